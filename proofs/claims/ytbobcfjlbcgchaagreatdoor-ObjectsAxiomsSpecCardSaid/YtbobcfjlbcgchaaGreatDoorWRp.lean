/-
  Rename: lists of renamings made one by one: two renamings together, what undoes one; plainly.
  Conditions: none.
-/
import Derived.Test.YtbobcfjlbcgchaaGreatDoorWSna
import Derived.Test.YtbobcfjlbcgchaaGreatDoorWGr
import Derived.Test.YtbobcfjlbcgchaaGreatDoorWQs
set_option linter.unnecessarySimpa false
set_option linter.unusedSectionVars false
set_option linter.unusedSimpArgs false
set_option linter.unusedVariables false
set_option maxHeartbeats 4000000
namespace Go.Proofs.YtbobcfjlbcgchaaGreatDoor
section
attribute [local irreducible] aK aF Tri aH
set_option maxRecDepth 10000
theorem oL (c:UInt8):Tri Tryz.prog 199 [bAm c] [] (λr=>r= .d (.bool (aTb c))):=by
 refine qG [] hty Tryz.func199 [0,2] ?_
 (repeat' first|(refine qW ?_;intros)|((conv=>whnf);first|refine dwR ?_|((first|refine aA ?_ ?_|refine aC ?_ ?_)<;>intro hb<;>(first|exact ddX hb|try simp only [lnS]at hb))|(refine aB ?_ ?_<;>intro hb<;>try exact dsX hb)))
 all_goals (refine bG (Bool.eq_iff_iff.2 ?_);simp only [aTb,Bool.or_eq_true,decide_eq_true_eq,true_iff,false_iff,Bool.false_eq_true];omega)
theorem aA0 (c:UInt8):Tri Tryz.prog 201 [bAm c] [] (λr=>r= .d (.bool (jH c))):=by
 refine qG [] hty Tryz.func201 [0,2] ?_
 (repeat' first|(refine qW ?_;intros)|((conv=>whnf);first|refine qT (oL c) ?_|refine dwR ?_|((first|refine aA ?_ ?_|refine aC ?_ ?_)<;>intro hb<;>(first|exact ddX hb|try simp only [lnS]at hb))|(refine aB ?_ ?_<;>intro hb<;>try exact dsX hb)))
 all_goals (refine bG (Bool.eq_iff_iff.2 ?_);simp only [jH, *,Bool.or_eq_true,decide_eq_true_eq,true_iff,false_iff,Bool.false_eq_true,true_or,or_true,false_or];try omega)
theorem rP (s:List UInt8):Tri Tryz.prog 150 [.d (.str s)] [] (λr=>r= .d (.bool (xX s))):=by
 cases s with
 |nil=>
  refine qG [] hty Tryz.func150 [0,2,3,16,20,27] ?_
  (repeat' first|(refine qW ?_;intros)|((conv=>whnf);first|refine dwR ?_|((first|refine aA ?_ ?_|refine aC ?_ ?_)<;>intro hb<;>(first|exact ddX hb|try simp only [lnS]at hb))|(refine aB ?_ ?_<;>intro hb<;>try exact dsX hb)))
  rfl
 |cons c r=>
  have g:xX (c::r)=(aTb c && ((c::r).all jH && !kwF (c::r))):=rfl
  rw [g]
  cases f:aTb c with
  |false=>
   refine qG [] hty Tryz.func150 [0,2,3,16,20,27] ?_
   (repeat' first|(refine qW ?_;intros)|((conv=>whnf);first|refine dwR ?_|((first|refine aA ?_ ?_|refine aC ?_ ?_)<;>intro hb<;>(first|exact ddX hb|try simp only [lnS]at hb))|(refine aB ?_ ?_<;>intro hb<;>try exact dsX hb)))
   refine aL [] (oL c) trivial (λs a=> ?_)
   rw [f]at a
   subst a
   (repeat' first|(refine qW ?_;intros)|((conv=>whnf);first|refine dwR ?_|((first|refine aA ?_ ?_|refine aC ?_ ?_)<;>intro hb<;>(first|exact ddX hb|try simp only [lnS]at hb))|(refine aB ?_ ?_<;>intro hb<;>try exact dsX hb)))
   rfl
  |true=>
   refine qG [] hty Tryz.func150 [0,2,3,16,20,27] ?_
   (repeat' first|(refine qW ?_;intros)|((conv=>whnf);first|refine dwR ?_|((first|refine aA ?_ ?_|refine aC ?_ ?_)<;>intro hb<;>(first|exact ddX hb|try simp only [lnS]at hb))|(refine aB ?_ ?_<;>intro hb<;>try exact dsX hb)))
   refine aL [] (oL c) trivial (λs a=> ?_)
   rw [f]at a
   subst a
   refine qX ?_;intros
   refine aL [] (aF6 (c::r)) trivial (λs a=> ?_)
   cases h2:kwF (c::r)with
   |true=>
    rw [h2]at a
    subst a
    (repeat' first|(refine qW ?_;intros)|((conv=>whnf);first|refine dwR ?_|((first|refine aA ?_ ?_|refine aC ?_ ?_)<;>intro hb<;>(first|exact ddX hb|try simp only [lnS]at hb))|(refine aB ?_ ?_<;>intro hb<;>try exact dsX hb)))
    exact bG (by simp)
   |false=>
    rw [h2]at a
    subst a
    ((conv=>whnf);repeat' ((first|(intro h;(try simp only [lnS]at h);(try rewrite [List.length_map]))|refine sJ ?_|refine qE_ ?_|refine exL (k:=?_)|refine dwR ?_|((first|refine aA ?_ ?_|refine aC ?_ ?_)<;>intro hb<;>(first|exact ddX hb|try simp only [lnS]at hb))|(refine aB ?_ ?_<;>intro hb<;>try exact dsX hb))<;>(conv=>whnf)))
    generalize hS:c::r=s
    refine aD hty (λk:Nat=>([(0, .d (.str s)),(3, .d (.int .i64 k))],[])) (λk=>k<=s.length/\(s.take k).all jH=true) (λk=>s.length - k) 0 (by simp) ⟨qB,qB⟩ ?_
    rintro k ⟨hk,b⟩
    refine qX ?_;intros
    refine aA (λf=> ?_) (λf=> ?_)
    ·have e:k < s.length:=by omega
     (repeat' first|(refine qW ?_;intros)|((conv=>whnf);first|refine dwR ?_|((first|refine aA ?_ ?_|refine aC ?_ ?_)<;>intro hb<;>(first|exact ddX hb|try simp only [lnS]at hb))|(refine aB ?_ ?_<;>intro hb<;>try exact dsX hb)))
     refine aL [] (aA0 _) trivial (λx a=> ?_)
     cases ht:jH s[(k:Int).toNat]with
     |false=>
      rw [ht]at a
      subst a
      (repeat' first|(refine qW ?_;intros)|((conv=>whnf);first|refine dwR ?_|((first|refine aA ?_ ?_|refine aC ?_ ?_)<;>intro hb<;>(first|exact ddX hb|try simp only [lnS]at hb))|(refine aB ?_ ?_<;>intro hb<;>try exact dsX hb)))
      rw [zG (k:=k) e ht];rfl
     |true=>
      rw [ht]at a
      subst a
      (repeat' first|(refine qW ?_;intros)|((conv=>whnf);first|refine dwR ?_|((first|refine aA ?_ ?_|refine aC ?_ ?_)<;>intro hb<;>(first|exact ddX hb|try simp only [lnS]at hb))|(refine aB ?_ ?_<;>intro hb<;>try exact dsX hb)))
      exact⟨k+1,⟨by omega,vX e b ht⟩,qO,⟨qB,qB⟩⟩
    ·rw [List.take_of_length_le (by omega)]at b
     (repeat' first|(refine qW ?_;intros)|((conv=>whnf);first|refine dwR ?_|((first|refine aA ?_ ?_|refine aC ?_ ?_)<;>intro hb<;>(first|exact ddX hb|try simp only [lnS]at hb))|(refine aB ?_ ?_<;>intro hb<;>try exact dsX hb)))
     rw [b];rfl
theorem bAf {s:List UInt8}(h1:2<=s.length) (h3:s[Int.toNat 0]'(by simp;omega)=95):(s.take 1).all jH=true:=by
 match s,h1,h3 with
 |c::r,_,h3=>simp at h3;subst h3;rfl
theorem aC3 (s:List UInt8):Tri Tryz.prog 151 [.d (.str s)] [] (λr=>r= .d (.bool (aF8 s))):=by
 by_cases f:2<=s.length
 ·by_cases i:s.length<=24
  ·by_cases c:s[Int.toNat 0]'(by simp;omega)=95
   ·have a:aF8 s=s.all jH:=by
     rw [aF8,aMw (by omega),c]
     simp [f,i]
    have g:((s[Int.toNat 0]'(by simp;omega)).toNat:Int)=95:=by rw [c];rfl
    rw [a]
    refine qG [] hty Tryz.func151 [0,2,3,16,20,27] ?_
    (repeat' first|(refine qW ?_;intros)|((conv=>whnf);first|refine dwR ?_|((first|refine aA ?_ ?_|refine aC ?_ ?_)<;>intro hb<;>(first|exact ddX hb|try simp only [lnS]at hb))|(refine aB ?_ ?_<;>intro hb<;>try exact dsX hb)))
    refine aD hty (λk:Nat=>([(0, .d (.str s)),(3, .d (.int .i64 k))],[])) (λk=>k<=s.length/\(s.take k).all jH=true) (λk=>s.length - k) 1 ⟨by omega, ?_⟩ ⟨qB,qB⟩ ?_
    ·exact bAf f c
    rintro k ⟨hk,b⟩
    (repeat' first|(refine qW ?_;intros)|((conv=>whnf);first|refine qT (aA0 _) ?_|refine dwR ?_|((first|refine aA ?_ ?_|refine aC ?_ ?_)<;>intro hb<;>(first|exact ddX hb|try simp only [lnS]at hb))|(refine aB ?_ ?_<;>intro hb<;>try exact dsX hb)))
    ·have h:jH s[(k:Int).toNat]=false:=by simpa using hb
     rw [zG (k:=k) (by omega) h];rfl
    ·have h:jH s[(k:Int).toNat]=true:=by simpa using hb
     exact⟨k+1,⟨by omega,vX (by omega) b h⟩,qO,⟨qB,qB⟩⟩
    ·rw [List.take_of_length_le (by omega)]at b
     rw [b];rfl
   ·have a:aF8 s=false:=by
     rw [aF8,aMw (by omega)]
     simp only [c,decide_false,Bool.false_and,Bool.and_false]
    have g:¬ ((s[Int.toNat 0]'(by simp;omega)).toNat:Int)=95:= λe=>c (u95 e)
    rw [a]
    refine qG [] hty Tryz.func151 [0,2,3,16,20,27] ?_
    (repeat' first|(refine qW ?_;intros)|((conv=>whnf);first|refine dwR ?_|((first|refine aA ?_ ?_|refine aC ?_ ?_)<;>intro hb<;>(first|exact ddX hb|try simp only [lnS]at hb))|(refine aB ?_ ?_<;>intro hb<;>try exact dsX hb)))
    rfl
  ·have a:aF8 s=false:=by rw [aF8];simp only [i,decide_false,Bool.false_and,Bool.and_false]
   rw [a]
   refine qG [] hty Tryz.func151 [0,2,3,16,20,27] ?_
   (repeat' first|(refine qW ?_;intros)|((conv=>whnf);first|refine dwR ?_|((first|refine aA ?_ ?_|refine aC ?_ ?_)<;>intro hb<;>(first|exact ddX hb|try simp only [lnS]at hb))|(refine aB ?_ ?_<;>intro hb<;>try exact dsX hb)))
   rfl
 ·have a:aF8 s=false:=by rw [aF8];simp only [f,decide_false,Bool.false_and,Bool.and_false]
  rw [a]
  refine qG [] hty Tryz.func151 [0,2,3,16,20,27] ?_
  (repeat' first|(refine qW ?_;intros)|((conv=>whnf);first|refine dwR ?_|((first|refine aA ?_ ?_|refine aC ?_ ?_)<;>intro hb<;>(first|exact ddX hb|try simp only [lnS]at hb))|(refine aB ?_ ?_<;>intro hb<;>try exact dsX hb)))
  rfl
theorem aTm {c:UInt8}: ∀{s:List UInt8},(∀x∈s,x≠c)->Lib.indexByte s c < 0
 | [],_=>by simp [Lib.indexByte]
 |x::s,h=>by
  have ih:=aTm (c:=c) (s:=s) λy a=>h y (List.mem_cons_of_mem _ a)
  have hx:=h x (List.mem_cons_self ..)
  simp only [Lib.indexByte,hx,if_false]
  split<;>(try split)<;>simp_all<;>omega
theorem bCc {c:UInt8}: ∀{s:List UInt8}{k:Nat}(h:k < s.length),(∀x∈s.take k,x≠c)->s[k]=c->Lib.indexByte s c=k
 |x::s,0,_,_,e=>by
  simp at e;subst e;simp [Lib.indexByte]
 |x::s,k+1,h,hn,e=>by
  have b:=bCc (c:=c) (s:=s) (k:=k) (by simpa using h) (λy a=>hn y (by simp [a])) (by simpa using e)
  have hx:=hn x (by simp)
  simp only [Lib.indexByte,hx,if_false,b]
  split<;>(try split)<;>simp_all<;>omega
theorem u58 {c:UInt8}(h:(c.toNat:Int)=58):c=58:=by
 have h9:(58:UInt8).toNat=58:=by decide
 exact UInt8.toNat_inj.1 (by omega)
theorem bFw {s:List UInt8}{k:Nat}(hk:k < s.length) (h: ∀x∈s.take k,x≠58) (hx:¬ ((s[(k:Int).toNat]'(by simpa using hk)).toNat:Int)=58): ∀x∈s.take (k+1),x≠58:=by
 rw [List.take_succ_eq_append_getElem hk]
 intro x a
 rcases List.mem_append.1 a with a|a
 ·exact h x a
 ·simp at a
  subst a
  intro e
  exact hx (by simp [e])
theorem kC (s:List UInt8):Tri Tryz.prog 93 [.d (.str s)] [] (λr=>r= .d (.bool (cA s))):=by
 by_cases f:s.length<=24
 ·refine qG [] hty Tryz.func93 [0,2,3,6,10,16] ?_
  (repeat' first|(refine qW ?_;intros)|((conv=>whnf);first|refine dwR ?_|((first|refine aA ?_ ?_|refine aC ?_ ?_)<;>intro hb<;>(first|exact ddX hb|try simp only [lnS]at hb))|(refine aB ?_ ?_<;>intro hb<;>try exact dsX hb)))
  refine aD hty (λk:Nat=>([(0, .d (.str s)),(3, .d (.int .i64 k))],[])) (λk=>k<=s.length/\ ∀x∈s.take k,x≠58) (λk=>s.length - k) 0 (by simp) ⟨qB,qB⟩ ?_
  rintro k ⟨hk,a⟩
  refine qX ?_;intros
  refine aA (λh=> ?_) (λh=> ?_)
  ·have b:k < s.length:=by omega
   ((conv=>whnf);repeat ((first|(refine Exists.intro (show (_:Nat) < List.length _ from by omega) ?_) |(intro j;try simp only [lnS]at j)|refine sI ?_|refine qE_ ?_);conv=>whnf))
   refine aA (λg=> ?_) (λg=> ?_)
   ·have e:Lib.indexByte s 58=k:=bCc b a (u58 g)
    have hp:cA s=(xX (s.take k) && xX (s.drop (k+1))):=by
     rw [cA,aXn,e]
     simp [f]
    have l:List.drop ((k:Int)+1).toNat (List.take s.length s)=s.drop (k+1):=by
     rw [List.take_length,show ((k:Int)+1).toNat=k+1 from by omega]
    rw [hp]
    cases h5:xX (s.take k)with
    |false=>
     (repeat' first|(refine qW ?_;intros)|((conv=>whnf);first|(refine aL [] (rP (s.take k)) trivial (λs c=> ?_);subst c;rw [h5])|refine dwR ?_|((first|refine aA ?_ ?_|refine aC ?_ ?_)<;>intro hb<;>(first|exact ddX hb|try simp only [lnS]at hb))|(refine aB ?_ ?_<;>intro hb<;>try exact dsX hb)))
     rfl
    |true=>
     (repeat' first|(refine qW ?_;intros)|((conv=>whnf);first|(refine aL [] (rP (s.take k)) trivial (λs c=> ?_);subst c;rw [h5])|refine dwR ?_|((first|refine aA ?_ ?_|refine aC ?_ ?_)<;>intro hb<;>(first|exact ddX hb|try simp only [lnS]at hb))|(refine aB ?_ ?_<;>intro hb<;>try exact dsX hb)))
     refine aL [] (rP _) trivial (λs c=> ?_)
     subst c
     refine qX ?_;intros
     refine bG ?_
     rw [l];rfl
   ·refine qX ?_;intros
    exact⟨k+1,⟨by omega,bFw b a g⟩,qO,⟨qB,qB⟩⟩
  ·rw [List.take_of_length_le (by omega)]at a
   have e:=aTm a
   have hp:cA s=xX s:=by
    rw [cA,aXn,if_neg (by omega)]
    simp [f]
   rw [hp]
   (repeat' first|(refine qW ?_;intros)|((conv=>whnf);first|refine qT (rP s) ?_|refine dwR ?_|((first|refine aA ?_ ?_|refine aC ?_ ?_)<;>intro hb<;>(first|exact ddX hb|try simp only [lnS]at hb))|(refine aB ?_ ?_<;>intro hb<;>try exact dsX hb)))
   rfl
 ·have i:cA s=false:=by rw [cA];simp only [f,decide_false,Bool.false_and,Bool.and_false]
  rw [i]
  refine qG [] hty Tryz.func93 [0,2,3,6,10,16] ?_
  (repeat' first|(refine qW ?_;intros)|((conv=>whnf);first|refine dwR ?_|((first|refine aA ?_ ?_|refine aC ?_ ?_)<;>intro hb<;>(first|exact ddX hb|try simp only [lnS]at hb))|(refine aB ?_ ?_<;>intro hb<;>try exact dsX hb)))
  rfl
theorem oS (s:List UInt8):Tri Tryz.prog 94 [.d (.str s)] [] (λr=>r= .d (.bool (fU s))):=by
 cases h1:cA s with
 |true=>
  refine qG [] hty Tryz.func94 [0,2] ?_
  (repeat' first|(refine qW ?_;intros)|((conv=>whnf);first|(refine aL [] (kC s) trivial (λs a=> ?_);subst a;rw [h1])|refine dwR ?_|((first|refine aA ?_ ?_|refine aC ?_ ?_)<;>intro hb<;>(first|exact ddX hb|try simp only [lnS]at hb))|(refine aB ?_ ?_<;>intro hb<;>try exact dsX hb)))
  rw [fU,h1];rfl
 |false=>
  refine qG [] hty Tryz.func94 [0,2] ?_
  (repeat' first|(refine qW ?_;intros)|((conv=>whnf);first|(refine aL [] (kC s) trivial (λs a=> ?_);subst a;rw [h1])|refine qT (aC3 s) ?_|refine dwR ?_|((first|refine aA ?_ ?_|refine aC ?_ ?_)<;>intro hb<;>(first|exact ddX hb|try simp only [lnS]at hb))|(refine aB ?_ ?_<;>intro hb<;>try exact dsX hb)))
  rw [fU,h1];rfl
end
section
attribute [local irreducible] aK aF Tri aH YVC cG aT
set_option maxRecDepth 10000
def jX (c:Cn):Bool:=
 if c.kind=1\/c.kind=2 then decide (c.lo=0) && (decide (c.hi=0) && (decide (c.name=[]) && decide (c.parts.length=0)))
 else if c.kind=3\/c.kind=4 then decide (c.lo=0) && (decide (c.hi=0) && decide (c.parts.length=0))
 else if c.kind=5 then decide (c.lo=0) && (decide (c.hi=0) && (decide (c.name=[]) && (decide (2<=c.parts.length) && decide (c.parts.length<=8))))
 else if c.kind=6 then decide (c.lo=0) && (decide (c.hi=0) && decide (c.parts.length=1))
 else if c.kind=7 then decide (c.parts.length=0) && (decide (-1099511627776<=c.lo) && (decide (c.lo<=c.hi) && decide (c.hi<=1099511627776)))
 else false
theorem aK5 (c:Cn):Tri Tryz.prog 202 [.d (.agg (cnR c))] [] (λr=>r= .d (.bool (jX c))):=by
 rw [aJ]
 unfold jX
 generalize hk:c.kind=k
 refine qG [1] hty Tryz.func202 [0,1,2,3,13,14,29,39,59,68] ?_
 (repeat' first|(refine qW ?_;intros)|((conv=>whnf);first|refine dwR ?_|((first|refine aA ?_ ?_|refine aC ?_ ?_)<;>intro hb<;>(first|exact ddX hb|try simp only [lnS]at hb))|(refine aB ?_ ?_<;>intro hb<;>try exact dsX hb)))
 all_goals (refine bG (Eq.symm ?_);simp_all<;>first|omega|(rw [Bool.eq_iff_iff];simp<;>omega))
def sX (c:Cn):Bool:=if c.kind=3\/c.kind=6\/c.kind=7 then cA c.name else if c.kind=4 then fU c.name else true
theorem aK9 (c:Cn):Tri Tryz.prog 203 [.d (.agg (cnR c))] [] (λr=>r= .d (.bool (sX c))):=by
 rw [aJ]
 have p1:=kC c.name
 have p2:=oS c.name
 unfold sX
 generalize hk:c.kind=k
 refine qG [1] hty Tryz.func203 [0,1,2,4,5,12] ?_
 (repeat' first|(refine qW ?_;intros)|((conv=>whnf);first|refine dwR ?_|((first|refine aA ?_ ?_|refine aC ?_ ?_)<;>intro hb<;>(first|exact ddX hb|try simp only [lnS]at hb))|(refine aB ?_ ?_<;>intro hb<;>try exact dsX hb)))
 all_goals (refine bG (Eq.symm ?_);simp_all)
theorem tL (c:Cn):bM c=if jX c=false then 21 else if sX c=false then 20 else 0:=by
 by_cases h:c.kind < 1\/7 < c.kind
 ·have e:jX c=false:=by
   unfold jX
   rw [if_neg (by omega),if_neg (by omega),if_neg (by omega),if_neg (by omega),if_neg (by omega)]
  rw [e,if_pos rfl,bM,if_pos h]
 ·have a:c.kind=1\/c.kind=2\/c.kind=3\/c.kind=4\/c.kind=5\/c.kind=6\/c.kind=7:=by omega
  have b:bM c=iE (gA c.kind) c:=by rw [bM,if_neg h]
  rw [b]
  clear b h
  have k:gA 1=⟨0,0,0,false⟩:=rfl
  have f:gA 2=⟨0,0,0,false⟩:=rfl
  have j:gA 3=⟨1,0,0,false⟩:=rfl
  have i:gA 4=⟨2,0,0,false⟩:=rfl
  have l:gA 5=⟨0,2,8,false⟩:=rfl
  have g:gA 6=⟨1,1,1,false⟩:=rfl
  have d:gA 7=⟨1,0,0,true⟩:=rfl
  unfold jX sX iE aFs fU
  generalize c.parts.length=m
  rcases a with a|a|a|a|a|a|a<;>rw [a]<;>simp only [k,f,j,i,l,g,d]
  all_goals
   cases cA c.name<;>cases aF8 c.name<;>simp
   all_goals (repeat' split)<;>simp_all<;>omega
theorem aDt: ∀(l m:List Cn),eE (l++m)=if eE l≠0 then eE l else eE m
 | [],m=>by simp [eE]
 |x::r,m=>by
  rw [List.cons_append,eE,eE,aDt r m]
  split<;>rfl
mutual
theorem aB8: ∀(c:Cn) (d n:Int),(fV c d n).1=true->(fV c d n).2=n+(aM c:Nat)
 | .mk k s lo hi ps,d,n=>by
  have e:aM (.mk k s lo hi ps)=(aX ps).length+1:=uH _
  rw [fV,e]
  split
  ·intro h;exact absurd h (by simp)
  ·intro h
   rw [aB7 ps d (n+1) h];omega
theorem aB7: ∀(l:List Cn) (d n:Int),(gV l d n).1=true->(gV l d n).2=n+((aX l).length:Nat)
 | [],d,n=>by intro _;rw [gV,aX];simp
 |c::r,d,n=>by
  have a:=aB8 c (d+1) n
  have e:(aX (c::r)).length=aM c+(aX r).length:=by rw [aX,List.length_append];rfl
  rw [gV,e]
  split
  ·rename_i hb
   intro h
   rw [aB7 r d _ h,a hb];omega
  ·intro h;exact absurd h (by simp)
end
mutual
theorem aDs: ∀(c:Cn) (d n:Int),((fV c d n).1=true↔d+cV c<=8/\n+aM c<=64)
 | .mk k s lo hi ps,d,n=>by
  have e:aM (.mk k s lo hi ps)=(aX ps).length+1:=uH _
  rw [fV,cV,e]
  split
  ·rename_i h
   simp only [Bool.false_eq_true,false_iff]
   omega
  ·rename_i h
   rw [aDr ps d (n+1) (by omega) (by omega)]
   omega
theorem aDr: ∀(l:List Cn) (d n:Int),d<=8->n<=64->((gV l d n).1=true↔d+dI l<=8/\n+(aX l).length<=64)
 | [],d,n,hd,hn=>by
  rw [gV,dI,aX]
  simp only [true_iff,List.length_nil]
  omega
 |c::r,d,n,hd,hn=>by
  have a:=aDs c (d+1) n
  have b:=aB8 c (d+1) n
  have e:(aX (c::r)).length=aM c+(aX r).length:=by rw [aX,List.length_append];rfl
  rw [gV,dI,e]
  split
  ·rename_i hb
   rw [hb]at a
   have a:=a.1 rfl
   rw [b hb,aDr r d _ hd (by omega)]
   omega
  ·rename_i hb
   have a:¬ (d+1+cV c<=8/\n+aM c<=64):= λh=>hb (a.2 h)
   simp only [Bool.false_eq_true,false_iff]
   omega
end
theorem aL1 (c:Cn):bC c=if 8 < cV c\/64 < aM c then 21 else eE (fT c):=by
 have h:=aDs c 0 0
 unfold bC
 split
 ·rename_i a
  rw [a]at h
  rw [if_pos]
  have h:¬ ((0:Int)+cV c<=8/\(0:Int)+aM c<=64):= λb=>absurd (h.2 b) (by decide)
  omega
 ·rename_i a
  have a:(fV c 0 0).1=true:=by simpa using a
  have h1:=h.1 a
  rw [if_neg]
  omega
theorem aOm: ∀(c:Cn),Tri Tryz.prog 154 [.d (.agg (cnR c))] [] (λr=>r= .d (.int .i64 (eE (fT c)))):=by
 refine Cn.ind ?_
 intro c g
 have f:=aK5 c
 have h:=aK9 c
 rw [dO,eE,tL]
 rw [aJ]at f h |-
 generalize jX c=b1 at *
 generalize sX c=b2 at *
 refine qG [1] hty Tryz.func154 [0,1,2,3,4,7,10,15,25] ?_
 (repeat' first|(refine qW ?_;intros)|((conv=>whnf);first|refine dwR ?_|((first|refine aA ?_ ?_|refine aC ?_ ?_)<;>intro hb<;>(first|exact ddX hb|try simp only [lnS]at hb))|(refine aB ?_ ?_<;>intro hb<;>try exact dsX hb)))
 ·subst_vars;simp_all;rfl
 ·subst_vars;simp_all;rfl
 ·have e1:b1=true:=by simpa using (by assumption:(!b1)=false)
  have e2:b2=true:=by simpa using (by assumption:(!b2)=false)
  subst e1;subst e2
  rw [if_neg (by simp)]
  refine aD hty (λj:Nat=>([(1, .ea 5 [[.int .i64 c.kind, .str c.name, .int .i64 c.lo, .int .i64 c.hi, .sl 5 (c.parts.map cnR)]] 0 0),(2, .d (.int .i64 0)),(3, .d (.int .i64 j))],[])) (λj=>j<=c.parts.length/\eE (aX c.parts)=eE (aX (c.parts.drop j))) (λj=>c.parts.length - j) 0 ⟨by omega,rfl⟩ ⟨by repeat' (first|exact trivial|exact rfl|exact⟨rfl,rfl⟩|refine And.intro ?_ ?_),trivial⟩ ?_
  rintro j ⟨hj,e⟩
  refine qX ?_;intros
  refine aA (λf=> ?_) (λf=> ?_)
  ·have a:j < c.parts.length:=by simp only [List.length_map]at f;omega
   have b:(c.parts.map cnR)[(j:Int).toNat]? =some (cnR c.parts[j]):=bA a
   have hi:=g c.parts[j] (List.getElem_mem a)
   rw [List.drop_eq_getElem_cons a,aX,aDt]at e
   generalize c.parts[j]=x at b hi e
   rw [aJ]at b hi
   (repeat' first|(refine qW ?_;intros)|((conv=>whnf);first|refine dwR ?_|((first|refine aA ?_ ?_|refine aC ?_ ?_)<;>intro hb<;>(first|exact ddX hb|try simp only [lnS]at hb))|(refine aB ?_ ?_<;>intro hb<;>try exact dsX hb)))
   ·rw [if_pos (by assumption)]at e
    exact cM e.symm
   ·rw [if_neg (by simpa using (by assumption:eE (fT x)=0))]at e
    exact⟨j+1,⟨by omega,e⟩,qO,qB,trivial⟩
  ·have a:j=c.parts.length:=by simp only [List.length_map]at f;omega
   subst a
   rw [List.drop_length]at e
   (repeat' first|(refine qW ?_;intros)|((conv=>whnf);first|refine dwR ?_|((first|refine aA ?_ ?_|refine aC ?_ ?_)<;>intro hb<;>(first|exact ddX hb|try simp only [lnS]at hb))|(refine aB ?_ ?_<;>intro hb<;>try exact dsX hb)))
   exact cM e.symm
theorem aKa: ∀(c:Cn) (_:aM c<=1000000),Tri Tryz.prog 152 [.d (.agg (cnR c))] [] (λr=>r= .d (.int .i64 (cV c))):=by
 refine Cn.ind ?_
 intro c f hs
 rw [aJ,kN]
 refine qG [1] hty Tryz.func152 [0,1,2,3,4,9] ?_
 refine qX ?_;intros
 refine aD hty (λj:Nat=>([(1, .ea 5 [[.int .i64 c.kind, .str c.name, .int .i64 c.lo, .int .i64 c.hi, .sl 5 (c.parts.map cnR)]] 0 0),(3, .d (.int .i64 (dI (c.parts.take j):Nat))),(4, .d (.int .i64 j))],[])) (λj=>j<=c.parts.length) (λj=>c.parts.length - j) 0 (by omega) ⟨by repeat' (first|exact trivial|exact rfl|exact⟨rfl,rfl⟩|refine And.intro ?_ ?_),trivial⟩ ?_
 intro j hj
 refine qX ?_;intros
 refine aA (λe=> ?_) (λe=> ?_)
 ·have a:j < c.parts.length:=by simp only [List.length_map]at e;omega
  have b:(c.parts.map cnR)[(j:Int).toNat]? =some (cnR c.parts[j]):=bA a
  have hi:=f c.parts[j] (List.getElem_mem a) (by have:=fK (List.getElem_mem (l:=c.parts) a);omega)
  have hd1:=xB c.parts[j]
  have hd2:=fK (List.getElem_mem (l:=c.parts) a)
  rw [aJ]at b hi
  (repeat' first|(refine qW ?_;intros)|((conv=>whnf);first|(refine⟨_,b, ?_⟩)|refine qT hi ?_|(refine aX2 rfl rfl rfl ?_)|refine dwR ?_|((first|refine aA ?_ ?_|refine aC ?_ ?_)<;>intro hb<;>(first|exact ddX hb|try simp only [lnS]at hb))|(refine aB ?_ ?_<;>intro hb<;>try exact dsX hb)))
  refine⟨j+1,qO,qO,⟨?_,trivial⟩⟩
  dsimp only
  rw [aKz a]
  repeat' (first|exact trivial|exact rfl|exact aLj (by omega)|exact⟨rfl,rfl⟩|refine And.intro ?_ ?_)
 ·have a:j=c.parts.length:=by simp only [List.length_map]at e;omega
  subst a
  rw [List.take_length]
  (repeat' first|(refine qW ?_;intros)|((conv=>whnf);first|refine dwR ?_|((first|refine aA ?_ ?_|refine aC ?_ ?_)<;>intro hb<;>(first|exact ddX hb|try simp only [lnS]at hb))|(refine aB ?_ ?_<;>intro hb<;>try exact dsX hb)))
  rfl
theorem lD (c:Cn) (hs:aM c<=1000000):Tri Tryz.prog 95 [.d (.agg (cnR c))] [] (λr=>r= .d (.int .i64 (bC c))):=by
 have b:=aKa c hs
 have f:=mC c hs
 have g:=aOm c
 have a:=aL1 c
 rw [a]
 rw [aJ]at b f g |-
 clear a
 have hd:=xB c
 generalize eE (fT c)=e at *
 generalize cV c=d at *
 generalize aM c=z at *
 refine qG [1] hty Tryz.func95 [0,1,2,10] ?_
 (repeat' first|(refine qW ?_;intros)|((conv=>whnf);first|refine dwR ?_|((first|refine aA ?_ ?_|refine aC ?_ ?_)<;>intro hb<;>(first|exact ddX hb|try simp only [lnS]at hb))|(refine aB ?_ ?_<;>intro hb<;>try exact dsX hb)))
 all_goals (first|(rw [if_neg (by omega)];rfl)|(rw [if_pos (by omega)];rfl))
end
section
structure RenOK (g:Int->List UInt8->List UInt8):Prop where
 plain: ∀k s,cA s=true->cA (g k s)=true
 name: ∀k s,fU s=true->fU (g k s)=true
theorem aRv (k:Int) (n:List UInt8) (lo hi:Int) (ps:List Cn):jX (.mk k n lo hi ps)=
 if k=1\/k=2 then decide (lo=0) && (decide (hi=0) && (decide (n=[]) && decide (ps.length=0)))
 else if k=3\/k=4 then decide (lo=0) && (decide (hi=0) && decide (ps.length=0))
 else if k=5 then decide (lo=0) && (decide (hi=0) && (decide (n=[]) && (decide (2<=ps.length) && decide (ps.length<=8))))
 else if k=6 then decide (lo=0) && (decide (hi=0) && decide (ps.length=1))
 else if k=7 then decide (ps.length=0) && (decide (-1099511627776<=lo) && (decide (lo<=hi) && decide (hi<=1099511627776)))
 else false:=rfl
theorem aT5 (k:Int) (n:List UInt8) (lo hi:Int) (ps:List Cn):sX (.mk k n lo hi ps)=if k=3\/k=6\/k=7 then cA n else if k=4 then fU n else true:=rfl
theorem aK4 {g:Int->List UInt8->List UInt8}(hg:RenOK g) {c:Cn}(h:bM c=0):bM (cT g c)=0:=by
 rw [tL]at h |-
 have b:jX c=true:=by
  cases e:jX c
  ·rw [e,if_pos rfl]at h;cases h
  ·rfl
 rw [b,if_neg (by decide)]at h
 have a:sX c=true:=by
  cases e:sX c
  ·rw [e,if_pos rfl]at h;cases h
  ·rfl
 have p:jX (cT g c)=true:=by
  rw [lP]
  obtain⟨k,n,lo,hi,ps⟩:=c
  show jX (.mk k (aUv g k n) lo hi (ps.map (cT g)))=true
  rw [aRv]at b |-
  simp only [List.length_map,aUv]at b |-
  by_cases l:k=1
  ·subst l;simpa using b
  by_cases o:k=2
  ·subst o;simpa using b
  by_cases f:k=3
  ·subst f;simpa using b
  by_cases d:k=4
  ·subst d;simpa using b
  by_cases m:k=5
  ·subst m;simpa using b
  by_cases j:k=6
  ·subst j;simpa using b
  by_cases i:k=7
  ·subst i;simpa using b
  simp [l,o,f,d,m,j,i]at b
 have q:sX (cT g c)=true:=by
  rw [lP]
  obtain⟨k,n,lo,hi,ps⟩:=c
  show sX (.mk k (aUv g k n) lo hi (ps.map (cT g)))=true
  rw [aT5]at a |-
  simp only [aUv]at a |-
  by_cases f:k=3
  ·subst f
   have a:cA n=true:=by simpa using a
   simpa using hg.plain _ _ a
  by_cases j:k=6
  ·subst j
   have a:cA n=true:=by simpa using a
   simpa using hg.plain _ _ a
  by_cases i:k=7
  ·subst i
   have a:cA n=true:=by simpa using a
   simpa using hg.plain _ _ a
  by_cases d:k=4
  ·subst d
   have a:fU n=true:=by simpa using a
   simpa using hg.name _ _ a
  simp [f,d,j,i]
 rw [p,q];simp
theorem yP {g:Int->List UInt8->List UInt8}(hg:RenOK g): ∀c:Cn,Okn c->Okn (cT g c):=by
 refine Cn.ind ?_
 intro c b h
 rw [fS]at h |-
 refine⟨aK4 hg h.1,λp hp=> ?_⟩
 rw [dD]at hp
 obtain⟨q,a,rfl⟩:=List.mem_map.1 hp
 exact b q a (h.2 q a)
theorem aSd (g:Int->List UInt8->List UInt8): ∀c:Cn,aM (cT g c)=aM c:=by
 refine Cn.ind ?_
 intro c a
 rw [cP,cP,dD]
 congr 1
 revert a
 generalize c.parts=l
 induction l with
 |nil=>intro _;rfl
 |cons x r ihr=>
  intro a
  rw [List.map_cons,bP,bP,a x (by simp),ihr λq b=>a q (by simp [b])]
theorem aOl (g:Int->List UInt8->List UInt8): ∀c:Cn,cV (cT g c)=cV c:=by
 refine Cn.ind ?_
 intro c a
 rw [kN,kN,dD]
 revert a
 generalize c.parts=l
 induction l with
 |nil=>intro _;rfl
 |cons x r ihr=>
  intro a
  rw [List.map_cons,dI,dI,a x (by simp),ihr λq b=>a q (by simp [b])]
theorem xL {g:Int->List UInt8->List UInt8}(hg:RenOK g) {c:Cn}(h:bC c=0):bC (cT g c)=0:=by
 obtain⟨b,d,a⟩:=(eH c).1 h
 exact(eH _).2 ⟨by rw [aOl];exact b,by rw [aSd];exact d,yP hg c a⟩
mutual
def aYs:Cn->Bool
 | .mk k _ _ _ ps=>if k=2 then true else if k=5\/k=6 then aUx ps else false
def aUx:List Cn->Bool
 | []=>false
 |c::r=>aYs c || aUx r
end
theorem sA: ∀l,aUx l=true↔ ∃p∈l,aYs p=true
 | []=>by simp [aUx]
 |c::r=>by rw [aUx,Bool.or_eq_true,sA r];simp
theorem aBn (c:Cn):aYs c=if c.kind=2 then true else if c.kind=5\/c.kind=6 then aUx c.parts else false:=by cases c;rw [aYs];rfl
theorem aM5 (g:Int->List UInt8->List UInt8): ∀c:Cn,aYs (cT g c)=aYs c:=by
 refine Cn.ind ?_
 intro c b
 rw [aBn,aBn,cZ,dD]
 have:aUx (c.parts.map (cT g))=aUx c.parts:=by
  rw [Bool.eq_iff_iff,sA,sA]
  constructor
  ·rintro⟨p,hp,h⟩
   obtain⟨q,a,rfl⟩:=List.mem_map.1 hp
   exact⟨q,a,by rw [<-b q a];exact h⟩
  ·rintro⟨q,a,h⟩
   exact⟨_,List.mem_map_of_mem a,by rw [b q a];exact h⟩
 rw [this]
theorem zD {s:List Cn}(hb: ∀t∈s,t.kind≠2) (h0:(eV s).2=0):(s=[]/\(eV s).1=aQb)\/(∃x,s=[x]/\(eV s).1=x)\/((eV s).1= .mk 5 [] 0 0 s/\2<=s.length/\s.length<=8):=by
 have c:s.find? (λt=>decide (t.kind=2))=none:=List.find?_eq_none.2 λt b a=>hb t b (by simpa using a)
 unfold eV at h0 |-
 rw [c]at h0 |-
 simp only at h0 |-
 split
 ·rename_i e;exact .inl ⟨List.eq_nil_of_length_eq_zero e,rfl⟩
 ·rename_i d
  rw [if_neg d]at h0
  split
  ·rename_i e1
   obtain⟨x,rfl⟩:=List.length_eq_one_iff.1 e1
   exact .inr (.inl ⟨x,rfl,rfl⟩)
  ·rename_i e1
   rw [if_neg e1]at h0
   split
   ·rename_i e2;rw [if_pos e2]at h0;cases h0
   ·exact .inr (.inr ⟨rfl,by omega,by omega⟩)
theorem tN {s:List Cn}(h:s.length<=8):(eV s).2=0:=by
 unfold eV
 split
 ·rfl
 ·split
  ·rfl
  ·split
   ·rfl
   ·rw [if_neg (by omega)]
theorem iH {c:Cn}(hk:c.kind=5):aI c=kI (c.parts.map aI):=by rw [eX,if_neg (by omega),if_pos hk]
theorem iQ {c:Cn}(h5:c.kind≠5) (h6:c.kind≠6):aI c=(c,0):=by rw [eX,if_neg h6,if_neg h5]
theorem jS {c p:Cn}(hk:c.kind=6) (hp:c.parts=[p]):aI c=if (aI p).2≠0\/(aI p).1.kind=2 then aI p else (.mk 6 c.name 0 0 [(aI p).1],0):=by
 rw [eX,if_pos hk,hp];rfl
theorem aMg {c:Cn}(h:Okn c) (hk:c.kind=6): ∃p,c.parts=[p]/\Okn p:=by
 have a:=((fS c).1 h).1
 rw [mM hk (by decide),iU rfl]at a
 have h1:(1:Int)<=(c.parts.length:Int):=a.1.1
 have h2:(c.parts.length:Int)<=1:=a.1.2.1
 obtain⟨p,hp⟩:=List.length_eq_one_iff.1 (show c.parts.length=1 by omega)
 exact⟨p,hp,((fS c).1 h).2 p (by rw [hp];simp)⟩
theorem tH {c:Cn}(h0:(aI c).2=0) (hk:(aI c).1.kind≠2): ∀m∈bS (aI c).1,m.kind≠2:=by
 have b: ∀x:Cn,x.kind≠2->x.kind≠5-> ∀m∈bS x,m.kind≠2:= λx i g m a=>by
  unfold bS at a
  split at a
  ·simp at a
  ·have a:m∈[x]:=by simpa only [if_neg g]using a
   simp only [List.mem_singleton]at a
   subst a;exact i
 by_cases g:c.kind=5
 ·rw [iH g]at h0 hk |-
  have hz:=mH h0
  rw [kH hz]at h0 hk |-
  have d: ∀m∈nR (kW c.parts),m.kind≠1/\m.kind≠5:= λm a=>by
   rw [dX,dP]at a
   obtain⟨p,hp,a⟩:=a
   exact vI p (hz p hp) m a
  generalize nR (kW c.parts)=s at h0 hk d |-
  by_cases hb: ∃t∈s,t.kind=2
  ·exfalso
   unfold eV at hk
   split at hk
   ·rename_i t f
    have:=List.find?_some f
    simp only [decide_eq_true_eq]at this
    exact hk this
   ·rename_i j
    obtain⟨t,f,e⟩:=hb
    have:=List.find?_eq_none.1 j t f
    simp [e]at this
  ·have hb: ∀t∈s,t.kind≠2:= λt f e=>hb ⟨t,f,e⟩
   rcases zD hb h0 with⟨rfl,e⟩|⟨x,rfl,e⟩|⟨e,_⟩<;>rw [e]
   ·exact b _ (by show (1:Int)≠2;decide) (by show (1:Int)≠5;decide)
   ·exact b _ (hb x (by simp)) (d x (by simp)).2
   ·intro m a
    rw [show bS (.mk 5 [] 0 0 s)=s from rfl]at a
    exact hb m a
 ·by_cases h:c.kind=6
  ·refine b _ hk ?_
   rw [eX,if_pos h]at h0 hk |-
   cases hp:c.parts with
   |nil=>show (0:Int)≠5;decide
   |cons p r=>
    rw [hp]at h0 hk
    simp only [List.map_cons,uG]at h0 hk |-
    split
    ·rename_i hb
     rw [if_pos hb]at h0 hk
     exfalso
     rcases hb with hb|hb
     ·exact hb h0
     ·exact hk hb
    ·show (6:Int)≠5;decide
  ·rw [iQ g h]at hk |-
   exact b _ hk g
theorem aSo {c:Cn}(h5:c.kind=5) (h0:(aI c).2=0) (hk:(aI c).1.kind≠2) (x:Cn):x∈bS (aI c).1↔ ∃p∈c.parts,x∈bS (aI p).1:=by
 have a:=tH h0 hk
 rw [iH h5]at h0 hk a |-
 have hz:=mH h0
 rw [kH hz]at h0 hk a |-
 rw [<-dP,<-dX (l:=kW c.parts)]
 have b: ∀m∈nR (kW c.parts),m.kind≠1/\m.kind≠5:= λm d=>by
  rw [dX,dP]at d
  obtain⟨p,hp,d⟩:=d
  exact vI p (hz p hp) m d
 generalize nR (kW c.parts)=s at h0 hk a b |-
 have hb: ∀t∈s,t.kind≠2:= λt f e=>by
  unfold eV at hk
  split at hk
  ·rename_i t f
   have:=List.find?_some f
   simp only [decide_eq_true_eq]at this
   exact hk this
  ·rename_i g
   have:=List.find?_eq_none.1 g t f
   simp [e]at this
 rcases zD hb h0 with⟨rfl,e⟩|⟨y,rfl,e⟩|⟨e,_⟩<;>rw [e]
 ·simp [bS,aQb,Cn.kind]
 ·have:=b y (by simp)
  unfold bS
  rw [if_neg this.1,if_neg this.2]
 ·rfl
theorem rJ: ∀c:Cn,Okn c->(aI c).2=0->((aI c).1.kind=2↔aYs c=true):=by
 refine Cn.ind ?_
 intro c l g u
 have hp:=((fS c).1 g).2
 rw [aBn]
 by_cases i:c.kind=5
 ·rw [if_neg (by omega),if_pos (.inl i),sA]
  have b:=u
  rw [iH i]at b
  have hz:=mH b
  constructor
  ·intro f
   refine Classical.byContradiction λr=> ?_
   have r: ∀p∈c.parts,(aI p).1.kind≠2:= λp a e=>r ⟨p,a,(l p a (hp p a) (hz p a)).1 e⟩
   rw [iH i,kH hz]at f
   rw [kH hz]at b
   have hb: ∀t∈nR (kW c.parts),t.kind≠2:= λt n=>by
    rw [dX,dP]at n
    obtain⟨p,a,n⟩:=n
    exact tH (hz p a) (r p a) t n
   rcases zD hb b with⟨e1,e⟩|⟨y,e1,e⟩|⟨e,_⟩<;>rw [e]at f
   ·exact absurd f (by show (1:Int)≠2;decide)
   ·exact hb y (by rw [e1];simp) f
   ·exact absurd f (by show (5:Int)≠2;decide)
  ·rintro⟨p,a,hb⟩
   have f:=(l p a (hp p a) (hz p a)).2 hb
   rw [iH i,kH hz]
   have e := aIu (s := nR (kW c.parts)) (λm j => by
    rw [dX,dP]at j
    obtain⟨q,v,j⟩:=j
    exact aDe (lY q (hp q v) (hz q v)).ok j) ⟨(aI p).1,by
     rw [dX,dP]
     refine⟨p,a, ?_⟩
     unfold bS
     rw [if_neg (by omega),if_neg (by omega)];simp,f⟩
   rw [e];rfl
 ·by_cases k:c.kind=6
  ·obtain⟨p,d,h⟩:=aMg g k
   have a:p∈c.parts:=by rw [d];simp
   rw [if_neg (by omega),if_pos (.inr k),d]
   have b:=u
   rw [jS k d]at b |-
   have hl:aUx [p]=aYs p:=by simp [aUx]
   rw [hl]
   split
   ·rename_i hb
    rw [if_pos hb]at b
    exact l p a h b
   ·rename_i hb
    have w:(aI p).2=0:=by omega
    rw [<-l p a h w]
    constructor
    ·intro e;exact absurd e (by show (6:Int)≠2;decide)
    ·intro e;exact absurd (.inr e) hb
  ·rw [iQ i k]
   split
   ·rename_i o;simp [o]
   ·rename_i o
    rw [if_neg (by omega)]
    simp [o]
theorem aV8 {g:Int->List UInt8->List UInt8}(hg:RenOK g): ∀c:Cn,Okn c->(aI c).2=0->(aI (cT g c)).2=0/\aI (cT g (aI c).1)=aI (cT g c):=by
 refine Cn.ind ?_
 intro c Z n I
 have hp:=((fS c).1 n).2
 have o:cT g (.mk 2 [] 0 0 [])= .mk 2 [] 0 0 []:=by rw [lP];rfl
 by_cases K:c.kind=5
 ·have h:=I
  rw [iH K]at h
  have hz:=mH h
  have l: ∀p∈c.parts,(aI (cT g p)).2=0:= λp a=>(Z p a (hp p a) (hz p a)).1
  have U: ∀p∈c.parts,aI (cT g (aI p).1)=aI (cT g p):= λp a=>(Z p a (hp p a) (hz p a)).2
  have A:(cT g c).kind=5:=by rw [cZ];exact K
  have W: ∀p∈(cT g c).parts,(aI p).2=0:= λq b=>by
   rw [dD]at b
   obtain⟨p,a,rfl⟩:=List.mem_map.1 b
   exact l p a
  have hR:aI (cT g c)=eV (nR (kW (cT g c).parts)):=by rw [iH A,kH W]
  have hC:aI c=eV (nR (kW c.parts)):=by rw [iH K,kH hz]
  by_cases hb:(aI c).1.kind=2
  ·have M:=(rJ c n I).1 hb
   have e1:(aI c).1= .mk 2 [] 0 0 []:=aBm (lY c n I).ok hb
   -- a part is empty
   rw [aBn,if_neg (by omega),if_pos (.inl K),sA]at M
   obtain⟨p,a,a2⟩:=M
   have G:(aI (cT g p)).1.kind=2:=(rJ _ (yP hg p (hp p a)) (l p a)).2 (by rw [aM5];exact a2)
   have e2:aI (cT g c)=(.mk 2 [] 0 0 [],0):=by
    rw [hR]
    refine aIu (λm T=> ?_) ⟨(aI (cT g p)).1, ?_,G⟩
    ·rw [dX,dP]at T
     obtain⟨q,b,T⟩:=T
     have hq':=b
     rw [dD]at b
     obtain⟨j,d,rfl⟩:=List.mem_map.1 b
     exact aDe (lY _ (yP hg j (hp j d)) (l j d)).ok T
    ·rw [dX,dP]
     refine⟨cT g p,by rw [dD];exact List.mem_map_of_mem a, ?_⟩
     unfold bS
     rw [if_neg (by omega),if_neg (by omega)];simp
   rw [e2,e1,o]
   exact⟨rfl,iQ (by show (2:Int)≠5;decide) (by show (2:Int)≠6;decide)⟩
  ·-- no part is empty
   have N : ∀ p ∈ c.parts, (aI p).1.kind ≠ 2 := λp a e => hb ((rJ c n I).2 (by
    rw [aBn,if_neg (by omega),if_pos (.inl K),sA]
    exact⟨p,a,(rJ p (hp p a) (hz p a)).1 e⟩))
   have a6: ∀p∈c.parts,(aI (cT g p)).1.kind≠2:= λp a e=>by
    have D:=(rJ _ (yP hg p (hp p a)) (l p a)).1 e
    rw [aM5]at D
    exact N p a ((rJ p (hp p a) (hz p a)).2 D)
   obtain⟨S,hS⟩: ∃S,S=nR (kW c.parts):=⟨_,rfl⟩
   have s: ∀x,x∈S↔ ∃p∈c.parts,x∈bS (aI p).1:= λx=>by rw [hS,dX,dP]
   have Q: ∀t∈S,t.kind≠2:= λt B=>by
    obtain⟨p,a,B⟩:=(s t).1 B
    exact tH (hz p a) (N p a) t B
   have a4: ∀t∈S,t.kind≠1/\t.kind≠5:= λt B=>by
    obtain⟨p,a,B⟩:=(s t).1 B
    exact vI p (hz p a) t B
   -- the parts of the forms, renamed
   have f: ∀p∈c.parts,(∀q∈bS (aI p).1,(aI (cT g q)).2=0)/\ ∀x,x∈bS (aI (cT g p)).1↔ ∃q∈bS (aI p).1,x∈bS (aI (cT g q)).1:=by
    intro p a
    have e:=U p a
    have z:=l p a
    have nb:=a6 p a
    rw [<-e]at z nb |-
    generalize (aI p).1=t at z nb |-
    unfold bS
    by_cases D:t.kind=1
    ·rw [if_pos D]
     refine⟨by simp,λx=> ?_⟩
     rw [iQ (by rw [cZ];omega) (by rw [cZ];omega),if_pos (by rw [cZ];exact D)]
     simp
    ·rw [if_neg D]
     by_cases F:t.kind=5
     ·rw [if_pos F]
      have A:(cT g t).kind=5:=by rw [cZ];exact F
      have z':=z
      rw [iH A]at z'
      have L:=mH z'
      rw [dD]at L
      refine⟨λq b=>L _ (List.mem_map_of_mem b),λx=> ?_⟩
      have:=aSo A z nb x
      unfold bS at this
      rw [this,dD]
      constructor
      ·rintro⟨q,b,hx⟩
       obtain⟨j,d,rfl⟩:=List.mem_map.1 b
       exact⟨j,d,hx⟩
      ·rintro⟨q,b,hx⟩
       exact⟨_,List.mem_map_of_mem b,hx⟩
     ·rw [if_neg F]
      refine⟨λq b=> ?_,λx=> ?_⟩
      ·simp only [List.mem_singleton]at b
       subst b;exact z
      ·simp
   have H: ∀q∈S,(aI (cT g q)).2=0:= λq b=>by
    obtain⟨p,a,b⟩:=(s q).1 b
    exact(f p a).1 q b
   have hU: ∀x,x∈kW (cT g c).parts↔x∈kW (S.map (cT g)):= λx=>by
    rw [dP,dP,dD]
    constructor
    ·rintro⟨p,a,hx⟩
     obtain⟨R,v,rfl⟩:=List.mem_map.1 a
     obtain⟨q,b,hx⟩:=((f R v).2 x).1 hx
     exact⟨cT g q,List.mem_map_of_mem ((s q).2 ⟨R,v,b⟩),hx⟩
    ·rintro⟨q,b,hx⟩
     obtain⟨j,d,rfl⟩:=List.mem_map.1 b
     obtain⟨R,v,Y⟩:=(s j).1 d
     exact⟨cT g R,List.mem_map_of_mem v,((f R v).2 x).2 ⟨j,Y,hx⟩⟩
   have a1:aI (cT g c)=eV (nR (kW (S.map (cT g)))):=by rw [hR,aOe hU]
   -- each stands for one
   have C: ∀q∈S,bS (aI (cT g q)).1=[(aI (cT g q)).1]:= λq b=>by
    have G:=a4 q b
    have hk2:=Q q b
    have z:=H q b
    by_cases y:q.kind=6
    ·have w:(cT g q).kind=6:=by rw [cZ];exact y
     have:(aI (cT g q)).1.kind=6\/(aI (cT g q)).1.kind=2\/(aI (cT g q)).1.kind=0:=by
      rw [eX,if_pos w]at z |-
      cases i:(cT g q).parts with
      |nil=>exact .inr (.inr rfl)
      |cons u r=>
       rw [i]at z
       simp only [List.map_cons,uG]at z |-
       split
       ·rename_i k
        rw [if_pos k]at z
        rcases k with k|k
        ·exact absurd z k
        ·exact .inr (.inl k)
       ·exact .inl rfl
     unfold bS
     rw [if_neg (by omega),if_neg (by omega)]
    ·rw [iQ (by rw [cZ];exact G.2) (by rw [cZ];exact y)]
     unfold bS
     rw [if_neg (by rw [cZ];exact G.1),if_neg (by rw [cZ];exact G.2)]
   have E:(nR (kW (S.map (cT g)))).length<=S.length:=by
    have D: ∀x∈nR (kW (S.map (cT g))),x∈S.map λq=>(aI (cT g q)).1:= λx hx=>by
     rw [dX,dP]at hx
     obtain⟨q,b,hx⟩:=hx
     obtain⟨j,d,rfl⟩:=List.mem_map.1 b
     rw [C j d,List.mem_singleton]at hx
     exact List.mem_map.2 ⟨j,d,hx.symm⟩
    have:=List.Nodup.length_le_of_subset (aRj (uF _)) D
    rwa [List.length_map]at this
   rw [hC,<-hS]at I
   have a5:(aI c).1=(eV S).1:=by rw [hC,<-hS]
   rw [a5,a1]
   rcases zD Q I with⟨e1,e⟩|⟨x,e1,e⟩|⟨e,l2,l8⟩
   ·rw [e,e1]
    refine⟨tN (by show (0:Nat)<=8;decide), ?_⟩
    rw [lP];rfl
   ·rw [e,e1]
    rw [e1]at E
    simp only [List.length_cons,List.length_nil]at E
    refine⟨tN (by omega), ?_⟩
    have hx:x∈S:=by rw [e1];simp
    have z:=H x hx
    have e3:kW ([x].map (cT g))=[(aI (cT g x)).1]:=by
     have:=C x hx
     simp [kW,this]
    rw [e3]
    have e4:nR [(aI (cT g x)).1]=[(aI (cT g x)).1]:=aRw (by simp [aLd])
    rw [e4]
    unfold eV
    rw [show aI (cT g x)=((aI (cT g x)).1,0)from Prod.ext rfl z]
    split
    ·rename_i t B
     have:=List.mem_of_find?_eq_some B
     simp only [List.mem_singleton]at this
     rw [this]
    ·rfl
   ·rw [e]
    refine⟨tN (by omega), ?_⟩
    rw [iH (by rw [cZ];rfl),dD]
    show kI ((S.map (cT g)).map aI)=_
    refine kH λq b=> ?_
    obtain⟨j,d,rfl⟩:=List.mem_map.1 b
    exact H j d
 ·by_cases y:c.kind=6
  ·obtain⟨p,i,P⟩:=aMg n y
   have a:p∈c.parts:=by rw [i];simp
   have w:(cT g c).kind=6:=by rw [cZ];exact y
   have J:(cT g c).parts=[cT g p]:=by rw [dD,i];rfl
   have h:=I
   rw [jS y i]at h
   have O:(aI p).2=0:=by
    refine Classical.byContradiction λhn=> ?_
    rw [if_pos (.inl hn)]at h
    exact hn h
   obtain⟨i1,V⟩:=Z p a P O
   have a3:(aI (cT g c)).2=0:=by
    rw [jS w J]
    split
    ·exact i1
    ·rfl
   refine⟨a3, ?_⟩
   rw [jS y i]
   split
   ·rename_i hb
    have G:(aI p).1.kind=2:=hb.resolve_left (by omega)
    rw [V,jS w J,if_pos]
    right
    rw [<-V,aBm (lY p P O).ok G,o,iQ (by show (2:Int)≠5;decide) (by show (2:Int)≠6;decide)]
    rfl
   ·rename_i hb
    have e1:cT g (.mk 6 c.name 0 0 [(aI p).1])= .mk 6 (aUv g 6 c.name) 0 0 [cT g (aI p).1]:=by rw [lP];rfl
    rw [e1,jS (p:=cT g (aI p).1) rfl rfl,V,jS w J,aSe,y]
    rfl
  ·rw [iQ K y,iQ (by rw [cZ];exact K) (by rw [cZ];exact y)]
   exact⟨rfl,rfl⟩
end
end Go.Proofs.YtbobcfjlbcgchaaGreatDoor
