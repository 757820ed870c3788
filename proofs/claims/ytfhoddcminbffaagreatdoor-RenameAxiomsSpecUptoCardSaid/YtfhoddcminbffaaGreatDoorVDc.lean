/-
  Names: the walks through the reference's functions that tell which strings are names. Terms: the reference's Depth, shape, named, walk, CheckConcept.
  Conditions: none.
-/
import Derived.Test.YtfhoddcminbffaaGreatDoorVSw
import Derived.Test.YtfhoddcminbffaaGreatDoorVGr
set_option linter.unnecessarySimpa false
set_option linter.unusedSectionVars false
set_option linter.unusedSimpArgs false
set_option linter.unusedVariables false
set_option maxHeartbeats 4000000
namespace Go.Proofs.YtfhoddcminbffaaGreatDoor
open Go.Proofs
set_option maxRecDepth 10000
attribute [local irreducible] aV aM Tri aI
theorem jP (c:UInt8):Tri Tryz.prog 167 [aJx c] [] (λr=>r= .d (.bool (aF6 c))):=by
 refine aN hty Tryz.func167 rfl (kp [0,2]) [] _ _ _ (by simp [Tryz.f167]) (by simp) ?_
 ((conv=>whnf);repeat' ((first|(intro hq;(try simp only [lnS]at hq);(try rewrite [List.length_map]))|refine sJ ?_|refine .intro _ (.intro rfl ?_)|refine exL (k:= ?_)|refine dwR ?_|((first|refine aD ?_ ?_|refine aF ?_ ?_)<;>intro hb<;>(first|exact ddX hb|try simp only [lnS]at hb))|(refine aC ?_ ?_<;>intro hb<;>try exact dsX hb))<;>(conv=>whnf)))
 all_goals (refine bA (Bool.eq_iff_iff.2 ?_);simp only [aF6,Bool.or_eq_true,decide_eq_true_eq,true_iff,false_iff,Bool.false_eq_true];omega)
theorem qK (c:UInt8):Tri Tryz.prog 169 [aJx c] [] (λr=>r= .d (.bool (gA c))):=by
 refine aN hty Tryz.func169 rfl (kp [0,2]) [] _ _ _ (by simp [Tryz.f169]) (by simp) ?_
 ((conv=>whnf);repeat' ((first|(intro hq;(try simp only [lnS]at hq);(try rewrite [List.length_map]))|refine sJ ?_|refine .intro _ (.intro rfl ?_)|refine exL (k:= ?_)|(refine aG [] (jP c) trivial (λs hs=> ?_);subst hs)|refine dwR ?_|((first|refine aD ?_ ?_|refine aF ?_ ?_)<;>intro hb<;>(first|exact ddX hb|try simp only [lnS]at hb))|(refine aC ?_ ?_<;>intro hb<;>try exact dsX hb))<;>(conv=>whnf)))
 all_goals (refine bA (Bool.eq_iff_iff.2 ?_);simp only [gA, *,Bool.or_eq_true,decide_eq_true_eq,true_iff,false_iff,Bool.false_eq_true,true_or,or_true,false_or];try omega)
theorem kR (s:List UInt8):Tri Tryz.prog 132 [.d (.str s)] [] (λr=>r= .d (.bool (oY s))):=by
 cases s with
 |nil=>
  refine aN hty Tryz.func132 rfl (kp [0,2,3,16,20,27]) [] _ _ _ (by simp [Tryz.f132]) (by simp) ?_
  ((conv=>whnf);repeat' ((first|(intro hq;(try simp only [lnS]at hq);(try rewrite [List.length_map]))|refine sJ ?_|refine .intro _ (.intro rfl ?_)|refine exL (k:= ?_)|refine dwR ?_|((first|refine aD ?_ ?_|refine aF ?_ ?_)<;>intro hb<;>(first|exact ddX hb|try simp only [lnS]at hb))|(refine aC ?_ ?_<;>intro hb<;>try exact dsX hb))<;>(conv=>whnf)))
  rfl
 |cons c r=>
  have hw:oY (c::r)=(aF6 c && ((c::r).all gA && !kwF (c::r))):=rfl
  rw [hw]
  cases h1:aF6 c with
  |false=>
   refine aN hty Tryz.func132 rfl (kp [0,2,3,16,20,27]) [] _ _ _ (by simp [Tryz.f132]) (by simp) ?_
   ((conv=>whnf);repeat' ((first|(intro hq;(try simp only [lnS]at hq);(try rewrite [List.length_map]))|refine sJ ?_|refine .intro _ (.intro rfl ?_)|refine exL (k:= ?_)|refine dwR ?_|((first|refine aD ?_ ?_|refine aF ?_ ?_)<;>intro hb<;>(first|exact ddX hb|try simp only [lnS]at hb))|(refine aC ?_ ?_<;>intro hb<;>try exact dsX hb))<;>(conv=>whnf)))
   refine aG [] (jP c) trivial (λs hs=> ?_)
   rw [h1]at hs
   subst hs
   ((conv=>whnf);repeat' ((first|(intro hq;(try simp only [lnS]at hq);(try rewrite [List.length_map]))|refine sJ ?_|refine .intro _ (.intro rfl ?_)|refine exL (k:= ?_)|refine dwR ?_|((first|refine aD ?_ ?_|refine aF ?_ ?_)<;>intro hb<;>(first|exact ddX hb|try simp only [lnS]at hb))|(refine aC ?_ ?_<;>intro hb<;>try exact dsX hb))<;>(conv=>whnf)))
   rfl
  |true=>
   refine aN hty Tryz.func132 rfl (kp [0,2,3,16,20,27]) [] _ _ _ (by simp [Tryz.f132]) (by simp) ?_
   ((conv=>whnf);repeat' ((first|(intro hq;(try simp only [lnS]at hq);(try rewrite [List.length_map]))|refine sJ ?_|refine .intro _ (.intro rfl ?_)|refine exL (k:= ?_)|refine dwR ?_|((first|refine aD ?_ ?_|refine aF ?_ ?_)<;>intro hb<;>(first|exact ddX hb|try simp only [lnS]at hb))|(refine aC ?_ ?_<;>intro hb<;>try exact dsX hb))<;>(conv=>whnf)))
   refine aG [] (jP c) trivial (λs hs=> ?_)
   rw [h1]at hs
   subst hs
   ((conv=>whnf);repeat ((first|(intro hq;try simp only [lnS]at hq)|refine sI ?_|refine .intro _ (.intro rfl ?_));(conv=>whnf)))
   refine aG [] (vK (c::r)) trivial (λs hs=> ?_)
   cases h2:kwF (c::r)with
   |true=>
    rw [h2]at hs
    subst hs
    ((conv=>whnf);repeat' ((first|(intro hq;(try simp only [lnS]at hq);(try rewrite [List.length_map]))|refine sJ ?_|refine .intro _ (.intro rfl ?_)|refine exL (k:= ?_)|refine dwR ?_|((first|refine aD ?_ ?_|refine aF ?_ ?_)<;>intro hb<;>(first|exact ddX hb|try simp only [lnS]at hb))|(refine aC ?_ ?_<;>intro hb<;>try exact dsX hb))<;>(conv=>whnf)))
    exact bA (by simp)
   |false=>
    rw [h2]at hs
    subst hs
    ((conv=>whnf);repeat' ((first|(intro hq;(try simp only [lnS]at hq);(try rewrite [List.length_map]))|refine sJ ?_|refine .intro _ (.intro rfl ?_)|refine exL (k:= ?_)|refine dwR ?_|((first|refine aD ?_ ?_|refine aF ?_ ?_)<;>intro hb<;>(first|exact ddX hb|try simp only [lnS]at hb))|(refine aC ?_ ?_<;>intro hb<;>try exact dsX hb))<;>(conv=>whnf)))
    generalize hS:c::r=s
    refine aK hty (λk:Nat=>([(0, .d (.str s)),(3, .d (.int .i64 k))],[])) (λk=>k<=s.length/\(s.take k).all gA=true) (λk=>s.length - k) 0 (by simp) ⟨by repeat' (first|exact trivial|exact rfl|refine And.intro ?_ ?_),by repeat' (first|exact trivial|exact rfl|refine And.intro ?_ ?_)⟩ ?_
    rintro k ⟨hk,hk2⟩
    ((conv=>whnf);repeat ((first|(intro hq;try simp only [lnS]at hq)|refine sI ?_|refine .intro _ (.intro rfl ?_));(conv=>whnf)))
    refine aD (λh1=> ?_) (λh1=> ?_)
    ·have hkl:k < s.length:=by omega
     ((conv=>whnf);repeat' ((first|(intro hq;(try simp only [lnS]at hq);(try rewrite [List.length_map]))|refine sJ ?_|refine .intro _ (.intro rfl ?_)|refine exL (k:= ?_)|refine dwR ?_|((first|refine aD ?_ ?_|refine aF ?_ ?_)<;>intro hb<;>(first|exact ddX hb|try simp only [lnS]at hb))|(refine aC ?_ ?_<;>intro hb<;>try exact dsX hb))<;>(conv=>whnf)))
     refine aG [] (qK _) trivial (λx hs=> ?_)
     cases ht:gA s[(k:Int).toNat]with
     |false=>
      rw [ht]at hs
      subst hs
      ((conv=>whnf);repeat' ((first|(intro hq;(try simp only [lnS]at hq);(try rewrite [List.length_map]))|refine sJ ?_|refine .intro _ (.intro rfl ?_)|refine exL (k:= ?_)|refine dwR ?_|((first|refine aD ?_ ?_|refine aF ?_ ?_)<;>intro hb<;>(first|exact ddX hb|try simp only [lnS]at hb))|(refine aC ?_ ?_<;>intro hb<;>try exact dsX hb))<;>(conv=>whnf)))
      rw [pZ (k:=k) hkl ht];rfl
     |true=>
      rw [ht]at hs
      subst hs
      ((conv=>whnf);repeat' ((first|(intro hq;(try simp only [lnS]at hq);(try rewrite [List.length_map]))|refine sJ ?_|refine .intro _ (.intro rfl ?_)|refine exL (k:= ?_)|refine dwR ?_|((first|refine aD ?_ ?_|refine aF ?_ ?_)<;>intro hb<;>(first|exact ddX hb|try simp only [lnS]at hb))|(refine aC ?_ ?_<;>intro hb<;>try exact dsX hb))<;>(conv=>whnf)))
      exact⟨k+1,⟨by omega,nM hkl hk2 ht⟩,by dsimp only;omega,⟨by repeat' (first|exact trivial|exact rfl|refine And.intro ?_ ?_),by repeat' (first|exact trivial|exact rfl|refine And.intro ?_ ?_)⟩⟩
    ·rw [List.take_of_length_le (by omega)]at hk2
     ((conv=>whnf);repeat' ((first|(intro hq;(try simp only [lnS]at hq);(try rewrite [List.length_map]))|refine sJ ?_|refine .intro _ (.intro rfl ?_)|refine exL (k:= ?_)|refine dwR ?_|((first|refine aD ?_ ?_|refine aF ?_ ?_)<;>intro hb<;>(first|exact ddX hb|try simp only [lnS]at hb))|(refine aC ?_ ?_<;>intro hb<;>try exact dsX hb))<;>(conv=>whnf)))
     rw [hk2];rfl
theorem aJv {s:List UInt8}(h1:2<=s.length) (h3:s[Int.toNat 0]'(by simp;omega)=95):(s.take 1).all gA=true:=by
 match s,h1,h3 with
 |c::r,_,h3=>simp at h3;subst h3;rfl
theorem sO (s:List UInt8):Tri Tryz.prog 133 [.d (.str s)] [] (λr=>r= .d (.bool (wW s))):=by
 by_cases h1:2<=s.length
 ·by_cases h2:s.length<=24
  ·by_cases h3:s[Int.toNat 0]'(by simp;omega)=95
   ·have hr:wW s=s.all gA:=by
     rw [wW,aB5 (by omega),h3]
     simp [h1,h2]
    have h3':((s[Int.toNat 0]'(by simp;omega)).toNat:Int)=95:=by rw [h3];rfl
    rw [hr]
    refine aN hty Tryz.func133 rfl (kp [0,2,3,16,20,27]) [] _ _ _ (by simp [Tryz.f133]) (by simp) ?_
    ((conv=>whnf);repeat' ((first|(intro hq;(try simp only [lnS]at hq);(try rewrite [List.length_map]))|refine sJ ?_|refine .intro _ (.intro rfl ?_)|refine exL (k:= ?_)|refine dwR ?_|((first|refine aD ?_ ?_|refine aF ?_ ?_)<;>intro hb<;>(first|exact ddX hb|try simp only [lnS]at hb))|(refine aC ?_ ?_<;>intro hb<;>try exact dsX hb))<;>(conv=>whnf)))
    refine aK hty (λk:Nat=>([(0, .d (.str s)),(3, .d (.int .i64 k))],[])) (λk=>k<=s.length/\(s.take k).all gA=true) (λk=>s.length - k) 1 ⟨by omega, ?_⟩ ⟨by repeat' (first|exact trivial|exact rfl|refine And.intro ?_ ?_),by repeat' (first|exact trivial|exact rfl|refine And.intro ?_ ?_)⟩ ?_
    ·exact aJv h1 h3
    rintro k ⟨hk,hk2⟩
    ((conv=>whnf);repeat' ((first|(intro hq;(try simp only [lnS]at hq);(try rewrite [List.length_map]))|refine sJ ?_|refine .intro _ (.intro rfl ?_)|refine exL (k:= ?_)|(refine aG [] (qK _) trivial (λs hs=> ?_);subst hs)|refine dwR ?_|((first|refine aD ?_ ?_|refine aF ?_ ?_)<;>intro hb<;>(first|exact ddX hb|try simp only [lnS]at hb))|(refine aC ?_ ?_<;>intro hb<;>try exact dsX hb))<;>(conv=>whnf)))
    ·have ht:gA s[(k:Int).toNat]=false:=by simpa using hb
     rw [pZ (k:=k) (by omega) ht];rfl
    ·have ht:gA s[(k:Int).toNat]=true:=by simpa using hb
     exact⟨k+1,⟨by omega,nM (by omega) hk2 ht⟩,by dsimp only;omega,⟨by repeat' (first|exact trivial|exact rfl|refine And.intro ?_ ?_),by repeat' (first|exact trivial|exact rfl|refine And.intro ?_ ?_)⟩⟩
    ·rw [List.take_of_length_le (by omega)]at hk2
     rw [hk2];rfl
   ·have hr:wW s=false:=by
     rw [wW,aB5 (by omega)]
     simp only [h3,decide_false,Bool.false_and,Bool.and_false]
    have h3':¬ ((s[Int.toNat 0]'(by simp;omega)).toNat:Int)=95:= λe=>h3 (u95 e)
    rw [hr]
    refine aN hty Tryz.func133 rfl (kp [0,2,3,16,20,27]) [] _ _ _ (by simp [Tryz.f133]) (by simp) ?_
    ((conv=>whnf);repeat' ((first|(intro hq;(try simp only [lnS]at hq);(try rewrite [List.length_map]))|refine sJ ?_|refine .intro _ (.intro rfl ?_)|refine exL (k:= ?_)|refine dwR ?_|((first|refine aD ?_ ?_|refine aF ?_ ?_)<;>intro hb<;>(first|exact ddX hb|try simp only [lnS]at hb))|(refine aC ?_ ?_<;>intro hb<;>try exact dsX hb))<;>(conv=>whnf)))
    rfl
  ·have hr:wW s=false:=by rw [wW];simp only [h2,decide_false,Bool.false_and,Bool.and_false]
   rw [hr]
   refine aN hty Tryz.func133 rfl (kp [0,2,3,16,20,27]) [] _ _ _ (by simp [Tryz.f133]) (by simp) ?_
   ((conv=>whnf);repeat' ((first|(intro hq;(try simp only [lnS]at hq);(try rewrite [List.length_map]))|refine sJ ?_|refine .intro _ (.intro rfl ?_)|refine exL (k:= ?_)|refine dwR ?_|((first|refine aD ?_ ?_|refine aF ?_ ?_)<;>intro hb<;>(first|exact ddX hb|try simp only [lnS]at hb))|(refine aC ?_ ?_<;>intro hb<;>try exact dsX hb))<;>(conv=>whnf)))
   rfl
 ·have hr:wW s=false:=by rw [wW];simp only [h1,decide_false,Bool.false_and,Bool.and_false]
  rw [hr]
  refine aN hty Tryz.func133 rfl (kp [0,2,3,16,20,27]) [] _ _ _ (by simp [Tryz.f133]) (by simp) ?_
  ((conv=>whnf);repeat' ((first|(intro hq;(try simp only [lnS]at hq);(try rewrite [List.length_map]))|refine sJ ?_|refine .intro _ (.intro rfl ?_)|refine exL (k:= ?_)|refine dwR ?_|((first|refine aD ?_ ?_|refine aF ?_ ?_)<;>intro hb<;>(first|exact ddX hb|try simp only [lnS]at hb))|(refine aC ?_ ?_<;>intro hb<;>try exact dsX hb))<;>(conv=>whnf)))
  rfl
theorem aFb {c:UInt8}: ∀{s:List UInt8},(∀x∈s,x≠c)->Lib.indexByte s c < 0
 | [],_=>by simp [Lib.indexByte]
 |x::s,h=>by
  have ih:=aFb (c:=c) (s:=s) λy hy=>h y (List.mem_cons_of_mem _ hy)
  have hx:=h x (List.mem_cons_self ..)
  simp only [Lib.indexByte,hx,if_false]
  split<;>(try split)<;>simp_all<;>omega
theorem aKu {c:UInt8}: ∀{s:List UInt8}{k:Nat}(h:k < s.length),(∀x∈s.take k,x≠c)->s[k]=c->Lib.indexByte s c=k
 |x::s,0,_,_,e=>by
  simp at e;subst e;simp [Lib.indexByte]
 |x::s,k+1,h,hn,e=>by
  have ih:=aKu (c:=c) (s:=s) (k:=k) (by simpa using h) (λy hy=>hn y (by simp [hy])) (by simpa using e)
  have hx:=hn x (by simp)
  simp only [Lib.indexByte,hx,if_false,ih]
  split<;>(try split)<;>simp_all<;>omega
theorem u58 {c:UInt8}(h:(c.toNat:Int)=58):c=58:=by
 have h9:(58:UInt8).toNat=58:=by decide
 exact UInt8.toNat_inj.1 (by omega)
theorem aMv {s:List UInt8}{k:Nat}(hk:k < s.length) (h: ∀x∈s.take k,x≠58) (hx:¬ ((s[(k:Int).toNat]'(by simpa using hk)).toNat:Int)=58): ∀x∈s.take (k+1),x≠58:=by
 rw [List.take_succ_eq_append_getElem hk]
 intro x hm
 rcases List.mem_append.1 hm with hm|hm
 ·exact h x hm
 ·simp at hm
  subst hm
  intro e
  exact hx (by simp [e])
theorem gJ (s:List UInt8):Tri Tryz.prog 87 [.d (.str s)] [] (λr=>r= .d (.bool (dF s))):=by
 by_cases h2:s.length<=24
 ·refine aN hty Tryz.func87 rfl (kp [0,2,3,6,10,16]) [] _ _ _ (by simp [Tryz.f87]) (by simp) ?_
  ((conv=>whnf);repeat' ((first|(intro hq;(try simp only [lnS]at hq);(try rewrite [List.length_map]))|refine sJ ?_|refine .intro _ (.intro rfl ?_)|refine exL (k:= ?_)|refine dwR ?_|((first|refine aD ?_ ?_|refine aF ?_ ?_)<;>intro hb<;>(first|exact ddX hb|try simp only [lnS]at hb))|(refine aC ?_ ?_<;>intro hb<;>try exact dsX hb))<;>(conv=>whnf)))
  refine aK hty (λk:Nat=>([(0, .d (.str s)),(3, .d (.int .i64 k))],[])) (λk=>k<=s.length/\ ∀x∈s.take k,x≠58) (λk=>s.length - k) 0 (by simp) ⟨by repeat' (first|exact trivial|exact rfl|refine And.intro ?_ ?_),by repeat' (first|exact trivial|exact rfl|refine And.intro ?_ ?_)⟩ ?_
  rintro k ⟨hk,hk2⟩
  ((conv=>whnf);repeat ((first|(intro hq;try simp only [lnS]at hq)|refine sI ?_|refine .intro _ (.intro rfl ?_));(conv=>whnf)))
  refine aD (λh1=> ?_) (λh1=> ?_)
  ·have hkl:k < s.length:=by omega
   ((conv=>whnf);repeat ((first|(refine Exists.intro (show (_:Nat) < List.length _ from by omega) ?_)|(intro hq;try simp only [lnS]at hq)|refine sI ?_|refine .intro _ (.intro rfl ?_));(conv=>whnf)))
   refine aD (λh3=> ?_) (λh3=> ?_)
   ·have e:Lib.indexByte s 58=k:=aKu hkl hk2 (u58 h3)
    have hp:dF s=(oY (s.take k) && oY (s.drop (k+1))):=by
     rw [dF,aI4,e]
     simp [h2]
    have hd:List.drop ((k:Int)+1).toNat (List.take s.length s)=s.drop (k+1):=by
     rw [List.take_length,show ((k:Int)+1).toNat=k+1 from by omega]
    rw [hp]
    cases h5:oY (s.take k)with
    |false=>
     ((conv=>whnf);repeat' ((first|(intro hq;(try simp only [lnS]at hq);(try rewrite [List.length_map]))|refine sJ ?_|refine .intro _ (.intro rfl ?_)|refine exL (k:= ?_)|(refine aG [] (kR (s.take k)) trivial (λs hs=> ?_);subst hs;rw [h5])|refine dwR ?_|((first|refine aD ?_ ?_|refine aF ?_ ?_)<;>intro hb<;>(first|exact ddX hb|try simp only [lnS]at hb))|(refine aC ?_ ?_<;>intro hb<;>try exact dsX hb))<;>(conv=>whnf)))
     rfl
    |true=>
     ((conv=>whnf);repeat' ((first|(intro hq;(try simp only [lnS]at hq);(try rewrite [List.length_map]))|refine sJ ?_|refine .intro _ (.intro rfl ?_)|refine exL (k:= ?_)|(refine aG [] (kR (s.take k)) trivial (λs hs=> ?_);subst hs;rw [h5])|refine dwR ?_|((first|refine aD ?_ ?_|refine aF ?_ ?_)<;>intro hb<;>(first|exact ddX hb|try simp only [lnS]at hb))|(refine aC ?_ ?_<;>intro hb<;>try exact dsX hb))<;>(conv=>whnf)))
     refine aG [] (kR _) trivial (λs hs=> ?_)
     subst hs
     ((conv=>whnf);repeat ((first|(intro hq;try simp only [lnS]at hq)|refine sI ?_|refine .intro _ (.intro rfl ?_));(conv=>whnf)))
     refine bA ?_
     rw [hd];rfl
   ·((conv=>whnf);repeat ((first|(intro hq;try simp only [lnS]at hq)|refine sI ?_|refine .intro _ (.intro rfl ?_));(conv=>whnf)))
    exact⟨k+1,⟨by omega,aMv hkl hk2 h3⟩,by dsimp only;omega,⟨by repeat' (first|exact trivial|exact rfl|refine And.intro ?_ ?_),by repeat' (first|exact trivial|exact rfl|refine And.intro ?_ ?_)⟩⟩
  ·rw [List.take_of_length_le (by omega)]at hk2
   have e:=aFb hk2
   have hp:dF s=oY s:=by
    rw [dF,aI4,if_neg (by omega)]
    simp [h2]
   rw [hp]
   ((conv=>whnf);repeat' ((first|(intro hq;(try simp only [lnS]at hq);(try rewrite [List.length_map]))|refine sJ ?_|refine .intro _ (.intro rfl ?_)|refine exL (k:= ?_)|(refine aG [] (kR s) trivial (λs hs=> ?_);subst hs)|refine dwR ?_|((first|refine aD ?_ ?_|refine aF ?_ ?_)<;>intro hb<;>(first|exact ddX hb|try simp only [lnS]at hb))|(refine aC ?_ ?_<;>intro hb<;>try exact dsX hb))<;>(conv=>whnf)))
   rfl
 ·have hr:dF s=false:=by rw [dF];simp only [h2,decide_false,Bool.false_and,Bool.and_false]
  rw [hr]
  refine aN hty Tryz.func87 rfl (kp [0,2,3,6,10,16]) [] _ _ _ (by simp [Tryz.f87]) (by simp) ?_
  ((conv=>whnf);repeat' ((first|(intro hq;(try simp only [lnS]at hq);(try rewrite [List.length_map]))|refine sJ ?_|refine .intro _ (.intro rfl ?_)|refine exL (k:= ?_)|refine dwR ?_|((first|refine aD ?_ ?_|refine aF ?_ ?_)<;>intro hb<;>(first|exact ddX hb|try simp only [lnS]at hb))|(refine aC ?_ ?_<;>intro hb<;>try exact dsX hb))<;>(conv=>whnf)))
  rfl
theorem fP (s:List UInt8):Tri Tryz.prog 88 [.d (.str s)] [] (λr=>r= .d (.bool (gZ s))):=by
 cases h1:dF s with
 |true=>
  refine aN hty Tryz.func88 rfl (kp [0,2]) [] _ _ _ (by simp [Tryz.f88]) (by simp) ?_
  ((conv=>whnf);repeat' ((first|(intro hq;(try simp only [lnS]at hq);(try rewrite [List.length_map]))|refine sJ ?_|refine .intro _ (.intro rfl ?_)|refine exL (k:= ?_)|(refine aG [] (gJ s) trivial (λs hs=> ?_);subst hs;rw [h1])|refine dwR ?_|((first|refine aD ?_ ?_|refine aF ?_ ?_)<;>intro hb<;>(first|exact ddX hb|try simp only [lnS]at hb))|(refine aC ?_ ?_<;>intro hb<;>try exact dsX hb))<;>(conv=>whnf)))
  rw [gZ,h1];rfl
 |false=>
  refine aN hty Tryz.func88 rfl (kp [0,2]) [] _ _ _ (by simp [Tryz.f88]) (by simp) ?_
  ((conv=>whnf);repeat' ((first|(intro hq;(try simp only [lnS]at hq);(try rewrite [List.length_map]))|refine sJ ?_|refine .intro _ (.intro rfl ?_)|refine exL (k:= ?_)|(refine aG [] (gJ s) trivial (λs hs=> ?_);subst hs;rw [h1])|(refine aG [] (sO s) trivial (λs hs=> ?_);subst hs)|refine dwR ?_|((first|refine aD ?_ ?_|refine aF ?_ ?_)<;>intro hb<;>(first|exact ddX hb|try simp only [lnS]at hb))|(refine aC ?_ ?_<;>intro hb<;>try exact dsX hb))<;>(conv=>whnf)))
  rw [gZ,h1];rfl
theorem qR (s:List UInt8):Tri Tryz.prog 98 [.d (.str s)] [] (λr=>r= .d (.int .i64 (if gZ s then 0 else 20))):=by
 cases h1:gZ s with
 |true=>
  refine aN hty Tryz.func98 rfl (kp [0,2,5]) [] _ _ _ (by simp [Tryz.f98]) (by simp) ?_
  ((conv=>whnf);repeat' ((first|(intro hq;(try simp only [lnS]at hq);(try rewrite [List.length_map]))|refine sJ ?_|refine .intro _ (.intro rfl ?_)|refine exL (k:= ?_)|(refine aG [] (fP s) trivial (λs hs=> ?_);subst hs;rw [h1])|refine dwR ?_|((first|refine aD ?_ ?_|refine aF ?_ ?_)<;>intro hb<;>(first|exact ddX hb|try simp only [lnS]at hb))|(refine aC ?_ ?_<;>intro hb<;>try exact dsX hb))<;>(conv=>whnf)))
  rfl
 |false=>
  refine aN hty Tryz.func98 rfl (kp [0,2,5]) [] _ _ _ (by simp [Tryz.f98]) (by simp) ?_
  ((conv=>whnf);repeat' ((first|(intro hq;(try simp only [lnS]at hq);(try rewrite [List.length_map]))|refine sJ ?_|refine .intro _ (.intro rfl ?_)|refine exL (k:= ?_)|(refine aG [] (fP s) trivial (λs hs=> ?_);subst hs;rw [h1])|refine dwR ?_|((first|refine aD ?_ ?_|refine aF ?_ ?_)<;>intro hb<;>(first|exact ddX hb|try simp only [lnS]at hb))|(refine aC ?_ ?_<;>intro hb<;>try exact dsX hb))<;>(conv=>whnf)))
  rfl
end Go.Proofs.YtfhoddcminbffaaGreatDoor
namespace Go.Proofs.YtfhoddcminbffaaGreatDoor
open Go.Proofs
set_option maxRecDepth 10000
attribute [local irreducible] aV aM Tri aI YVC dQ bN
def lE (c:Cn):Bool:=
 if c.kind=1\/c.kind=2 then decide (c.lo=0) && (decide (c.hi=0) && (decide (c.name=[]) && decide (c.parts.length=0)))
 else if c.kind=3\/c.kind=4 then decide (c.lo=0) && (decide (c.hi=0) && decide (c.parts.length=0))
 else if c.kind=5 then decide (c.lo=0) && (decide (c.hi=0) && (decide (c.name=[]) && (decide (2<=c.parts.length) && decide (c.parts.length<=8))))
 else if c.kind=6 then decide (c.lo=0) && (decide (c.hi=0) && decide (c.parts.length=1))
 else if c.kind=7 then decide (c.parts.length=0) && (decide (-1099511627776<=c.lo) && (decide (c.lo<=c.hi) && decide (c.hi<=1099511627776)))
 else false
theorem zO (c:Cn):Tri Tryz.prog 170 [.d (.agg (cnR c))] [] (λr=>r= .d (.bool (lE c))):=by
 rw [aJ]
 unfold lE
 generalize hk:c.kind=k
 refine aH false [1] hty Tryz.func170 rfl (kp [0,1,2,3,13,14,29,39,59,68]) [] _ _ _ (by simp [Tryz.f170]) (by simp) ?_
 ((conv=>whnf);repeat' ((first|(intro hq;(try simp only [lnS]at hq);(try rewrite [List.length_map]))|refine sJ ?_|refine .intro _ (.intro rfl ?_)|refine exL (k:= ?_)|refine dwR ?_|((first|refine aD ?_ ?_|refine aF ?_ ?_)<;>intro hb<;>(first|exact ddX hb|try simp only [lnS]at hb))|(refine aC ?_ ?_<;>intro hb<;>try exact dsX hb))<;>(conv=>whnf)))
 all_goals (refine bA (Eq.symm ?_);simp_all<;>first|omega|(rw [Bool.eq_iff_iff];simp<;>omega))
def xH (c:Cn):Bool:=if c.kind=3\/c.kind=6\/c.kind=7 then dF c.name else if c.kind=4 then gZ c.name else true
theorem zP (c:Cn):Tri Tryz.prog 171 [.d (.agg (cnR c))] [] (λr=>r= .d (.bool (xH c))):=by
 rw [aJ]
 have p1:=gJ c.name
 have p2:=fP c.name
 unfold xH
 generalize hk:c.kind=k
 refine aH false [1] hty Tryz.func171 rfl (kp [0,1,2,4,5,12]) [] _ _ _ (by simp [Tryz.f171]) (by simp) ?_
 ((conv=>whnf);repeat' ((first|(intro hq;(try simp only [lnS]at hq);(try rewrite [List.length_map]))|refine sJ ?_|refine .intro _ (.intro rfl ?_)|refine exL (k:= ?_)|(refine aG [] p1 trivial (λr hs=> ?_);subst hs)|(refine aG [] p2 trivial (λr hs=> ?_);subst hs)|refine dwR ?_|((first|refine aD ?_ ?_|refine aF ?_ ?_)<;>intro hb<;>(first|exact ddX hb|try simp only [lnS]at hb))|(refine aC ?_ ?_<;>intro hb<;>try exact dsX hb))<;>(conv=>whnf)))
 all_goals (refine bA (Eq.symm ?_);simp_all)
theorem rP (c:Cn):bJ c=if lE c=false then 21 else if xH c=false then 20 else 0:=by
 by_cases h:c.kind < 1\/7 < c.kind
 ·have e:lE c=false:=by
   unfold lE
   rw [if_neg (by omega),if_neg (by omega),if_neg (by omega),if_neg (by omega),if_neg (by omega)]
  rw [e,if_pos rfl,bJ,if_pos h]
 ·have hk:c.kind=1\/c.kind=2\/c.kind=3\/c.kind=4\/c.kind=5\/c.kind=6\/c.kind=7:=by omega
  have hE:bJ c=fW (eD c.kind) c:=by rw [bJ,if_neg h]
  rw [hE]
  clear hE h
  have n1:eD 1=⟨0,0,0,false⟩:=rfl
  have n2:eD 2=⟨0,0,0,false⟩:=rfl
  have n3:eD 3=⟨1,0,0,false⟩:=rfl
  have n4:eD 4=⟨2,0,0,false⟩:=rfl
  have n5:eD 5=⟨0,2,8,false⟩:=rfl
  have n6:eD 6=⟨1,1,1,false⟩:=rfl
  have n7:eD 7=⟨1,0,0,true⟩:=rfl
  unfold lE xH fW zW gZ
  generalize c.parts.length=m
  rcases hk with hk|hk|hk|hk|hk|hk|hk<;>rw [hk]<;>simp only [n1,n2,n3,n4,n5,n6,n7]
  all_goals
   cases dF c.name<;>cases wW c.name<;>simp
   all_goals (repeat' split)<;>simp_all<;>omega
theorem uE: ∀(l m:List Cn),cU (l++m)=if cU l≠0 then cU l else cU m
 | [],m=>by simp [cU]
 |x::r,m=>by
  rw [List.cons_append,cU,cU,uE r m]
  split<;>rfl
mutual
theorem rN: ∀(c:Cn) (d n:Int),(dW c d n).1=true->(dW c d n).2=n+(aQ c:Nat)
 | .mk k s lo hi ps,d,n=>by
  have e:aQ (.mk k s lo hi ps)=(bC ps).length+1:=kO _
  rw [dW,e]
  split
  ·intro h;exact absurd h (by simp)
  ·intro h
   rw [rM ps d (n+1) h];omega
theorem rM: ∀(l:List Cn) (d n:Int),(fF l d n).1=true->(fF l d n).2=n+((bC l).length:Nat)
 | [],d,n=>by intro _;rw [fF,bC];simp
 |c::r,d,n=>by
  have h1:=rN c (d+1) n
  have e:(bC (c::r)).length=aQ c+(bC r).length:=by rw [bC,List.length_append];rfl
  rw [fF,e]
  split
  ·rename_i hb
   intro h
   rw [rM r d _ h,h1 hb];omega
  ·intro h;exact absurd h (by simp)
end
mutual
theorem uD: ∀(c:Cn) (d n:Int),((dW c d n).1=true↔d+cG c<=8/\n+aQ c<=64)
 | .mk k s lo hi ps,d,n=>by
  have e:aQ (.mk k s lo hi ps)=(bC ps).length+1:=kO _
  rw [dW,cG,e]
  split
  ·rename_i h
   simp only [Bool.false_eq_true,false_iff]
   omega
  ·rename_i h
   rw [uC ps d (n+1) (by omega) (by omega)]
   omega
theorem uC: ∀(l:List Cn) (d n:Int),d<=8->n<=64->((fF l d n).1=true↔d+cQ l<=8/\n+(bC l).length<=64)
 | [],d,n,hd,hn=>by
  rw [fF,cQ,bC]
  simp only [true_iff,List.length_nil]
  omega
 |c::r,d,n,hd,hn=>by
  have h1:=uD c (d+1) n
  have h2:=rN c (d+1) n
  have e:(bC (c::r)).length=aQ c+(bC r).length:=by rw [bC,List.length_append];rfl
  rw [fF,cQ,e]
  split
  ·rename_i hb
   rw [hb]at h1
   have h1:=h1.1 rfl
   rw [h2 hb,uC r d _ hd (by omega)]
   omega
  ·rename_i hb
   have h1:¬ (d+1+cG c<=8/\n+aQ c<=64):= λh=>hb (h1.2 h)
   simp only [Bool.false_eq_true,false_iff]
   omega
end
theorem aAb (c:Cn):bI c=if 8 < cG c\/64 < aQ c then 21 else cU (eO c):=by
 have h:=uD c 0 0
 unfold bI
 split
 ·rename_i hf
  rw [hf]at h
  rw [if_pos]
  have h:¬ ((0:Int)+cG c<=8/\(0:Int)+aQ c<=64):= λh'=>absurd (h.2 h') (by decide)
  omega
 ·rename_i hf
  have hf:(dW c 0 0).1=true:=by simpa using hf
  have h1:=h.1 hf
  rw [if_neg]
  omega
theorem aC9: ∀(c:Cn),Tri Tryz.prog 136 [.d (.agg (cnR c))] [] (λr=>r= .d (.int .i64 (cU (eO c)))):=by
 refine Cn.ind ?_
 intro c ih
 have h1:=zO c
 have h2:=zP c
 rw [eN,cU,rP]
 rw [aJ]at h1 h2 |-
 generalize lE c=b1 at *
 generalize xH c=b2 at *
 refine aH false [1] hty Tryz.func136 rfl (kp [0,1,2,3,4,7,10,15,25]) [] _ _ _ (by simp [Tryz.f136]) (by simp) ?_
 ((conv=>whnf);repeat' ((first|(intro hq;(try simp only [lnS]at hq);(try rewrite [List.length_map]))|refine sJ ?_|refine .intro _ (.intro rfl ?_)|refine exL (k:= ?_)|(refine aG [] h1 trivial (λr hs=> ?_);subst hs)|(refine aG [] h2 trivial (λr hs=> ?_);subst hs)|refine dwR ?_|((first|refine aD ?_ ?_|refine aF ?_ ?_)<;>intro hb<;>(first|exact ddX hb|try simp only [lnS]at hb))|(refine aC ?_ ?_<;>intro hb<;>try exact dsX hb))<;>(conv=>whnf)))
 ·subst_vars;simp_all;rfl
 ·subst_vars;simp_all;rfl
 ·have e1:b1=true:=by simpa using (by assumption:(!b1)=false)
  have e2:b2=true:=by simpa using (by assumption:(!b2)=false)
  subst e1;subst e2
  rw [if_neg (by simp)]
  refine aK hty (λj:Nat=>([(1, .ea 5 [[.int .i64 c.kind, .str c.name, .int .i64 c.lo, .int .i64 c.hi, .sl 5 (c.parts.map cnR)]] 0 0),(2, .d (.int .i64 0)),(3, .d (.int .i64 j))],[])) (λj=>j<=c.parts.length/\cU (bC c.parts)=cU (bC (c.parts.drop j))) (λj=>c.parts.length - j) 0 ⟨by omega,rfl⟩ ⟨by repeat' (first|exact trivial|exact rfl|exact⟨rfl,rfl⟩|refine And.intro ?_ ?_),trivial⟩ ?_
  rintro j ⟨hj,hn⟩
  ((conv=>whnf);repeat ((first|(intro hq;try simp only [lnS]at hq)|refine sI ?_|refine .intro _ (.intro rfl ?_));(conv=>whnf)))
  refine aD (λh1=> ?_) (λh1=> ?_)
  ·have hjl:j < c.parts.length:=by simp only [List.length_map]at h1;omega
   have hrow':(c.parts.map cnR)[(j:Int).toNat]? =some (cnR c.parts[j]):=aS hjl
   have hi:=ih c.parts[j] (List.getElem_mem hjl)
   rw [List.drop_eq_getElem_cons hjl,bC,uE]at hn
   generalize c.parts[j]=x at hrow' hi hn
   rw [aJ]at hrow' hi
   ((conv=>whnf);repeat' ((first|(intro hq;(try simp only [lnS]at hq);(try rewrite [List.length_map]))|refine sJ ?_|refine .intro _ (.intro rfl ?_)|refine exL (k:= ?_)|(refine⟨_,hrow', ?_⟩)|(refine aG [] hi trivial (λr hs=> ?_);subst hs)|refine dwR ?_|((first|refine aD ?_ ?_|refine aF ?_ ?_)<;>intro hb<;>(first|exact ddX hb|try simp only [lnS]at hb))|(refine aC ?_ ?_<;>intro hb<;>try exact dsX hb))<;>(conv=>whnf)))
   ·rw [if_pos (by assumption)]at hn
    exact bZ hn.symm
   ·rw [if_neg (by simpa using (by assumption:cU (eO x)=0))]at hn
    exact⟨j+1,⟨by omega,hn⟩,by dsimp only;omega,by repeat' (first|exact trivial|exact rfl|refine And.intro ?_ ?_),trivial⟩
  ·have hjl:j=c.parts.length:=by simp only [List.length_map]at h1;omega
   subst hjl
   rw [List.drop_length]at hn
   ((conv=>whnf);repeat' ((first|(intro hq;(try simp only [lnS]at hq);(try rewrite [List.length_map]))|refine sJ ?_|refine .intro _ (.intro rfl ?_)|refine exL (k:= ?_)|refine dwR ?_|((first|refine aD ?_ ?_|refine aF ?_ ?_)<;>intro hb<;>(first|exact ddX hb|try simp only [lnS]at hb))|(refine aC ?_ ?_<;>intro hb<;>try exact dsX hb))<;>(conv=>whnf)))
   exact bZ hn.symm
theorem zQ: ∀(c:Cn) (_:aQ c<=1000000),Tri Tryz.prog 134 [.d (.agg (cnR c))] [] (λr=>r= .d (.int .i64 (cG c))):=by
 refine Cn.ind ?_
 intro c ih hs
 rw [aJ,kG]
 refine aH false [1] hty Tryz.func134 rfl (kp [0,1,2,3,4,9]) [] _ _ _ (by simp [Tryz.f134]) (by simp) ?_
 ((conv=>whnf);repeat ((first|(intro hq;try simp only [lnS]at hq)|refine sI ?_|refine .intro _ (.intro rfl ?_));(conv=>whnf)))
 refine aK hty (λj:Nat=>([(1, .ea 5 [[.int .i64 c.kind, .str c.name, .int .i64 c.lo, .int .i64 c.hi, .sl 5 (c.parts.map cnR)]] 0 0),(3, .d (.int .i64 (cQ (c.parts.take j):Nat))),(4, .d (.int .i64 j))],[])) (λj=>j<=c.parts.length) (λj=>c.parts.length - j) 0 (by omega) ⟨by repeat' (first|exact trivial|exact rfl|exact⟨rfl,rfl⟩|refine And.intro ?_ ?_),trivial⟩ ?_
 intro j hj
 ((conv=>whnf);repeat ((first|(intro hq;try simp only [lnS]at hq)|refine sI ?_|refine .intro _ (.intro rfl ?_));(conv=>whnf)))
 refine aD (λh1=> ?_) (λh1=> ?_)
 ·have hjl:j < c.parts.length:=by simp only [List.length_map]at h1;omega
  have hrow':(c.parts.map cnR)[(j:Int).toNat]? =some (cnR c.parts[j]):=aS hjl
  have hi:=ih c.parts[j] (List.getElem_mem hjl) (by have:=cT (List.getElem_mem (l:=c.parts) hjl);omega)
  have hd1:=oA c.parts[j]
  have hd2:=cT (List.getElem_mem (l:=c.parts) hjl)
  rw [aJ]at hrow' hi
  ((conv=>whnf);repeat' ((first|(intro hq;(try simp only [lnS]at hq);(try rewrite [List.length_map]))|refine sJ ?_|refine .intro _ (.intro rfl ?_)|refine exL (k:= ?_)|(refine⟨_,hrow', ?_⟩)|(refine aG [] hi trivial (λr hs=> ?_);subst hs)|(refine aHs rfl rfl rfl ?_)|refine dwR ?_|((first|refine aD ?_ ?_|refine aF ?_ ?_)<;>intro hb<;>(first|exact ddX hb|try simp only [lnS]at hb))|(refine aC ?_ ?_<;>intro hb<;>try exact dsX hb))<;>(conv=>whnf)))
  refine⟨j+1,by dsimp only;omega,by dsimp only;omega,⟨?_,trivial⟩⟩
  dsimp only
  rw [aA9 hjl]
  repeat' (first|exact trivial|exact rfl|exact aIo (by omega)|exact⟨rfl,rfl⟩|refine And.intro ?_ ?_)
 ·have hjl:j=c.parts.length:=by simp only [List.length_map]at h1;omega
  subst hjl
  rw [List.take_length]
  ((conv=>whnf);repeat' ((first|(intro hq;(try simp only [lnS]at hq);(try rewrite [List.length_map]))|refine sJ ?_|refine .intro _ (.intro rfl ?_)|refine exL (k:= ?_)|refine dwR ?_|((first|refine aD ?_ ?_|refine aF ?_ ?_)<;>intro hb<;>(first|exact ddX hb|try simp only [lnS]at hb))|(refine aC ?_ ?_<;>intro hb<;>try exact dsX hb))<;>(conv=>whnf)))
  rfl
theorem gR (c:Cn) (hs:aQ c<=1000000):Tri Tryz.prog 89 [.d (.agg (cnR c))] [] (λr=>r= .d (.int .i64 (bI c))):=by
 have h1:=zQ c hs
 have h2:=iI c hs
 have h3:=aC9 c
 have hc:=aAb c
 rw [hc]
 rw [aJ]at h1 h2 h3 |-
 clear hc
 have hd:=oA c
 generalize cU (eO c)=e at *
 generalize cG c=d at *
 generalize aQ c=z at *
 refine aH false [1] hty Tryz.func89 rfl (kp [0,1,2,10]) [] _ _ _ (by simp [Tryz.f89]) (by simp) ?_
 ((conv=>whnf);repeat' ((first|(intro hq;(try simp only [lnS]at hq);(try rewrite [List.length_map]))|refine sJ ?_|refine .intro _ (.intro rfl ?_)|refine exL (k:= ?_)|(refine aG [] h1 trivial (λr hs=> ?_);subst hs)|(refine aG [] h2 trivial (λr hs=> ?_);subst hs)|(refine aG [] h3 trivial (λr hs=> ?_);subst hs)|refine dwR ?_|((first|refine aD ?_ ?_|refine aF ?_ ?_)<;>intro hb<;>(first|exact ddX hb|try simp only [lnS]at hb))|(refine aC ?_ ?_<;>intro hb<;>try exact dsX hb))<;>(conv=>whnf)))
 all_goals (first|(rw [if_neg (by omega)];rfl)|(rw [if_pos (by omega)];rfl))
end Go.Proofs.YtfhoddcminbffaaGreatDoor
