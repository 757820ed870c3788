/-
  Terms: CheckAxiom. The order of strings, in plain Lean. Terms: the weight of an axiom, and the library's comparisons. Terms: the library's comparisons of numbers, strings and lists. Terms: the tree of a concept: grow.
  Conditions: none.
-/
import Derived.Test.YtfhoddcminbffaaGreatDoorVA8
import Derived.Test.YtfhoddcminbffaaGreatDoorVSw
set_option linter.unusedSectionVars false
set_option linter.unusedSimpArgs false
set_option linter.unusedVariables false
set_option maxHeartbeats 8000000
namespace Go.Proofs.YtfhoddcminbffaaGreatDoor
open Go.Proofs
set_option maxRecDepth 10000
attribute [local irreducible] aV aM Tri aI YVC dQ bN
def yL (x:Ax):Bool:=if x.kind=2 then (bU x.left || bU x.right)else if x.kind=1\/x.kind=4\/x.kind=8 then bU x.right else false
def oW (u:Use) (x:Ax):Int:=
 if mN u x=false then 20
 else if u.left=true/\bI x.left≠0 then bI x.left
 else if u.right=true/\bI x.right≠0 then bI x.right
 else if yL x=true then 22 else 0
def bK (x:Ax):Int:=if bE x=false then 22 else oW (cK x.kind) x
theorem kI (x:Ax):Tri Tryz.prog 40 [.d (.agg (axR x))] NG (λr=>r= .d (.int .i64 (bK x))):=by
 have e1:=iR x.left
 have e2:=iR x.right
 have b1:=rC x.left
 have b2:=rC x.right
 rw [aJ]at e1 e2 b1 b2
 refine aH false [1,3] hty Tryz.func40 rfl (kp [0,1,2,3,4,5,8,16,18,23,26,31,34,35,44,45,51]) [] _ _ _ (by simp [Tryz.f40]) (by decide) ?_
 ((conv=>whnf);repeat ((first|(intro hq;try simp only [lnS]at hq)|refine sI ?_|refine .intro _ (.intro rfl ?_));(conv=>whnf)))
 refine aG NG (vW x) ⟨rfl,rfl,trivial⟩ (λr hs=> ?_)
 subst hs
 cases hs:bE x
 ·((conv=>whnf);repeat' ((first|(intro hq;(try simp only [lnS]at hq);(try rewrite [List.length_map]))|refine sJ ?_|refine .intro _ (.intro rfl ?_)|refine exL (k:= ?_)|refine dwR ?_|((first|refine aD ?_ ?_|refine aF ?_ ?_)<;>intro hb<;>(first|exact ddX hb|try simp only [lnS]at hb))|(refine aC ?_ ?_<;>intro hb<;>try exact dsX hb))<;>(conv=>whnf)))
  rw [bK,if_pos hs];rfl
 ·have hE:bK x=oW (cK x.kind) x:=by rw [bK,if_neg (by simp [hs])]
  have hk:1<=x.kind/\x.kind<=9:=by
   unfold bE at hs
   split at hs
   ·cases hs
   ·omega
  rw [hE]
  have hrow:=aDu (k:=x.kind) hk
  generalize cK x.kind=u at hrow
  have hn:=xR x u
  clear hE
  ((conv=>whnf);repeat ((first|(refine cM (id:=91) hty rfl rfl rfl rfl rfl rfl rfl (by omega) (by omega) ?_)|(refine⟨_,hrow, ?_⟩)|(intro hq;try simp only [lnS]at hq)|refine sI ?_|refine .intro _ (.intro rfl ?_));(conv=>whnf)))
  refine aG [] hn trivial (λr hs=> ?_)
  subst hs
  cases hs2:mN u x
  ·((conv=>whnf);repeat' ((first|(intro hq;(try simp only [lnS]at hq);(try rewrite [List.length_map]))|refine sJ ?_|refine .intro _ (.intro rfl ?_)|refine exL (k:= ?_)|refine dwR ?_|((first|refine aD ?_ ?_|refine aF ?_ ?_)<;>intro hb<;>(first|exact ddX hb|try simp only [lnS]at hb))|(refine aC ?_ ?_<;>intro hb<;>try exact dsX hb))<;>(conv=>whnf)))
   rw [oW,if_pos hs2];rfl
  ·((conv=>whnf);repeat' ((first|(intro hq;(try simp only [lnS]at hq);(try rewrite [List.length_map]))|refine sJ ?_|refine .intro _ (.intro rfl ?_)|refine exL (k:= ?_)|(refine aG NG e1 ⟨rfl,rfl,trivial⟩ (λr hs=> ?_);subst hs)|(refine aG NG e2 ⟨rfl,rfl,trivial⟩ (λr hs=> ?_);subst hs)|(refine aG [] b1 trivial (λr hs=> ?_);subst hs)|(refine aG [] b2 trivial (λr hs=> ?_);subst hs)|refine dwR ?_|((first|refine aD ?_ ?_|refine aF ?_ ?_)<;>intro hb<;>(first|exact ddX hb|try simp only [lnS]at hb))|(refine aC ?_ ?_<;>intro hb<;>try exact dsX hb))<;>(conv=>whnf)))
   all_goals (refine bZ (Eq.symm ?_);clear e1 e2 b1 b2 hrow hn;unfold oW yL;simp_all)
   all_goals trace_state
end Go.Proofs.YtfhoddcminbffaaGreatDoor
namespace Go.Proofs.YtfhoddcminbffaaGreatDoor
def fR (a b:List UInt8):Int:=Lib.compareBytes a b
theorem oB: ∀(a b:List UInt8),fR a b= -1\/fR a b=0\/fR a b=1
 | [],[]=>by simp [fR,Lib.compareBytes]
 | [],_::_=>by simp [fR,Lib.compareBytes]
 |_::_,[]=>by simp [fR,Lib.compareBytes]
 |x::a,y::b=>by
  have:=oB a b
  unfold fR at this |-
  simp only [Lib.compareBytes]
  split
  ·exact .inl rfl
  ·split
   ·exact .inr (.inr rfl)
   ·exact this
theorem dU: ∀(a b:List UInt8),fR a b=0↔a=b
 | [],[]=>by simp [fR,Lib.compareBytes]
 | [],_::_=>by simp [fR,Lib.compareBytes]
 |_::_,[]=>by simp [fR,Lib.compareBytes]
 |x::a,y::b=>by
  have ih:=dU a b
  unfold fR at ih |-
  simp only [Lib.compareBytes,List.cons.injEq]
  split
  ·rename_i h
   constructor
   ·intro h;omega
   ·rintro⟨rfl,_⟩;exact absurd h (UInt8.lt_irrefl x)
  ·split
   ·rename_i h
    constructor
    ·intro h;omega
    ·rintro⟨rfl,_⟩;exact absurd h (UInt8.lt_irrefl x)
   ·rename_i h1 h2
    rw [ih]
    have:x=y:=UInt8.le_antisymm (UInt8.not_lt.1 h2) (UInt8.not_lt.1 h1)
    simp [this]
theorem yG: ∀(a b:List UInt8),fR b a= - fR a b
 | [],[]=>by simp [fR,Lib.compareBytes]
 | [],_::_=>by simp [fR,Lib.compareBytes]
 |_::_,[]=>by simp [fR,Lib.compareBytes]
 |x::a,y::b=>by
  have ih:=yG a b
  unfold fR at ih |-
  simp only [Lib.compareBytes]
  by_cases h1:x < y
  ·have h2:¬ y < x:= λh=>UInt8.lt_irrefl x (UInt8.lt_trans h1 h)
   simp [h1,h2]
  ·by_cases h2:y < x
   ·simp [h1,h2]
   ·simp [h1,h2,ih]
theorem uN: ∀(a b c:List UInt8),fR a b < 0->fR b c < 0->fR a c < 0
 | [],[],c,h,_=>by simp [fR,Lib.compareBytes]at h
 | [],_::_,[],_,h=>by simp [fR,Lib.compareBytes]at h
 | [],_::_,_::_,_,_=>by simp [fR,Lib.compareBytes]
 |_::_,[],c,h,_=>by simp [fR,Lib.compareBytes]at h
 |_::_,_::_,[],_,h=>by simp [fR,Lib.compareBytes]at h
 |x::a,y::b,z::c,h1,h2=>by
  have ih:=uN a b c
  unfold fR at ih h1 h2 |-
  simp only [Lib.compareBytes]at h1 h2 |-
  by_cases hxy:x < y
  ·by_cases hyz:y < z
   ·simp [UInt8.lt_trans hxy hyz]
   ·by_cases hzy:z < y
    ·simp [hyz,hzy]at h2
    ·have:y=z:=UInt8.le_antisymm (UInt8.not_lt.1 hzy) (UInt8.not_lt.1 hyz)
     subst this;simp [hxy]
  ·by_cases hyx:y < x
   ·simp [hxy,hyx]at h1
   ·have:x=y:=UInt8.le_antisymm (UInt8.not_lt.1 hyx) (UInt8.not_lt.1 hxy)
    subst this
    simp only [hxy,if_false]at h1
    by_cases hyz:x < z
    ·simp [hyz]
    ·by_cases hzy:z < x
     ·simp [hyz,hzy]at h2
     ·simp only [hyz,hzy,if_false]at h2 |-
      exact ih h1 h2
theorem eG: ∀(a b:List UInt8),Op.bytesLess a b=decide (fR a b < 0)
 | [],[]=>by simp [fR,Lib.compareBytes,Op.bytesLess]
 | [],_::_=>by simp [fR,Lib.compareBytes,Op.bytesLess]
 |_::_,[]=>by simp [fR,Lib.compareBytes,Op.bytesLess]
 |x::a,y::b=>by
  have ih:=eG a b
  unfold fR at ih |-
  simp only [Lib.compareBytes,Op.bytesLess]
  by_cases h1:x < y
  ·simp [h1]
  ·by_cases h2:y < x
   ·have:¬ x=y:= λe=>UInt8.lt_irrefl x (by rw [<-e]at h2;exact h2)
    simp [h1,h2,this]
   ·have:x=y:=UInt8.le_antisymm (UInt8.not_lt.1 h2) (UInt8.not_lt.1 h1)
    subst this
    simp [ih]
end Go.Proofs.YtfhoddcminbffaaGreatDoor
namespace Go.Proofs.YtfhoddcminbffaaGreatDoor
open Go.Proofs
set_option maxRecDepth 10000
attribute [local irreducible] aV aM Tri aI YVC dQ bN
def aF9 (c:Cn):Int:=if c.kind≠0 then aQ c else 0
def aJb (s:List UInt8):Int:=if s≠[]then 1 else 0
def aLs:List Cn->Int
 | []=>0
 |c::r=>aF9 c+aLs r
def aLr:List (List UInt8)->Int
 | []=>0
 |c::r=>aJb c+aLr r
def fT (x:Ax):Int:=aLs [x.left,x.right]+x.roles.length+aLr [x.role,x.a,x.b]
end Go.Proofs.YtfhoddcminbffaaGreatDoor
namespace Go.Proofs.YtfhoddcminbffaaGreatDoor
open Go.Proofs
set_option maxRecDepth 10000
attribute [local irreducible] aV aM Tri aI YVC dQ bN
def iV (a b:Int):Int:=if a < b then -1 else if b < a then 1 else 0
def orF:List Int->Int
 | []=>0
 |x::r=>if x≠0 then x else orF r
def aLe (n:Int):List D:=[.int .i64 n]
theorem aA1 (a:Int):Tri Tryz.prog 139 [.d (.int .i64 a)] [] (λr=>r= .d (.bool false)):=by
 refine aN hty Tryz.func139 rfl (kp [0,2]) [] _ _ _ (by simp [Tryz.f139]) (by simp) ?_
 ((conv=>whnf);repeat' ((first|(intro hq;(try simp only [lnS]at hq);(try rewrite [List.length_map]))|refine sJ ?_|refine .intro _ (.intro rfl ?_)|refine exL (k:= ?_)|refine dwR ?_|((first|refine aD ?_ ?_|refine aF ?_ ?_)<;>intro hb<;>(first|exact ddX hb|try simp only [lnS]at hb))|(refine aC ?_ ?_<;>intro hb<;>try exact dsX hb))<;>(conv=>whnf)))
 all_goals first|rfl|(exact bA (by simp))
theorem fA (a b:Int):Tri Tryz.prog 96 [.d (.int .i64 a), .d (.int .i64 b)] [] (λr=>r= .d (.int .i64 (iV a b))):=by
 refine aN hty Tryz.func96 rfl (kp [0,1,4,5,6,11,12,13,16,19]) [] _ _ _ (by simp [Tryz.f96]) (by simp) ?_
 ((conv=>whnf);repeat' ((first|(intro hq;(try simp only [lnS]at hq);(try rewrite [List.length_map]))|refine sJ ?_|refine .intro _ (.intro rfl ?_)|refine exL (k:= ?_)|(refine aG [] (aA1 _) trivial (λr hs=> ?_);subst hs)|refine dwR ?_|((first|refine aD ?_ ?_|refine aF ?_ ?_)<;>intro hb<;>(first|exact ddX hb|try simp only [lnS]at hb))|(refine aC ?_ ?_<;>intro hb<;>try exact dsX hb))<;>(conv=>whnf)))
 all_goals (refine bZ (Eq.symm ?_);unfold iV;simp_all<;>omega)
theorem aEt (l:List Int):Tri Tryz.prog 95 [.d (.sl 1 (l.map aLe))] [] (λr=>r= .d (.int .i64 (orF l))):=by
 refine aN hty Tryz.func95 rfl (kp [0,2,3,5,6,7,8,9,14]) [] _ _ _ (by simp [Tryz.f95]) (by simp) ?_
 ((conv=>whnf);repeat ((first|(intro hq;try simp only [lnS]at hq)|refine sI ?_|refine .intro _ (.intro rfl ?_));(conv=>whnf)))
 refine aK hty (λj:Nat=>([(3, .d (.int .i64 0)),(6, .d (.sl 1 (l.map aLe))),(7, .d (.int .i64 l.length)),(8, .d (.int .i64 j))],[])) (λj=>j<=l.length/\orF l=orF (l.drop j)) (λj=>l.length - j) 0 ⟨by omega,rfl⟩ ⟨by repeat' (first|exact trivial|exact rfl|(rw [List.length_map];exact rfl)|refine And.intro ?_ ?_),trivial⟩ ?_
 rintro j ⟨hj,hn⟩
 ((conv=>whnf);repeat ((first|(intro hq;try simp only [lnS]at hq)|refine sI ?_|refine .intro _ (.intro rfl ?_));(conv=>whnf)))
 refine aD (λh1=> ?_) (λh1=> ?_)
 ·have hjl:j < l.length:=by omega
  have hrow:(l.map aLe)[(j:Int).toNat]? =some (aLe l[j]):=aS hjl
  rw [List.drop_eq_getElem_cons hjl,orF]at hn
  generalize l[j]=x at hrow hn
  ((conv=>whnf);repeat' ((first|(intro hq;(try simp only [lnS]at hq);(try rewrite [List.length_map]))|refine sJ ?_|refine .intro _ (.intro rfl ?_)|refine exL (k:= ?_)|(refine⟨_,hrow, ?_⟩)|refine dwR ?_|((first|refine aD ?_ ?_|refine aF ?_ ?_)<;>intro hb<;>(first|exact ddX hb|try simp only [lnS]at hb))|(refine aC ?_ ?_<;>intro hb<;>try exact dsX hb))<;>(conv=>whnf)))
  ·rw [if_pos (by assumption)]at hn
   exact bZ hn.symm
  ·rw [if_neg (by simpa using (by assumption:x=0))]at hn
   exact⟨j+1,⟨by omega,hn⟩,by dsimp only;omega,by repeat' (first|exact trivial|exact rfl|refine And.intro ?_ ?_),trivial⟩
 ·have hjl:j=l.length:=by omega
  subst hjl
  rw [List.drop_length,orF]at hn
  ((conv=>whnf);repeat' ((first|(intro hq;(try simp only [lnS]at hq);(try rewrite [List.length_map]))|refine sJ ?_|refine .intro _ (.intro rfl ?_)|refine exL (k:= ?_)|refine dwR ?_|((first|refine aD ?_ ?_|refine aF ?_ ?_)<;>intro hb<;>(first|exact ddX hb|try simp only [lnS]at hb))|(refine aC ?_ ?_<;>intro hb<;>try exact dsX hb))<;>(conv=>whnf)))
  exact bZ hn.symm
def cR:List (List UInt8)->List (List UInt8)->Int
 | [],[]=>0
 | [],_::_=> -1
 |_::_,[]=>1
 |a::l,b::m=>if fR a b≠0 then fR a b else cR l m
end Go.Proofs.YtfhoddcminbffaaGreatDoor
namespace Go.Proofs.YtfhoddcminbffaaGreatDoor
open Go.Proofs
set_option maxRecDepth 10000
attribute [local irreducible] aV aM Tri aI YVC dQ bN
mutual
def grR:Cn->List D
 | .mk k n lo hi ps=>[.int .i64 k, .str n, .int .i64 lo, .int .i64 hi, .sl 5 (aL1 ps), .int .i64 (aQ (.mk k n lo hi ps)), .sl 7 (aLg ps)]
def aLg:List Cn->List (List D)
 | []=>[]
 |c::r=>grR c::aLg r
end
theorem aB7: ∀l,aLg l=l.map grR
 | []=>rfl
 |c::r=>by rw [aLg,aB7 r];rfl
def grX (c:Cn) (n:Int) (l:List Cn):List D:=[.int .i64 c.kind, .str c.name, .int .i64 c.lo, .int .i64 c.hi, .sl 5 (c.parts.map cnR), .int .i64 n, .sl 7 (l.map grR)]
theorem cJ (c:Cn):grR c=grX c (aQ c) c.parts:=by
 cases c;rw [grR,wA,aB7];rfl
theorem jW {l:List Cn}{j:Nat}(h:j < l.length):(bC (l.take (j+1))).length=(bC (l.take j)).length+aQ l[j]:=by
 rw [qV h,List.length_append];rfl
theorem dC (l:List Cn) (j:Nat):(bC (l.take j)).length<=(bC l).length:=by
 conv=>rhs;rw [<-List.take_append_drop j l,cW,List.length_append]
 omega
theorem kS: ∀(l:List Cn),l.length<=(bC l).length
 | []=>by simp
 |c::r=>by
  have h1:=kS r
  have h2:=aEf c
  rw [aQ]at h2
  rw [bC,List.length_append,List.length_cons];omega
theorem kO (c:Cn):aQ c=(bC c.parts).length+1:=by rw [aQ,eN];simp
theorem mW: ∀(c:Cn) (_:aQ c<=1000000),Tri Tryz.prog 130 [.d (.agg (cnR c))] [] (λr=>r= .d (.agg (grR c))):=by
 refine Cn.ind ?_
 intro c ih hs
 have hsz:=kO c
 rw [aJ,cJ]
 refine aH false [1,4,5] hty Tryz.func130 rfl (kp [0,1,2,4,5,9,10,11,12]) [] _ _ _ (by simp [Tryz.f130]) (by simp) ?_
 ((conv=>whnf);repeat ((first|(intro hq;try simp only [lnS]at hq)|refine sI ?_|refine .intro _ (.intro rfl ?_));(conv=>whnf)))
 refine aV.mownC 2 120 152 152 7 6 rfl rfl (dV (by with_unfolding_all exact rfl)) ?_
 refine aK hty (λy:Nat×Nat=>([(2, .ptr 2 0),(9, .d (.sl 5 (c.parts.map cnR))),(10, .d (.int .i64 c.parts.length)),(11, .d (.int .i64 y.1))],[(120, .mrow 152 7 y.2 ((c.parts.take y.1).map grR)),(2, .cells 152 [.d (.int .i64 c.kind), .d (.str c.name), .d (.int .i64 c.lo), .d (.int .i64 c.hi), .d (.sl 5 (c.parts.map cnR)), .d (.int .i64 ((bC (c.parts.take y.1)).length+1:Nat)), .mw 120 7 y.1])])) (λy=>y.1<=c.parts.length) (λy=>c.parts.length - y.1) (0,0) (by dsimp only;omega) ⟨by repeat' (first|exact trivial|exact rfl|(rw [List.length_map];exact rfl)|refine And.intro ?_ ?_),by repeat' (first|exact trivial|exact rfl|refine And.intro ?_ ?_)⟩ ?_
 rintro⟨j,cap⟩ hj
 dsimp only at hj
 ((conv=>whnf);repeat ((first|(intro hq;try simp only [lnS]at hq)|refine sI ?_|refine .intro _ (.intro rfl ?_));(conv=>whnf)))
 refine aD (λh1=> ?_) (λh1=> ?_)
 ·have hjl:j < c.parts.length:=by dsimp only at h1;omega
  have hrow':(c.parts.map cnR)[(j:Int).toNat]? =some (cnR c.parts[j]):=aS hjl
  have hp:=cT (List.getElem_mem (l:=c.parts) hjl)
  have hi:=ih c.parts[j] (List.getElem_mem hjl) (by omega)
  have hnl:=jW hjl
  have hle:=dC c.parts (j+1)
  rw [aJ]at hrow' hi
  rw [cJ]at hi
  have hgr:=cJ c.parts[j]
  ((conv=>whnf);repeat' ((first|(intro hq;(try simp only [lnS]at hq);(try rewrite [List.length_map]))|refine sJ ?_|refine .intro _ (.intro rfl ?_)|refine exL (k:= ?_)|(refine⟨_,hrow', ?_⟩)|(refine aG [] hi trivial (λr hs=> ?_);subst hs)|refine dwR ?_|((first|refine aD ?_ ?_|refine aF ?_ ?_)<;>intro hb<;>(first|exact ddX hb|try simp only [lnS]at hb))|(refine aC ?_ ?_<;>intro hb<;>try exact dsX hb))<;>(conv=>whnf)))
  have hpl:=kS c.parts
  have hlt:((c.parts.take j).map grR).length=j:=by rw [List.length_map,List.length_take];omega
  refine⟨?_,λcap' hc=> ?_⟩
  ·show (((c.parts.take j).map grR).length+1)* 96<=140737488355328
   rw [hlt];omega
  ·((conv=>whnf);repeat ((first|(intro hq;try simp only [lnS]at hq)|refine sI ?_|refine .intro _ (.intro rfl ?_));(conv=>whnf)))
   have hrows:(c.parts.take (j+1)).map grR=(c.parts.take j).map grR++[grX c.parts[j] (aQ c.parts[j]) c.parts[j].parts]:=by
    rw [List.take_succ_eq_append_getElem hjl,List.map_append,List.map_cons,List.map_nil,hgr]
   have hcast:(((bC (c.parts.take (j+1))).length+1:Nat):Int)=(((bC (c.parts.take j)).length+1:Nat):Int)+(aQ c.parts[j]:Nat):=by omega
   refine⟨(j+1,cap'),by dsimp only;omega,by dsimp only;omega,⟨by repeat' (first|exact trivial|exact rfl|refine And.intro ?_ ?_), ?_⟩⟩
   dsimp only
   rw [hrows,hcast]
   refine⟨rfl, ?_,trivial⟩
   have hmw:SV.mw 120 7 (j+1)=SV.mw 120 7 (((c.parts.take j).map grR).length+1):=by rw [hlt]
   rw [hmw]
   rfl
 ·have hjl:j=c.parts.length:=by dsimp only at h1;omega
  subst hjl
  rw [List.take_length,<-hsz]
  ((conv=>whnf);repeat' ((first|(intro hq;(try simp only [lnS]at hq);(try rewrite [List.length_map]))|refine sJ ?_|refine .intro _ (.intro rfl ?_)|refine exL (k:= ?_)|refine dwR ?_|((first|refine aD ?_ ?_|refine aF ?_ ?_)<;>intro hb<;>(first|exact ddX hb|try simp only [lnS]at hb))|(refine aC ?_ ?_<;>intro hb<;>try exact dsX hb))<;>(conv=>whnf)))
  refine⟨(List.length_map ..).symm, ?_⟩
  ((conv=>whnf);repeat ((first|(intro hq;try simp only [lnS]at hq)|refine sI ?_|refine .intro _ (.intro rfl ?_));(conv=>whnf)))
  rfl
mutual
def fX:Cn->Cn->Int
 | .mk k n lo hi ps,d=>
  if orF [iV (aQ (.mk k n lo hi ps)) (aQ d),iV k d.kind,fR n d.name,iV lo d.lo,iV hi d.hi]≠0 then orF [iV (aQ (.mk k n lo hi ps)) (aQ d),iV k d.kind,fR n d.name,iV lo d.lo,iV hi d.hi]
  else fO ps d.parts
def fO:List Cn->List Cn->Int
 | [],[]=>0
 | [],_::_=> -1
 |_::_,[]=>1
 |a::l,b::m=>if fX a b≠0 then fX a b else fO l m
end
def mU (c d:Cn):Int:=orF [iV (aQ c) (aQ d),iV c.kind d.kind,fR c.name d.name,iV c.lo d.lo,iV c.hi d.hi]
theorem aAc (c d:Cn):fX c d=if mU c d≠0 then mU c d else fO c.parts d.parts:=by
 cases c;rw [fX];rfl
theorem pC (f:FuncId) (hcall:cY Tryz.prog f=true) (l m:List Cn) (hf: ∀a∈l,∀b∈m,Tri Tryz.prog f [.d (.agg (grR a)), .d (.agg (grR b))] [] (λr=>r= .d (.int .i64 (fX a b)))):
  Tri Tryz.prog 166 [.d (.sl 7 (l.map grR)), .d (.sl 7 (m.map grR)), .fn f [] []] [] (λr=>r= .d (.int .i64 (fO l m))):=by
 refine aH false [8,9] hty Tryz.func166 rfl (kp [0,1,2,6,7,8,9,10,11,12,13,14,21,31,38]) [] _ _ _ (by simp [Tryz.f166]) (by simp) ?_
 ((conv=>whnf);repeat ((first|(intro hq;try simp only [lnS]at hq)|refine sI ?_|refine .intro _ (.intro rfl ?_));(conv=>whnf)))
 refine aK hty (λj:Nat=>([(0, .d (.sl 7 (l.map grR))),(1, .d (.sl 7 (m.map grR))),(2, .fn f [] []),(11, .d (.sl 7 (l.map grR))),(12, .d (.int .i64 l.length)),(13, .d (.int .i64 j))],[])) (λj=>j<=l.length/\j<=m.length/\fO l m=fO (l.drop j) (m.drop j)) (λj=>l.length - j) 0 ⟨by omega,by omega,rfl⟩ ⟨by repeat' (first|exact trivial|exact rfl|(rw [List.length_map];exact rfl)|refine And.intro ?_ ?_),trivial⟩ ?_
 rintro j ⟨hj,hjm,hn⟩
 ((conv=>whnf);repeat ((first|(intro hq;try simp only [lnS]at hq)|refine sI ?_|refine .intro _ (.intro rfl ?_));(conv=>whnf)))
 refine aD (λh1=> ?_) (λh1=> ?_)
 ·have hjl:j < l.length:=by omega
  have hrow:(l.map grR)[(j:Int).toNat]? =some (grR l[j]):=aS hjl
  rw [cJ]at hrow
  rw [List.drop_eq_getElem_cons hjl]at hn
  ((conv=>whnf);repeat ((first|(refine⟨_,hrow, ?_⟩)|(intro hq;try simp only [lnS]at hq)|refine sI ?_|refine .intro _ (.intro rfl ?_));(conv=>whnf)))
  refine aD (λh2=> ?_) (λh2=> ?_)
  ·have hm:m.drop j=[]:=List.drop_eq_nil_of_le (by simp only [List.length_map]at h2;omega)
   rw [hm,fO]at hn
   ((conv=>whnf);repeat' ((first|(intro hq;(try simp only [lnS]at hq);(try rewrite [List.length_map]))|refine sJ ?_|refine .intro _ (.intro rfl ?_)|refine exL (k:= ?_)|refine dwR ?_|((first|refine aD ?_ ?_|refine aF ?_ ?_)<;>intro hb<;>(first|exact ddX hb|try simp only [lnS]at hb))|(refine aC ?_ ?_<;>intro hb<;>try exact dsX hb))<;>(conv=>whnf)))
   exact bZ hn.symm
  ·have hjm2:j < m.length:=by simp only [List.length_map]at h2;omega
   have hrow2:(m.map grR)[(j:Int).toNat]? =some (grR m[j]):=aS hjm2
   rw [cJ]at hrow2
   have hi:=hf l[j] (List.getElem_mem hjl) m[j] (List.getElem_mem hjm2)
   rw [cJ,cJ]at hi
   rw [List.drop_eq_getElem_cons hjm2,fO]at hn
   ((conv=>whnf);repeat' ((first|(intro hq;(try simp only [lnS]at hq);(try rewrite [List.length_map]))|refine sJ ?_|refine .intro _ (.intro rfl ?_)|refine exL (k:= ?_)|(refine⟨_,hrow2, ?_⟩)|(refine aG [] hi trivial (λr hs=> ?_);subst hs)|refine dwR ?_|((first|refine aD ?_ ?_|refine aF ?_ ?_)<;>intro hb<;>(first|exact ddX hb|try simp only [lnS]at hb))|(refine aC ?_ ?_<;>intro hb<;>try exact dsX hb))<;>(conv=>whnf)))
   ·rw [if_pos (by assumption)]at hn
    exact bZ hn.symm
   ·rw [if_neg (by simpa using (by assumption:fX l[j] m[j]=0))]at hn
    exact⟨j+1,⟨by omega,by omega,hn⟩,by dsimp only;omega,by repeat' (first|exact trivial|exact rfl|refine And.intro ?_ ?_),trivial⟩
 ·have hjl:j=l.length:=by omega
  subst hjl
  rw [List.drop_length]at hn
  ((conv=>whnf);repeat' ((first|(intro hq;(try simp only [lnS]at hq);(try rewrite [List.length_map]))|refine sJ ?_|refine .intro _ (.intro rfl ?_)|refine exL (k:= ?_)|refine dwR ?_|((first|refine aD ?_ ?_|refine aF ?_ ?_)<;>intro hb<;>(first|exact ddX hb|try simp only [lnS]at hb))|(refine aC ?_ ?_<;>intro hb<;>try exact dsX hb))<;>(conv=>whnf)))
  ·have hjm2:l.length < m.length:=by simp_all
   rw [List.drop_eq_getElem_cons hjm2,fO]at hn
   exact bZ hn.symm
  ·have hjm2:m.drop l.length=[]:=List.drop_eq_nil_of_le (by simp_all)
   rw [hjm2,fO]at hn
   exact bZ hn.symm
end Go.Proofs.YtfhoddcminbffaaGreatDoor
