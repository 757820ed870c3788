/-
  Terms: the reference's Depth, shape, named, walk, CheckConcept. Terms: the order of concepts is total; sorted sets of concepts. Terms: the canonical form of a concept, as a plain function; it is not greater. Maps as symbolic objects: made, read, written, emptied of a key, walked over.
  Conditions: none.
-/
import Derived.Test.YtleihcnongldbaaGreatDoorWG4
import Derived.Test.YtleihcnongldbaaGreatDoorWSyi
import Derived.Test.YtleihcnongldbaaGreatDoorWA8
set_option linter.unnecessarySimpa false
set_option linter.unusedSectionVars false
set_option linter.unusedSimpArgs false
set_option linter.unusedVariables false
set_option maxHeartbeats 4000000
namespace Go.Proofs.YtleihcnongldbaaGreatDoor
open Go.Proofs
set_option maxRecDepth 10000
attribute [local irreducible] aN aJ Tri aI YVC cP bE
def qB (c:Cn):Bool:=
 if c.kind=1\/c.kind=2 then decide (c.lo=0) && (decide (c.hi=0) && (decide (c.name=[]) && decide (c.parts.length=0)))
 else if c.kind=3\/c.kind=4 then decide (c.lo=0) && (decide (c.hi=0) && decide (c.parts.length=0))
 else if c.kind=5 then decide (c.lo=0) && (decide (c.hi=0) && (decide (c.name=[]) && (decide (2<=c.parts.length) && decide (c.parts.length<=8))))
 else if c.kind=6 then decide (c.lo=0) && (decide (c.hi=0) && decide (c.parts.length=1))
 else if c.kind=7 then decide (c.parts.length=0) && (decide (-1099511627776<=c.lo) && (decide (c.lo<=c.hi) && decide (c.hi<=1099511627776)))
 else false
theorem aEm (c:Cn):Tri Tryz.prog 187 [.d (.agg (cnR c))] [] (λr=>r= .d (.bool (qB c))):=by
 rw [bA]
 unfold qB
 generalize hk:c.kind=k
 refine aE false [1] hty Tryz.func187 rfl (kp [0,1,2,3,13,14,29,39,59,68]) [] _ _ _ (by simp [Tryz.f187]) (by simp) ?_
 ((conv=>whnf);repeat' ((first|(intro hq;(try simp only [lnS]at hq);(try rewrite [List.length_map]))|refine sJ ?_|refine .intro _ (.intro rfl ?_)|refine exL (k:= ?_)|refine dwR ?_|((first|refine aB ?_ ?_|refine aC ?_ ?_)<;>intro hb<;>(first|exact ddX hb|try simp only [lnS]at hb))|(refine aA ?_ ?_<;>intro hb<;>try exact dsX hb))<;>(conv=>whnf)))
 all_goals (refine aQ (Eq.symm ?_);simp_all<;>first|omega|(rw [Bool.eq_iff_iff];simp<;>omega))
def aD3 (c:Cn):Bool:=if c.kind=3\/c.kind=6\/c.kind=7 then dD c.name else if c.kind=4 then dM c.name else true
theorem aEo (c:Cn):Tri Tryz.prog 188 [.d (.agg (cnR c))] [] (λr=>r= .d (.bool (aD3 c))):=by
 rw [bA]
 have p1:=iD c.name
 have p2:=gI c.name
 unfold aD3
 generalize hk:c.kind=k
 refine aE false [1] hty Tryz.func188 rfl (kp [0,1,2,4,5,12]) [] _ _ _ (by simp [Tryz.f188]) (by simp) ?_
 ((conv=>whnf);repeat' ((first|(intro hq;(try simp only [lnS]at hq);(try rewrite [List.length_map]))|refine sJ ?_|refine .intro _ (.intro rfl ?_)|refine exL (k:= ?_)|(refine aD [] p1 trivial (λr hs=> ?_);subst hs)|(refine aD [] p2 trivial (λr hs=> ?_);subst hs)|refine dwR ?_|((first|refine aB ?_ ?_|refine aC ?_ ?_)<;>intro hb<;>(first|exact ddX hb|try simp only [lnS]at hb))|(refine aA ?_ ?_<;>intro hb<;>try exact dsX hb))<;>(conv=>whnf)))
 all_goals (refine aQ (Eq.symm ?_);simp_all)
theorem yD (c:Cn):cS c=if qB c=false then 21 else if aD3 c=false then 20 else 0:=by
 by_cases h:c.kind < 1\/7 < c.kind
 ·have e:qB c=false:=by
   unfold qB
   rw [if_neg (by omega),if_neg (by omega),if_neg (by omega),if_neg (by omega),if_neg (by omega)]
  rw [e,if_pos rfl,cS,if_pos h]
 ·have hk:c.kind=1\/c.kind=2\/c.kind=3\/c.kind=4\/c.kind=5\/c.kind=6\/c.kind=7:=by omega
  have hE:cS c=rE (iK c.kind) c:=by rw [cS,if_neg h]
  rw [hE]
  clear hE h
  have n1:iK 1=⟨0,0,0,false⟩:=rfl
  have n2:iK 2=⟨0,0,0,false⟩:=rfl
  have n3:iK 3=⟨1,0,0,false⟩:=rfl
  have n4:iK 4=⟨2,0,0,false⟩:=rfl
  have n5:iK 5=⟨0,2,8,false⟩:=rfl
  have n6:iK 6=⟨1,1,1,false⟩:=rfl
  have n7:iK 7=⟨1,0,0,true⟩:=rfl
  unfold qB aD3 rE aEv dM
  generalize c.parts.length=m
  rcases hk with hk|hk|hk|hk|hk|hk|hk<;>rw [hk]<;>simp only [n1,n2,n3,n4,n5,n6,n7]
  all_goals
   cases dD c.name<;>cases aBe c.name<;>simp
   all_goals (repeat' split)<;>simp_all<;>omega
theorem aAj: ∀(l m:List Cn),dL (l++m)=if dL l≠0 then dL l else dL m
 | [],m=>by simp [dL]
 |x::r,m=>by
  rw [List.cons_append,dL,dL,aAj r m]
  split<;>rfl
mutual
theorem yC: ∀(c:Cn) (d n:Int),(eK c d n).1=true->(eK c d n).2=n+(bH c:Nat)
 | .mk k s lo hi ps,d,n=>by
  have e:bH (.mk k s lo hi ps)=(bD ps).length+1:=vR _
  rw [eK,e]
  split
  ·intro h;exact absurd h (by simp)
  ·intro h
   rw [yB ps d (n+1) h];omega
theorem yB: ∀(l:List Cn) (d n:Int),(fO l d n).1=true->(fO l d n).2=n+((bD l).length:Nat)
 | [],d,n=>by intro _;rw [fO,bD];simp
 |c::r,d,n=>by
  have h1:=yC c (d+1) n
  have e:(bD (c::r)).length=bH c+(bD r).length:=by rw [bD,List.length_append];rfl
  rw [fO,e]
  split
  ·rename_i hb
   intro h
   rw [yB r d _ h,h1 hb];omega
  ·intro h;exact absurd h (by simp)
end
mutual
theorem aAi: ∀(c:Cn) (d n:Int),((eK c d n).1=true↔d+eT c<=8/\n+bH c<=64)
 | .mk k s lo hi ps,d,n=>by
  have e:bH (.mk k s lo hi ps)=(bD ps).length+1:=vR _
  rw [eK,eT,e]
  split
  ·rename_i h
   simp only [Bool.false_eq_true,false_iff]
   omega
  ·rename_i h
   rw [aAh ps d (n+1) (by omega) (by omega)]
   omega
theorem aAh: ∀(l:List Cn) (d n:Int),d<=8->n<=64->((fO l d n).1=true↔d+eQ l<=8/\n+(bD l).length<=64)
 | [],d,n,hd,hn=>by
  rw [fO,eQ,bD]
  simp only [true_iff,List.length_nil]
  omega
 |c::r,d,n,hd,hn=>by
  have h1:=aAi c (d+1) n
  have h2:=yC c (d+1) n
  have e:(bD (c::r)).length=bH c+(bD r).length:=by rw [bD,List.length_append];rfl
  rw [fO,eQ,e]
  split
  ·rename_i hb
   rw [hb]at h1
   have h1:=h1.1 rfl
   rw [h2 hb,aAh r d _ hd (by omega)]
   omega
  ·rename_i hb
   have h1:¬ (d+1+eT c<=8/\n+bH c<=64):= λh=>hb (h1.2 h)
   simp only [Bool.false_eq_true,false_iff]
   omega
end
theorem aF7 (c:Cn):cA c=if 8 < eT c\/64 < bH c then 21 else dL (eJ c):=by
 have h:=aAi c 0 0
 unfold cA
 split
 ·rename_i hf
  rw [hf]at h
  rw [if_pos]
  have h:¬ ((0:Int)+eT c<=8/\(0:Int)+bH c<=64):= λh'=>absurd (h.2 h') (by decide)
  omega
 ·rename_i hf
  have hf:(eK c 0 0).1=true:=by simpa using hf
  have h1:=h.1 hf
  rw [if_neg]
  omega
theorem aHd: ∀(c:Cn),Tri Tryz.prog 160 [.d (.agg (cnR c))] [] (λr=>r= .d (.int .i64 (dL (eJ c)))):=by
 refine Cn.ind ?_
 intro c ih
 have h1:=aEm c
 have h2:=aEo c
 rw [eD,dL,yD]
 rw [bA]at h1 h2 |-
 generalize qB c=b1 at *
 generalize aD3 c=b2 at *
 refine aE false [1] hty Tryz.func160 rfl (kp [0,1,2,3,4,7,10,15,25]) [] _ _ _ (by simp [Tryz.f160]) (by simp) ?_
 ((conv=>whnf);repeat' ((first|(intro hq;(try simp only [lnS]at hq);(try rewrite [List.length_map]))|refine sJ ?_|refine .intro _ (.intro rfl ?_)|refine exL (k:= ?_)|(refine aD [] h1 trivial (λr hs=> ?_);subst hs)|(refine aD [] h2 trivial (λr hs=> ?_);subst hs)|refine dwR ?_|((first|refine aB ?_ ?_|refine aC ?_ ?_)<;>intro hb<;>(first|exact ddX hb|try simp only [lnS]at hb))|(refine aA ?_ ?_<;>intro hb<;>try exact dsX hb))<;>(conv=>whnf)))
 ·subst_vars;simp_all;rfl
 ·subst_vars;simp_all;rfl
 ·have e1:b1=true:=by simpa using (by assumption:(!b1)=false)
  have e2:b2=true:=by simpa using (by assumption:(!b2)=false)
  subst e1;subst e2
  rw [if_neg (by simp)]
  refine aH hty (λj:Nat=>([(1, .ea 5 [[.int .i64 c.kind, .str c.name, .int .i64 c.lo, .int .i64 c.hi, .sl 5 (c.parts.map cnR)]] 0 0),(2, .d (.int .i64 0)),(3, .d (.int .i64 j))],[])) (λj=>j<=c.parts.length/\dL (bD c.parts)=dL (bD (c.parts.drop j))) (λj=>c.parts.length - j) 0 ⟨by omega,rfl⟩ ⟨by repeat' (first|exact trivial|exact rfl|exact⟨rfl,rfl⟩|refine And.intro ?_ ?_),trivial⟩ ?_
  rintro j ⟨hj,hn⟩
  ((conv=>whnf);repeat ((first|(intro hq;try simp only [lnS]at hq)|refine sI ?_|refine .intro _ (.intro rfl ?_));(conv=>whnf)))
  refine aB (λh1=> ?_) (λh1=> ?_)
  ·have hjl:j < c.parts.length:=by simp only [List.length_map]at h1;omega
   have hrow':(c.parts.map cnR)[(j:Int).toNat]? =some (cnR c.parts[j]):=aS hjl
   have hi:=ih c.parts[j] (List.getElem_mem hjl)
   rw [List.drop_eq_getElem_cons hjl,bD,aAj]at hn
   generalize c.parts[j]=x at hrow' hi hn
   rw [bA]at hrow' hi
   ((conv=>whnf);repeat' ((first|(intro hq;(try simp only [lnS]at hq);(try rewrite [List.length_map]))|refine sJ ?_|refine .intro _ (.intro rfl ?_)|refine exL (k:= ?_)|(refine⟨_,hrow', ?_⟩)|(refine aD [] hi trivial (λr hs=> ?_);subst hs)|refine dwR ?_|((first|refine aB ?_ ?_|refine aC ?_ ?_)<;>intro hb<;>(first|exact ddX hb|try simp only [lnS]at hb))|(refine aA ?_ ?_<;>intro hb<;>try exact dsX hb))<;>(conv=>whnf)))
   ·rw [if_pos (by assumption)]at hn
    exact eI hn.symm
   ·rw [if_neg (by simpa using (by assumption:dL (eJ x)=0))]at hn
    exact⟨j+1,⟨by omega,hn⟩,by dsimp only;omega,by repeat' (first|exact trivial|exact rfl|refine And.intro ?_ ?_),trivial⟩
  ·have hjl:j=c.parts.length:=by simp only [List.length_map]at h1;omega
   subst hjl
   rw [List.drop_length]at hn
   ((conv=>whnf);repeat' ((first|(intro hq;(try simp only [lnS]at hq);(try rewrite [List.length_map]))|refine sJ ?_|refine .intro _ (.intro rfl ?_)|refine exL (k:= ?_)|refine dwR ?_|((first|refine aB ?_ ?_|refine aC ?_ ?_)<;>intro hb<;>(first|exact ddX hb|try simp only [lnS]at hb))|(refine aA ?_ ?_<;>intro hb<;>try exact dsX hb))<;>(conv=>whnf)))
   exact eI hn.symm
theorem aEq: ∀(c:Cn) (_:bH c<=1000000),Tri Tryz.prog 158 [.d (.agg (cnR c))] [] (λr=>r= .d (.int .i64 (eT c))):=by
 refine Cn.ind ?_
 intro c ih hs
 rw [bA,aKx]
 refine aE false [1] hty Tryz.func158 rfl (kp [0,1,2,3,4,9]) [] _ _ _ (by simp [Tryz.f158]) (by simp) ?_
 ((conv=>whnf);repeat ((first|(intro hq;try simp only [lnS]at hq)|refine sI ?_|refine .intro _ (.intro rfl ?_));(conv=>whnf)))
 refine aH hty (λj:Nat=>([(1, .ea 5 [[.int .i64 c.kind, .str c.name, .int .i64 c.lo, .int .i64 c.hi, .sl 5 (c.parts.map cnR)]] 0 0),(3, .d (.int .i64 (eQ (c.parts.take j):Nat))),(4, .d (.int .i64 j))],[])) (λj=>j<=c.parts.length) (λj=>c.parts.length - j) 0 (by omega) ⟨by repeat' (first|exact trivial|exact rfl|exact⟨rfl,rfl⟩|refine And.intro ?_ ?_),trivial⟩ ?_
 intro j hj
 ((conv=>whnf);repeat ((first|(intro hq;try simp only [lnS]at hq)|refine sI ?_|refine .intro _ (.intro rfl ?_));(conv=>whnf)))
 refine aB (λh1=> ?_) (λh1=> ?_)
 ·have hjl:j < c.parts.length:=by simp only [List.length_map]at h1;omega
  have hrow':(c.parts.map cnR)[(j:Int).toNat]? =some (cnR c.parts[j]):=aS hjl
  have hi:=ih c.parts[j] (List.getElem_mem hjl) (by have:=kC (List.getElem_mem (l:=c.parts) hjl);omega)
  have hd1:=tY c.parts[j]
  have hd2:=kC (List.getElem_mem (l:=c.parts) hjl)
  rw [bA]at hrow' hi
  ((conv=>whnf);repeat' ((first|(intro hq;(try simp only [lnS]at hq);(try rewrite [List.length_map]))|refine sJ ?_|refine .intro _ (.intro rfl ?_)|refine exL (k:= ?_)|(refine⟨_,hrow', ?_⟩)|(refine aD [] hi trivial (λr hs=> ?_);subst hs)|(refine aNi rfl rfl rfl ?_)|refine dwR ?_|((first|refine aB ?_ ?_|refine aC ?_ ?_)<;>intro hb<;>(first|exact ddX hb|try simp only [lnS]at hb))|(refine aA ?_ ?_<;>intro hb<;>try exact dsX hb))<;>(conv=>whnf)))
  refine⟨j+1,by dsimp only;omega,by dsimp only;omega,⟨?_,trivial⟩⟩
  dsimp only
  rw [aF6 hjl]
  repeat' (first|exact trivial|exact rfl|exact aOi (by omega)|exact⟨rfl,rfl⟩|refine And.intro ?_ ?_)
 ·have hjl:j=c.parts.length:=by simp only [List.length_map]at h1;omega
  subst hjl
  rw [List.take_length]
  ((conv=>whnf);repeat' ((first|(intro hq;(try simp only [lnS]at hq);(try rewrite [List.length_map]))|refine sJ ?_|refine .intro _ (.intro rfl ?_)|refine exL (k:= ?_)|refine dwR ?_|((first|refine aB ?_ ?_|refine aC ?_ ?_)<;>intro hb<;>(first|exact ddX hb|try simp only [lnS]at hb))|(refine aA ?_ ?_<;>intro hb<;>try exact dsX hb))<;>(conv=>whnf)))
  rfl
theorem jA (c:Cn) (hs:bH c<=1000000):Tri Tryz.prog 119 [.d (.agg (cnR c))] [] (λr=>r= .d (.int .i64 (cA c))):=by
 have h1:=aEq c hs
 have h2:=kG c hs
 have h3:=aHd c
 have hc:=aF7 c
 rw [hc]
 rw [bA]at h1 h2 h3 |-
 clear hc
 have hd:=tY c
 generalize dL (eJ c)=e at *
 generalize eT c=d at *
 generalize bH c=z at *
 refine aE false [1] hty Tryz.func119 rfl (kp [0,1,2,10]) [] _ _ _ (by simp [Tryz.f119]) (by simp) ?_
 ((conv=>whnf);repeat' ((first|(intro hq;(try simp only [lnS]at hq);(try rewrite [List.length_map]))|refine sJ ?_|refine .intro _ (.intro rfl ?_)|refine exL (k:= ?_)|(refine aD [] h1 trivial (λr hs=> ?_);subst hs)|(refine aD [] h2 trivial (λr hs=> ?_);subst hs)|(refine aD [] h3 trivial (λr hs=> ?_);subst hs)|refine dwR ?_|((first|refine aB ?_ ?_|refine aC ?_ ?_)<;>intro hb<;>(first|exact ddX hb|try simp only [lnS]at hb))|(refine aA ?_ ?_<;>intro hb<;>try exact dsX hb))<;>(conv=>whnf)))
 all_goals (first|(rw [if_neg (by omega)];rfl)|(rw [if_pos (by omega)];rfl))
end Go.Proofs.YtleihcnongldbaaGreatDoor
namespace Go.Proofs.YtleihcnongldbaaGreatDoor
open Go.Proofs
def aGp {α:Type}(c:α->α->Int) (a b d:α):Prop:=
 (c a b < 0->c b d < 0->c a d < 0)/\(c a b=0->c a d=c b d)/\(c b d=0->c a b=c a d)
structure LCk {α:Type} (c:α->α->Int):Prop where
 rng: ∀a b,c a b= -1\/c a b=0\/c a b=1
 anti: ∀a b,c b a= - c a b
 t3: ∀a b d,aGp c a b d
def lex (x y:Int):Int:=if x≠0 then x else y
theorem LCk.lex {α:Type}{c1 c2:α->α->Int}(h1:LCk c1) (h2:LCk c2):LCk (λa b=>lex (c1 a b) (c2 a b)):=by
 refine⟨λa b=> ?_,λa b=> ?_,λa b d=> ?_⟩
 ·have:=h1.rng a b
  have:=h2.rng a b
  unfold Proofs.YtleihcnongldbaaGreatDoor.lex
  split<;>omega
 ·have:=h1.anti a b
  have:=h2.anti a b
  unfold Proofs.YtleihcnongldbaaGreatDoor.lex
  split<;>split<;>omega
 ·have a1:=h1.t3 a b d
  have a2:=h1.t3 b d a
  have a3:=h1.t3 d a b
  have b1:=h2.t3 a b d
  have r1:=h1.rng a b
  have r2:=h1.rng b d
  have r3:=h1.rng a d
  have n1:=h1.anti a b
  have n2:=h1.anti b d
  have n3:=h1.anti a d
  unfold aGp at *
  unfold Proofs.YtleihcnongldbaaGreatDoor.lex
  dsimp only
  refine⟨?_, ?_, ?_⟩<;>(split<;>split<;>split<;>omega)
theorem LCk.of {α β:Type}{c:β->β->Int}(h:LCk c) (k:α->β):LCk (λa b=>c (k a) (k b)):=
 ⟨λa b=>h.rng _ _,λa b=>h.anti _ _,λa b d=>h.t3 _ _ _⟩
theorem LCk.int:LCk mY:=by
 refine⟨λa b=> ?_,λa b=> ?_,λa b d=> ?_⟩
 ·unfold mY;split<;>(try split)<;>simp
 ·unfold mY;split<;>split<;>(try split)<;>omega
 ·unfold aGp mY
  refine⟨?_, ?_, ?_⟩<;>(split<;>(try split)<;>split<;>(try split)<;>(try split)<;>(try split)<;>omega)
theorem tE {a b:Int}:mY a b=0↔a=b:=by
 unfold mY;split<;>(try split)<;>omega
theorem LCk.str:LCk gK:=by
 refine⟨uB,aDt,λa b d=>⟨aAs a b d,λh=> ?_,λh=> ?_⟩⟩
 ·rw [(eU a b).1 h]
 ·rw [(eU b d).1 h]
theorem jB (x:Int) (l:List Int):orF (x::l)=lex x (orF l):=rfl
theorem LCk.zero {α:Type}:LCk (λ_ _:α=>(0:Int)):=⟨λ_ _=>by simp,λ_ _=>by simp,λ_ _ _=>by simp [aGp]⟩
theorem aNq:LCk aF2:=by
 have h:=(LCk.int.of (λc:Cn=>(bH c:Int))).lex ((LCk.int.of Cn.kind).lex ((LCk.str.of Cn.name).lex ((LCk.int.of Cn.lo).lex ((LCk.int.of Cn.hi).lex LCk.zero))))
 exact h
theorem eE {x y:Int}:lex x y=0↔x=0/\y=0:=by unfold lex;split<;>omega
theorem aHy {a b:Cn}(h:aF2 a b=0):a.kind=b.kind/\a.name=b.name/\a.lo=b.lo/\a.hi=b.hi:=by
 unfold aF2 at h
 simp only [jB,eE,tE,eU]at h
 exact⟨h.2.1,h.2.2.1,h.2.2.2.1,h.2.2.2.2.1⟩
theorem aC6 (a b:Cn):yR a b=lex (aF2 a b) (uA a.parts b.parts):=by rw [aL8];rfl
mutual
theorem aDs: ∀(a b:Cn),yR b a= - yR a b
 | .mk k n lo hi ps,b=>by
  have h1:=aNq.anti (.mk k n lo hi ps) b
  have h2:=aDq ps b.parts
  rw [aC6,aC6,h1]
  show lex _ (uA b.parts ps)= - lex _ (uA ps b.parts)
  rw [h2]
  unfold lex;split<;>split<;>omega
theorem aDq: ∀(l m:List Cn),uA m l= - uA l m
 | [],[]=>by simp [uA]
 | [],_::_=>by simp [uA]
 |_::_,[]=>by simp [uA]
 |a::l,b::m=>by
  have h1:=aDs a b
  have h2:=aDq l m
  rw [uA,uA,h1,h2];split<;>split<;>omega
end
mutual
theorem aGe: ∀(a b:Cn),yR a b=0->a=b
 | .mk k n lo hi ps, .mk k' n' lo' hi' ps',h=>by
  rw [aC6,eE]at h
  obtain⟨h1,h2⟩:=h
  obtain⟨e1,e2,e3,e4⟩:=aHy h1
  have e5:=aGd ps ps' h2
  simp only [Cn.kind,Cn.name,Cn.lo,Cn.hi]at e1 e2 e3 e4
  rw [e1,e2,e3,e4,e5]
theorem aGd: ∀(l m:List Cn),uA l m=0->l=m
 | [],[],_=>rfl
 | [],_::_,h=>by simp [uA]at h
 |_::_,[],h=>by simp [uA]at h
 |a::l,b::m,h=>by
  rw [uA]at h
  have h:lex (yR a b) (uA l m)=0:=h
  rw [eE]at h
  rw [aGe a b h.1,aGd l m h.2]
end
theorem aL7 (a:Cn):yR a a=0:=by have:=aDs a a;omega
theorem aDr {a b:Cn}:yR a b=0↔a=b:=⟨aGe a b,λh=>h ▸ aL7 a⟩
def aE3 {α:Type}(eq:α->α->Bool):α->List α->List α
 |_,[]=>[]
 |p,b::r=>if eq b p then aE3 eq b r else b::aE3 eq b r
def zH {α:Type}(eq:α->α->Bool):List α->List α
 | []=>[]
 |a::r=>a::aE3 eq a r
end Go.Proofs.YtleihcnongldbaaGreatDoor
namespace Go.Proofs.YtleihcnongldbaaGreatDoor
open Go.Proofs
def c0:Cn:= .mk 0 [] 0 0 []
def aEc (l:List Cn):Nat:=(bD l).length
theorem aMg:aEc []=0:=rfl
theorem wV (c:Cn) (l:List Cn):aEc (c::l)=bH c+aEc l:=by simp [aEc,bD,bH]
theorem kA (c:Cn):bH c=aEc c.parts+1:=vR c
theorem aMh {c:Cn}{l:List Cn}(h:c∈l):bH c<=aEc l:=aA6 h
end Go.Proofs.YtleihcnongldbaaGreatDoor
namespace Go.Proofs.YtleihcnongldbaaGreatDoor
open Go.RowKit
section
variable {P:Program} {κ:Type} [DecidableEq κ]
structure KeyT (P:Program) (kt:TypeId) (kD:κ->D) (kV:κ->Value):Prop where
 rep: ∀{w:World} {S:Nat->Nat->Prop} {k:κ} {v:Value},RepD w S (kD k) v->v=kV k
 chk: ∀(b:Bool) (k:κ) (w:World),(Instr.checkKey b 10000 kt (kV k)).run P w= .ok () w
 find: ∀(k:κ) (ks:List κ) (es:List MapEntry) (w:World),es.map (·.key)=ks.map kV->(Instr.findKey kt (kV k) es).run P w= .ok ((ks.findIdx? (λx=>decide (k=x))).bind λi=>(es[i]?).map λe=>(i,e.val)) w
 bits: ∀(k:κ),Instr.sameBits 10000 (kV k) (kV k)=true
theorem findIdx?_cons' {α:Type}(p:α->Bool) (x:α) (l:List α):(x::l).findIdx? p=if p x then some 0 else (l.findIdx? p).map (· +1):=by
 simp [List.findIdx?_cons]
theorem uT {kt:TypeDesc}{kV:κ->Value}(h: ∀k k',Instr.sameNow kt (kV k) (kV k')=some (decide (k=k'))) (k:κ): ∀(ks:List κ) (es:List MapEntry) (i:Nat),es.map (·.key)=ks.map kV->
  Instr.findNow kt (kV k) es i=some ((ks.findIdx? (λx=>decide (k=x))).bind λj=>(es[j]?).map λe=>(i+j,e.val))
 | [],[],_,_=>rfl
 | [],_::_,_,e=>by simp at e
 |_::_,[],_,e=>by simp at e
 |x::ks,e::es,i,he=>by
  simp only [List.map_cons,List.cons.injEq]at he
  rw [Instr.findNow,he.1,h k x,findIdx?_cons']
  by_cases hx:k=x
  ·simp [hx]
  ·simp only [hx,decide_false,Bool.false_eq_true,if_false]
   rw [uT h k ks es (i+1) he.2]
   cases ks.findIdx? (λx=>decide (k=x))with
   |none=>rfl
   |some j=>simp [Nat.add_assoc,Nat.add_comm 1 j]
theorem KeyT.now {kt:TypeId}{dk:TypeDesc}{kD:κ->D}{kV:κ->Value}(hu:P.underlying kt=some dk) (hrep: ∀{w:World}{S:Nat->Nat->Prop}{k:κ}{v:Value},RepD w S (kD k) v->v=kV k)
  (hs: ∀k k',Instr.sameNow dk (kV k) (kV k')=some (decide (k=k'))) (hc: ∀(b:Bool) (k:κ) (w:World),(Instr.checkKey b 10000 kt (kV k)).run P w= .ok () w) (hb: ∀k,Instr.sameBits 10000 (kV k) (kV k)=true):KeyT P kt kD kV:=
 ⟨hrep, hc, λk ks es w he => by
  rw [Instr.findKey]
  simp only [Sem.run_bind,run_underlying hu,Result.andThen_ok]
  rw [uT hs k ks es 0 he]
  simp,hb⟩
def aTq (l:List UInt8):Value:= .string ⟨l.toArray⟩
theorem aG1 {kt:TypeId}(hu:P.underlying kt=some .string):KeyT P kt (λl=>D.str l) aTq:=
 .now hu (λh => by cases h; rfl) (λk k' => by
  simp only [Instr.sameNow,aTq,beq_toListBytes,jX,uC]) (λb k w=>by
  rw [Instr.checkKey]
  simp only [Sem.run_bind,run_underlying hu,Result.andThen_ok,aTq]
  rfl) (λk=>by simp [Instr.sameBits,aTq,beq_toListBytes,jX])
def aTu {β:Type}:List (κ×β)->κ->Option β
 | [],_=>none
 |(k',s)::r,k=>if k=k' then some s else aTu r k
def aQq {β:Type}:List (κ×β)->κ->β->List (κ×β)
 | [],k,s=>[(k,s)]
 |(k',s')::r,k,s=>if k=k' then (k',s)::r else (k',s')::aQq r k s
def aTw {β:Type}:List (κ×β)->κ->List (κ×β)
 | [],_=>[]
 |(k',s')::r,k=>if k=k' then r else (k',s')::aTw r k
def aBu {β:Type}(l:List (κ×β)) (k:κ):Option Nat:=(l.map (λp=>p.1)).findIdx? (λx=>decide (k=x))
def sH (es:List MapEntry) (i:Option Nat):Option (Nat×Value):=i.bind λi=>(es[i]?).map λ(e:MapEntry)=>(i,e.val)
theorem aFx {β:Type}(k:κ): ∀(l:List (κ×β)),aTu l k=(aBu l k).bind λi=>(l[i]?).map (·.2)
 | []=>rfl
 |(k',s)::r=>by
  rw [aTu,aBu,List.map_cons,findIdx?_cons']
  by_cases h:k=k'
  ·simp [h]
  ·simp only [h,if_false,decide_false,Bool.false_eq_true]
   rw [aFx k r,aBu]
   cases (r.map (λp=>p.1)).findIdx? (λx=>decide (k=x))<;>simp
theorem aFw {β:Type}(k:κ) (s:β): ∀(l:List (κ×β)),aQq l k s=match aBu l k with
  |some i=>l.modify i (λp=>(p.1,s))
  |none=>l++[(k,s)]
 | []=>rfl
 |(k',s')::r=>by
  rw [aQq,aBu,List.map_cons,findIdx?_cons']
  by_cases h:k=k'
  ·simp [h,List.modify_zero_cons]
  ·simp only [h,if_false,decide_false,Bool.false_eq_true]
   rw [aFw k s r,aBu]
   cases (r.map (λp=>p.1)).findIdx? (λx=>decide (k=x))with
   |none=>rfl
   |some j=>simp [List.modify_succ_cons]
theorem aFy {β:Type}(k:κ): ∀(l:List (κ×β)),aTw l k=match aBu l k with
  |some i=>l.eraseIdx i
  |none=>l
 | []=>rfl
 |(k',s')::r=>by
  rw [aTw,aBu,List.map_cons,findIdx?_cons']
  by_cases h:k=k'
  ·simp [h]
  ·simp only [h,if_false,decide_false,Bool.false_eq_true]
   rw [aFy k r,aBu]
   cases (r.map (λp=>p.1)).findIdx? (λx=>decide (k=x))with
   |none=>rfl
   |some j=>simp
def aW5 (ents:List (κ×SV)):List Nat:=ents.flatMap λp=>p.2.ids
structure MapAt (w:World) (ρ:Env) (kD:κ->D) (ents:List (κ×SV)) (bs:List Nat) (clock:Nat) (es:List MapEntry):Prop where
 len:es.length=ents.length
 ent: ∀(i:Nat) (e:MapEntry) (p:κ×SV),es[i]? =some e->ents[i]? =some p->RepD w ρ.S (kD p.1) e.key/\Rep w ρ p.2 e.val
 born:es.map (·.born)=bs
 lt: ∀b∈bs,b < clock
 nd:bs.Nodup
def aRk (kD:κ->D) (ents:List (κ×SV)) (bs:List Nat) (clock:Nat):ExtO where
 ids:=aW5 ents
 sat:= λw ρ o=> ∃es:Array MapEntry,o= .map es clock/\MapAt w ρ kD ents bs clock es.toList
 keep:=by
  rintro w w' ρ ρ' o hk hs hm ⟨es,rfl,h⟩
  refine⟨es,rfl,h.len,λi e p he hp=> ?_,h.born,h.lt,h.nd⟩
  obtain⟨h1,h2⟩:=h.ent i e p he hp
  exact⟨h1.mono hk hs,h2.mono hk hs λid hid=>hm id (List.mem_flatMap.2 ⟨p,List.mem_of_getElem? hp,hid⟩)⟩
 nd:=by
  rintro w ρ x ⟨es,h,_⟩
  cases h
theorem tR {w:World}{r:Nat}{es:Array MapEntry}{clock:Nat}(hb:w.heap[r]? =some (.map es clock)):(getObj r).run P w= .ok (.map es clock) w:=by
 simp [getObj,Sem.run,hb]
theorem aH9 {w:World}{r:Nat}{es:Array MapEntry}{clock:Nat}(o:Obj) (hb:w.heap[r]? =some (.map es clock)):(setObj r o).run P w= .ok () { w with heap:=w.heap.setIfInBounds r o }:=by
 simp [setObj,Sem.run,hb]
def aQr:Nat->Value:= λg=> .map (some g)
theorem MapAt.keys {w:World}{ρ:Env}{kt:TypeId}{kD:κ->D}{kV:κ->Value}{ents:List (κ×SV)}{bs:List Nat}{clock:Nat}{es:List MapEntry}(h:MapAt w ρ kD ents bs clock es) (hK:KeyT P kt kD kV):es.map (·.key)=(ents.map (·.1)).map kV:=by
 apply List.ext_getElem?
 intro i
 simp only [List.getElem?_map]
 rcases Nat.lt_or_ge i es.length with hi|hi
 ·have hi':i < ents.length:=h.len ▸ hi
  rw [List.getElem?_eq_getElem hi,List.getElem?_eq_getElem hi']
  simp only [Option.map_some,Option.some.injEq]
  exact hK.rep (h.ent i _ _ (List.getElem?_eq_getElem hi) (List.getElem?_eq_getElem hi')).1
 ·rw [List.getElem?_eq_none hi,List.getElem?_eq_none (by rw [<-h.len];exact hi)];rfl
theorem MapAt.found {w:World}{ρ:Env}{kt:TypeId}{kD:κ->D}{kV:κ->Value}{ents:List (κ×SV)}{bs:List Nat}{clock:Nat}{es:List MapEntry}(h:MapAt w ρ kD ents bs clock es) (hK:KeyT P kt kD kV) (k:κ) (w':World):
  (Instr.findKey kt (kV k) es).run P w'= .ok (sH es (aBu ents k)) w':=hK.find k _ es w' (h.keys hK)
theorem aKl {l:List κ}{p:κ->Bool}{i:Nat}(h:l.findIdx? p=some i):i < l.length:=by
 rw [List.findIdx?_eq_some_iff_getElem]at h
 exact h.1
def aSs (P:Program) (t:TypeId):Option (TypeId×TypeId):=match P.underlying t with|some (.map k e)=>some (k,e)|_=>none
theorem aEw {t k e:TypeId}(h:aSs P t=some (k,e)):P.underlying t=some (.map k e):=by
 unfold aSs at h
 split at h
 ·injection h with h;injection h with h1 h2;subst h1;subst h2;assumption
 ·cases h
theorem aFz {o:Oper}{t k e:TypeId}(ho:o.op= .makeMap t none) (_ht:aSs P t=some (k,e)) (kD:κ->D) {pin:Pin}{fr:Fr}{hp:Hp}{K:SV->Hp->Prop}(id:Nat) (hfr:jT id pin fr hp)
  (hk:K (.xv id aQr) ((id, .ext (aRk kD [] [] 0))::hp)):bE P o pin fr hp K:=by
 intro E ρ a w hpin hm hf next Q hn
 obtain⟨f1,f2,f3⟩:=hfr
 have hrun:(execOp a.eval o).run P w= .ok (.value (.map (some w.heap.size))) (w.alloc (.map #[] 0)):=by
  simp [execOp,ho,Instr.makeMap]
 have hg:Grew w (w.alloc (.map #[] 0)):=Grew.alloc w _
 obtain⟨s1,s2,s3⟩:=hm.newObj (id:=id) (b:=some w.heap.size) (n:=0) (v:=undef) (o:= .ext (aRk kD [] [] 0)) f3 (by rw [hpin];exact f1) hg (λh=>h)
  ⟨w.heap.size, _, by simp [Env.upd3], by simp only [World.alloc]; simp, ⟨#[], rfl, ⟨rfl, by simp, rfl, by simp, .nil⟩⟩, by
   intro i hi
   have:=hm.slt _ _ (show ρ.S w.heap.size i from hi)
   omega⟩
  (λg hg' => by
   simp only [Env.at,Env.upd3,if_true,Option.some.injEq]at hg'
   subst hg';exact hm.free_new (Nat.le_refl _))
 exact cQ hrun (hn _ _ _ _ _ hk s1 (hf.mono s2 (λ_ _ x=>x) λi hi=>s3 i λe=>f2 (e ▸ hi)) (.xv id aQr _ (by simp [Env.upd3]) rfl))
def aIf (P:Program) (e:TypeId):Option Value:=(P.info? e).bind (·.zero)
theorem aH8 {e:TypeId}{z:Value}(h:aIf P e=some z) (w:World):(zeroValue e).run P w= .ok z w:=by
 unfold aIf at h
 cases hi:P.info? e with
 |none=>rw [hi]at h;cases h
 |some i=>
  rw [hi]at h
  have h:i.zero=some z:=h
  simp [zeroValue,typeInfo,hi,h]
def aEx (ok:Bool) (r:Option SV) (z:SV):SV:=match ok with
 |true=> .tup [match r with|some s=>s|none=>z, .d (.bool (match r with|some _=>true|none=>false))]
 |false=>match r with|some s=>s|none=>z
theorem aHm {o:Oper}{t kt e:TypeId}{x y:Operand}{ok:Bool}(ho:o.op= .lookup t x y ok) (ht:aSs P t=some (kt,e)) {kD:κ->D}{kV:κ->Value}(hK:KeyT P kt kD kV) {z:Value}(hz:aIf P e=some z)
  {fr:Fr} {hp:Hp} {K:SV->Prop} {id:Nat} {ents:List (κ×SV)} {bs:List Nat} {clock:Nat} (hx:evO fr x=some (.xv id aQr)) (hg:aT hp id=some (.ext (aRk kD ents bs clock)))
  {k:κ} (hy:evO fr y=some (.d (kD k))) (hk:K (aEx ok (aTu ents k) (ofV z))):cP P o fr hp K:=by
 intro E ρ a w hm hf
 obtain⟨g,b1,e1,_⟩:=(bB hf hx).xv_inv
 have e2:a.eval y=kV k:=by
  cases bB hf hy with
  |d _ _ h=>exact hK.rep h
 obtain⟨g',ob,c1,c2,⟨es,rfl,hM⟩,c4⟩:=hm.sat id _ hg
 have:g'=g:=by
  have c1':ρ.blk id=some g':=c1
  rw [b1]at c1';injection c1' with c1';exact c1'.symm
 subst this
 have hfind:=hM.found hK k
 rw [aFx]at hk
 have hbm: ∀w',Kept ρ hp w w'->w'.heap[g']? =some (.map es clock):= λw' hw'=>(hw'.o id _ g' hg b1).trans c2
 cases hi:aBu ents k with
 |none=>
  refine⟨if ok then .tuple #[z, .bool false]else z,aEx ok none (ofV z),λw' hw'=> ?_, ?_,by rw [hi]at hk;exact hk⟩
  ·simp only [execOp,ho,Instr.lookup,Sem.run_bind,run_underlying (aEw ht),Result.andThen_ok,e1,e2,aQr,tR (hbm w' hw'),hK.chk,Sem.run_pure,hfind,hi,sH,Option.bind_none,aH8 hz]
  ·cases ok
   ·exact aEl w ρ z
   ·refine .tup _ _ rfl ?_
    intro j s v hs hv
    match j,hs,hv with
    | 0,hs,hv=>simp at hs hv;subst hs;subst hv;exact aEl w ρ z
    | 1,hs,hv=>simp at hs hv;subst hs;subst hv;exact .d _ _ (.bool _)
    |j+2,hs,_=>simp at hs
 |some i=>
  have hil:i < ents.length:=by have:=aKl hi;simpa [aBu]using this
  have hil':i < es.toList.length:=by rw [hM.len];exact hil
  have he:=List.getElem?_eq_getElem hil'
  have hp2:=List.getElem?_eq_getElem hil
  obtain⟨r1,r2⟩:=hM.ent i _ _ he hp2
  have hk':K (aEx ok (some ents[i].2) (ofV z)):=by rw [hi]at hk;simpa [hp2]using hk
  refine⟨if ok then .tuple #[es.toList[i].val, .bool true]else es.toList[i].val,_,λw' hw'=> ?_, ?_,hk'⟩
  ·simp only [execOp,ho,Instr.lookup,Sem.run_bind,run_underlying (aEw ht),Result.andThen_ok,e1,e2,aQr,tR (hbm w' hw'),hK.chk,Sem.run_pure,hfind,hi,sH,Option.bind_some,he,Option.map_some]
  ·cases ok
   ·exact r2
   ·refine .tup _ _ rfl ?_
    intro j s v hs hv
    match j,hs,hv with
    | 0,hs,hv=>simp at hs hv;subst hs;subst hv;exact r2
    | 1,hs,hv=>simp at hs hv;subst hs;subst hv;exact .d _ _ (.bool _)
    |j+2,hs,_=>simp at hs
theorem aNo {w:World}{S:Nat->Nat->Prop}{g:Nat}{o:Obj}(h: ∀i,¬ S g i):cJ S w { w with heap:=w.heap.setIfInBounds g o }:=by
 intro b i hb
 have:b≠g:= λe=>h i (e ▸ hb)
 have:({ w with heap:=w.heap.setIfInBounds g o }:World).heap[b]? =w.heap[b]? :=Array.getElem?_setIfInBounds_ne (Ne.symm this)
 simp only [World.cell?,this]
theorem aH7 {w:World}{g:Nat}{o o':Obj}(h:w.heap[g]? =some o):({ w with heap:=w.heap.setIfInBounds g o' }:World).heap[g]? =some o':=by
 have:=bG h
 simp [Array.getElem?_setIfInBounds,this]
theorem aMm {w:World}{g b:Nat}{o':Obj}(h:b≠g):({ w with heap:=w.heap.setIfInBounds g o' }:World).heap[b]? =w.heap[b]? :=Array.getElem?_setIfInBounds_ne (Ne.symm h)
theorem MapAt.set {w w':World}{ρ:Env}{kt:TypeId}{kD:κ->D}{kV:κ->Value}{ents:List (κ×SV)}{bs:List Nat}{clock:Nat}{es:Array MapEntry}(h:MapAt w ρ kD ents bs clock es.toList) (hK:KeyT P kt kD kV) {k:κ}{s:SV}{v:Value}(hr1:RepD w ρ.S (kD k) (kV k)) (hr2:Rep w ρ s v) (hk:cJ ρ.S w w'):
  ∃(es':Array MapEntry) (bs':List Nat) (clock':Nat),MapAt w' ρ kD (aQq ents k s) bs' clock' es'.toList/\
   ∀ (r : Nat) (w2 : World), (match sH es.toList (aBu ents k) with
   |some (i,_)=>do
    let key <-Instr.keyThatStays (((es[i]?).map λ(e:MapEntry)=>e.key).getD (kV k)) (kV k)
    setObj r (.map (es.modify i λe=>{ e with key,val:=v }) clock)
   |none=>setObj r (.map (es.push { key:=kV k,val:=v,born:=clock }) (clock+1))).run P w2=(setObj r (.map es' clock')).run P w2:=by
 have hkk:=h.keys hK
 have mono: ∀(i:Nat) (e:MapEntry) (p:κ×SV),es.toList[i]? =some e->ents[i]? =some p->RepD w' ρ.S (kD p.1) e.key/\Rep w' ρ p.2 e.val:= λi e p h1 h2=>
  ⟨(h.ent i e p h1 h2).1.mono hk λ_ _ x=>x,(h.ent i e p h1 h2).2.mono hk (λ_ _ x=>x) λid _=>ρ.moved_refl id⟩
 have nr1:RepD w' ρ.S (kD k) (kV k):=hr1.mono hk λ_ _ x=>x
 have nr2:Rep w' ρ s v:=hr2.mono hk (λ_ _ x=>x) λid _=>ρ.moved_refl id
 rw [aFw]
 cases hi:aBu ents k with
 |none=>
  refine⟨es.push { key:=kV k,val:=v,born:=clock },bs++[clock],clock+1,⟨?_, ?_, ?_, ?_, ?_⟩,λr w2=>rfl⟩
  ·simp [h.len]
  ·intro i e p he hp
   simp only [Array.toList_push]at he
   rcases Nat.lt_or_ge i ents.length with hl|hl
   ·rw [List.getElem?_append_left (by rw [h.len];exact hl)]at he
    rw [List.getElem?_append_left hl]at hp
    exact mono i e p he hp
   ·have:i=ents.length:=by
     have:=(List.getElem?_eq_some_iff.1 hp).1
     simp at this;omega
    subst this
    rw [List.getElem?_append_right (Nat.le_refl _)]at hp
    rw [<-h.len,List.getElem?_append_right (Nat.le_refl _)]at he
    simp at hp he
    subst hp;subst he
    exact⟨nr1,nr2⟩
  ·simp [h.born]
  ·intro b hb
   rcases List.mem_append.1 hb with hb|hb
   ·have:=h.lt b hb;omega
   ·simp at hb;omega
  ·rw [List.nodup_append]
   exact⟨h.nd,by simp,λa ha b hb=>by simp at hb;have:=h.lt a ha;omega⟩
 |some i=>
  have hil:i < ents.length:=by have:=aKl hi;simpa [aBu]using this
  have hil':i < es.toList.length:=by rw [h.len];exact hil
  have hil2:i < es.size:=by simpa using hil'
  have hke:ents[i].1=k:=by
   rw [aBu,List.findIdx?_eq_some_iff_getElem]at hi
   obtain⟨_,h2,_⟩:=hi
   have:=of_decide_eq_true h2
   rw [List.getElem_map]at this
   exact this.symm
  have hkey:es[i].key=kV k:=by
   have h1:(es.toList.map (·.key))[i]? =((ents.map (·.1)).map kV)[i]? :=by rw [hkk]
   simp only [List.getElem?_map,List.getElem?_eq_getElem hil',List.getElem?_eq_getElem hil,Option.map_some,Option.some.injEq]at h1
   rw [<-hke,<-h1];simp
  refine⟨es.modify i λe=>{ e with key:=kV k,val:=v },bs,clock,⟨?_, ?_, ?_,h.lt,h.nd⟩,λr w2=> ?_⟩
  ·simp [h.len]
  ·intro j e p he hp
   simp only [Array.toList_modify,List.getElem?_modify]at he
   rw [List.getElem?_modify]at hp
   by_cases hj:i=j
   ·subst hj
    rw [List.getElem?_eq_getElem hil']at he
    rw [List.getElem?_eq_getElem hil]at hp
    simp only [Option.map_eq_map,Option.map_some,Option.some.injEq,if_true]at he hp
    subst he;subst hp
    dsimp only
    rw [hke]
    exact⟨nr1,nr2⟩
   ·simp only [hj,if_false,Option.map_eq_map,Option.map_id_fun',id]at he hp
    exact mono j e p he hp
  ·rw [<-h.born]
   apply List.ext_getElem?
   intro j
   simp only [Array.toList_modify,List.getElem?_map,List.getElem?_modify]
   by_cases hj:i=j
   ·subst hj;simp only [if_true,Option.map_map];cases es.toList[i]?<;>rfl
   ·simp [hj]
  ·have:es[i]? =some es[i]:=Array.getElem?_eq_getElem hil2
   have hmf:sH es.toList (some i)=some (i,es.toList[i].val):=by rw [sH,Option.bind_some,List.getElem?_eq_getElem hil',Option.map_some]
   rw [hmf]
   simp only [Option.bind_some,List.getElem?_eq_getElem hil',Option.map_some,this,Option.getD_some,hkey,Instr.keyThatStays,hK.bits,if_true,Sem.run_bind,Sem.run_pure,Result.andThen_ok]
theorem aH3 {o:Oper}{t kt e:TypeId}{x y u:Operand}(ho:o.op= .mapUpdate t x y u\/o.op= .insert t x y u) (ht:aSs P t=some (kt,e)) {kD:κ->D}{kV:κ->Value}(hK:KeyT P kt kD kV)
  {pin:Pin} {fr:Fr} {hp:Hp} {K:SV->Hp->Prop} {id:Nat} {ents:List (κ×SV)} {bs:List Nat} {clock:Nat} (hx:evO fr x=some (.xv id aQr)) (hg:aT hp id=some (.ext (aRk kD ents bs clock)))
  {k:κ} (hy:evO fr y=some (.d (kD k))) {s:SV} (hu:evO fr u=some s) (hk: ∀bs' clock',K (.d (.lit undef)) (gQ hp id (.ext (aRk kD (aQq ents k s) bs' clock')))):bE P o pin fr hp K:=by
 intro E ρ a w hpin hm hf next Q hn
 obtain⟨g,b1,e1,_⟩:=(bB hf hx).xv_inv
 have e2:RepD w ρ.S (kD k) (a.eval y):=by
  cases bB hf hy with
  |d _ _ h=>exact h
 have e2':=hK.rep e2
 have e3:=bB hf hu
 obtain⟨g',ob,c1,c2,⟨es,rfl,hM⟩,c4⟩:=hm.sat id _ hg
 have:g'=g:=by
  have c1':ρ.blk id=some g':=c1
  rw [b1]at c1';injection c1' with c1';exact c1'.symm
 subst this
 have hkeeps: ∀o',cJ ρ.S w { w with heap:=w.heap.setIfInBounds g' o' }:= λo'=>aNo c4
 obtain⟨es',bs',clock',hM',hrun'⟩:=hM.set hK (k:=k) (s:=s) (v:=a.eval u) (by rw [<-e2'];exact e2) e3 (hkeeps (.map #[] 0))
 have hM2:MapAt { w with heap:=w.heap.setIfInBounds g' (.map es' clock') } ρ kD (aQq ents k s) bs' clock' es'.toList:=by
  refine⟨hM'.len,λi e p he hp=> ?_,hM'.born,hM'.lt,hM'.nd⟩
  obtain⟨h1,h2⟩:=hM'.ent i e p he hp
  have hkk:cJ ρ.S { w with heap:=w.heap.setIfInBounds g' (.map #[] 0) } { w with heap:=w.heap.setIfInBounds g' (.map es' clock') }:= λb i hb=>(hkeeps _ b i hb).trans (hkeeps _ b i hb).symm
  exact⟨h1.mono hkk λ_ _ x=>x,h2.mono hkk (λ_ _ x=>x) λid _=>ρ.moved_refl id⟩
 have hrun:(execOp a.eval o).run P w= .ok .skip { w with heap:=w.heap.setIfInBounds g' (.map es' clock') }:=by
  have h1:=hrun' g' w
  have h2:(setObj g' (.map es' clock')).run P w= .ok () { w with heap:=w.heap.setIfInBounds g' (.map es' clock') }:=aH9 _ c2
  rw [h2]at h1
  rcases ho with ho|ho<;>
  ·simp only [execOp,ho,Instr.mapUpdate,Sem.run_bind,run_underlying (aEw ht),Result.andThen_ok,e1,e2',aQr,tR c2,hK.chk,hM.found hK,Sem.run_pure]
   exact congrArg (λr:Result Unit=>r.andThen λ_ w'=>Result.ok Next.skip w') h1
 obtain⟨s1,s2⟩:=hm.setExt (X':=aRk kD (aQq ents k s) bs' clock') (w':={ w with heap:=w.heap.setIfInBounds g' (.map es' clock') }) hg b1 rfl rfl (.refl _) (by simp) (λb _ hb=>aMm hb) (aH7 c2) ⟨es',rfl,hM2⟩
 exact aAu hrun (hn _ _ ρ _ _ (hk bs' clock') s1 (hf.mono s2 (λ_ _ x=>x) λi _=>ρ.moved_refl i) (.d _ _ (.lit _)))
theorem MapAt.del {w w':World}{ρ:Env}{kt:TypeId}{kD:κ->D}{kV:κ->Value}{ents:List (κ×SV)}{bs:List Nat}{clock:Nat}{es:Array MapEntry}(h:MapAt w ρ kD ents bs clock es.toList) (_hK:KeyT P kt kD kV) {k:κ}(hk:cJ ρ.S w w'):
  ∃(es':Array MapEntry) (bs':List Nat),MapAt w' ρ kD (aTw ents k) bs' clock es'.toList/\
   ∀ (r : Nat) (w2 : World), (match sH es.toList (aBu ents k) with
   |some (i,_)=>setObj r (.map (es.eraseIdxIfInBounds i) clock)
   |none=>setObj r (.map es clock)).run P w2=(setObj r (.map es' clock)).run P w2:=by
 have mono: ∀(i:Nat) (e:MapEntry) (p:κ×SV),es.toList[i]? =some e->ents[i]? =some p->RepD w' ρ.S (kD p.1) e.key/\Rep w' ρ p.2 e.val:= λi e p h1 h2=>
  ⟨(h.ent i e p h1 h2).1.mono hk λ_ _ x=>x,(h.ent i e p h1 h2).2.mono hk (λ_ _ x=>x) λid _=>ρ.moved_refl id⟩
 rw [aFy]
 cases hi:aBu ents k with
 |none=>exact⟨es,bs,⟨h.len,mono,h.born,h.lt,h.nd⟩,λr w2=>rfl⟩
 |some i=>
  have hil:i < ents.length:=by have:=aKl hi;simpa [aBu]using this
  have hil':i < es.toList.length:=by rw [h.len];exact hil
  have hil2:i < es.size:=by simpa using hil'
  have hel:(es.eraseIdxIfInBounds i).toList=es.toList.eraseIdx i:=by
   simp [Array.eraseIdxIfInBounds,hil2]
  refine⟨es.eraseIdxIfInBounds i,bs.eraseIdx i,⟨?_, ?_, ?_, ?_, ?_⟩,λr w2=> ?_⟩
  ·rw [hel];simp [List.length_eraseIdx,h.len,hil]
  ·intro j e p he hp
   rw [hel,List.getElem?_eraseIdx]at he
   rw [List.getElem?_eraseIdx]at hp
   split at he
   ·rename_i hj;rw [if_pos hj]at hp;exact mono j e p he hp
   ·rename_i hj;rw [if_neg hj]at hp;exact mono _ e p he hp
  ·rw [hel,<-h.born]
   apply List.ext_getElem?
   intro j
   simp only [List.getElem?_map,List.getElem?_eraseIdx]
   split<;>rfl
  ·exact λb hb=>h.lt b (List.mem_of_mem_eraseIdx hb)
  ·exact h.nd.sublist (List.eraseIdx_sublist ..)
  ·have hmf:sH es.toList (some i)=some (i,es.toList[i].val):=by rw [sH,Option.bind_some,List.getElem?_eq_getElem hil',Option.map_some]
   rw [hmf]
end
end Go.Proofs.YtleihcnongldbaaGreatDoor
