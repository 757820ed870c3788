/-
  Terms: the reference's CheckAxiom.
  Conditions: none.
-/
import Derived.Test.YtleihcnongldbaaGreatDoorWBu
set_option linter.unnecessarySimpa false
set_option linter.unusedSectionVars false
set_option linter.unusedSimpArgs false
set_option linter.unusedVariables false
set_option maxHeartbeats 16000000
namespace Go.Proofs.YtleihcnongldbaaGreatDoor
open Go.Proofs
set_option maxRecDepth 10000
attribute [local irreducible] aN aJ Tri aI YVC cP bE
theorem aNn {x:Ax}(h:x.kind < 1\/9 < x.kind):cD x=22:=by
 unfold cD bJ
 rw [if_pos h,if_pos rfl]
theorem aLg {x:Ax}(h:1<=x.kind/\x.kind<=9) {u:Use}(hu:gT x.kind=u):cD x=if bU u x=false then 22 else uX u x:=by
 have hs:bJ x=bU u x:=by unfold bJ;rw [if_neg (by omega),hu]
 unfold cD
 rw [hs,hu]
theorem xF (x:Ax) (hk:x.kind < 1\/9 < x.kind):Tri Tryz.prog 73 [.d (.agg (axR x))] [] (λr=>r= .d (.int .i64 (cD x))):=by
 have f:=uM x.kind
 rw [aIz hk]at f
 rw [aNn hk]
 refine aE false [1] hty Tryz.func73 rfl (kp [0,1,2,3,4,5,6,7,8,9,10,11,12,92,99,104,113,129,130,135,137,142,164]) [] _ _ _ (by simp [Tryz.f73]) (by simp) ?_
 ((conv=>whnf);repeat' ((first|(intro hq;(try simp only [lnS]at hq);(try rewrite [List.length_map]))|refine sJ ?_|refine .intro _ (.intro rfl ?_)|refine exL (k:= ?_)|(refine aD [] f trivial (λr hs=> ?_);subst hs)|refine dwR ?_|((first|refine aB ?_ ?_|refine aC ?_ ?_)<;>intro hb<;>(first|exact ddX hb|try simp only [lnS]at hb))|(refine aA ?_ ?_<;>intro hb<;>try exact dsX hb))<;>(conv=>whnf)))
 all_goals first|rfl|(exfalso;omega)
theorem aJ0 {k:Int}(h:1<=k/\k<=9):(gT k=⟨true,true,false,false,false,0,0⟩/\1<=k/\k<=3)\/(gT k=⟨false,true,true,false,false,0,0⟩/\k=4)\/(gT k=⟨false,false,true,false,false,1,1⟩/\k=5)\/(gT k=⟨false,false,true,false,false,2,4⟩/\k=6)\/
  (gT k=⟨false,false,true,false,false,0,0⟩/\k=7)\/(gT k=⟨false,true,false,true,false,0,0⟩/\k=8)\/(gT k=⟨false,false,true,true,true,0,0⟩/\k=9):=by
 have hk:k=1\/k=2\/k=3\/k=4\/k=5\/k=6\/k=7\/k=8\/k=9:=by omega
 rcases hk with rfl|rfl|rfl|rfl|rfl|rfl|rfl|rfl|rfl
 ·exact .inl ⟨rfl,by decide⟩
 ·exact .inl ⟨rfl,by decide⟩
 ·exact .inl ⟨rfl,by decide⟩
 ·exact .inr (.inl ⟨rfl,rfl⟩)
 ·exact .inr (.inr (.inl ⟨rfl,rfl⟩))
 ·exact .inr (.inr (.inr (.inl ⟨rfl,rfl⟩)))
 ·exact .inr (.inr (.inr (.inr (.inl ⟨rfl,rfl⟩))))
 ·exact .inr (.inr (.inr (.inr (.inr (.inl ⟨rfl,rfl⟩)))))
 ·exact .inr (.inr (.inr (.inr (.inr (.inr ⟨rfl,rfl⟩)))))
theorem zD (x:Ax) (hin:1<=x.kind/\x.kind<=9) (h1:bH x.left<=1000000) (h2:bH x.right<=1000000):Tri Tryz.prog 73 [.d (.agg (axR x))] [] (λr=>r= .d (.int .i64 (cD x))):=by
 have f:=uM x.kind
 have hT:=aJ0 hin
 have hE:=aLg hin rfl
 rw [hE]
 clear hE
 generalize gT x.kind=u at *
 have e1:=xE x.left
 have e2:=xE x.right
 have p0:=iD x.role
 have q1:=gI x.a
 have q2:=gI x.b
 have c1:=jA x.left h1
 have c2:=jA x.right h2
 have b1:= λh=>aA0 x.left ((uW _).1 h).2.2
 have b2:= λh=>aA0 x.right ((uW _).1 h).2.2
 rw [bA]at e1 e2 c1 c2
 simp only [bA]at b1 b2
 unfold bU uX sG aR9
 generalize fC x.left=z1 at *
 generalize fC x.right=z2 at *
 generalize cA x.left=E1 at *
 generalize cA x.right=E2 at *
 generalize jV x.left=B1 at *
 generalize jV x.right=B2 at *
 generalize dD x.role=P0 at *
 generalize dM x.a=Q1 at *
 generalize dM x.b=Q2 at *
 rcases hT with⟨rfl,hk⟩|⟨rfl,hk⟩|⟨rfl,hk⟩|⟨rfl,hk⟩|⟨rfl,hk⟩|⟨rfl,hk⟩|⟨rfl,hk⟩
 all_goals (
  refine aE false [1] hty Tryz.func73 rfl (kp [0,1,2,3,4,5,6,7,8,9,10,11,12,92,99,104,113,129,130,135,137,142,164]) [] _ _ _ (by simp [Tryz.f73]) (by simp) ?_
  ((conv=>whnf);repeat' ((first|(intro hq;(try simp only [lnS]at hq);(try rewrite [List.length_map]))|refine sJ ?_|refine .intro _ (.intro rfl ?_)|refine exL (k:= ?_)|(refine aD [] f trivial (λr hs=> ?_);subst hs)|(refine aD [] e1 trivial (λr hs=> ?_);subst hs)|(refine aD [] e2 trivial (λr hs=> ?_);subst hs)|(refine aD [] p0 trivial (λr hs=> ?_);subst hs)|(refine aD [] q1 trivial (λr hs=> ?_);subst hs)|(refine aD [] q2 trivial (λr hs=> ?_);subst hs)|(refine aD [] c1 trivial (λr hs=> ?_);subst hs)|(refine aD [] c2 trivial (λr hs=> ?_);subst hs)|(refine aD [] (b1 (by omega)) trivial (λr hs=> ?_);subst hs)|(refine aD [] (b2 (by omega)) trivial (λr hs=> ?_);subst hs)|refine dwR ?_|((first|refine aB ?_ ?_|refine aC ?_ ?_)<;>intro hb<;>(first|exact ddX hb|try simp only [lnS]at hb))|(refine aA ?_ ?_<;>intro hb<;>try exact dsX hb))<;>(conv=>whnf)))
  all_goals try (refine eI (Eq.symm ?_);clear f e1 e2 p0 q1 q2 c1 c2 b1 b2;simp [*];done)
  all_goals try (refine eI (Eq.symm ?_);clear f e1 e2 p0 q1 q2 c1 c2 b1 b2;simp_all;done)
  all_goals try (refine eI (Eq.symm ?_);clear f e1 e2 p0 q1 q2 c1 c2 b1 b2;simp_all;omega)
  all_goals try (refine eI (Eq.symm ?_);clear f e1 e2 p0 q1 q2 c1 c2 b1 b2;generalize x.roles.length=m at *;simp_all;omega)
  clear f e1 e2 p0
  refine aH hty (λj:Nat=>([(1, .ea 16 [axR x] 0 0),(3, .d (.bool _)),(4, .d (.bool _)),(5, .d (.bool _)),(6, .d (.bool _)),(7, .d (.bool _)),(10, .d (.int .i64 j))],[])) (λj=>j<=x.roles.length/\x.roles.all dD=(x.roles.drop j).all dD) (λj=>x.roles.length - j) 0 ⟨by omega,rfl⟩ ⟨by repeat' (first|exact trivial|exact rfl|exact⟨rfl,rfl⟩|refine And.intro ?_ ?_),trivial⟩ ?_
  rintro j ⟨hj,hn⟩
  ((conv=>whnf);repeat ((first|(intro hq;try simp only [lnS]at hq)|refine sI ?_|refine .intro _ (.intro rfl ?_));(conv=>whnf)))
  refine aB (λh3=> ?_) (λh3=> ?_)
  ·have hjl:j < x.roles.length:=by simp only [List.length_map]at h3;omega
   have hrow:(x.roles.map bL)[(j:Int).toNat]? =some (bL x.roles[j]):=aS hjl
   have hc:=iD x.roles[j]
   rw [List.drop_eq_getElem_cons hjl,List.all_cons]at hn
   generalize x.roles[j]=s at hrow hc hn
   generalize dD s=b at hc hn
   ((conv=>whnf);repeat' ((first|(intro hq;(try simp only [lnS]at hq);(try rewrite [List.length_map]))|refine sJ ?_|refine .intro _ (.intro rfl ?_)|refine exL (k:= ?_)|(refine⟨_,hrow, ?_⟩)|(refine aD [] hc trivial (λr hs=> ?_);subst hs)|refine dwR ?_|((first|refine aB ?_ ?_|refine aC ?_ ?_)<;>intro hb<;>(first|exact ddX hb|try simp only [lnS]at hb))|(refine aA ?_ ?_<;>intro hb<;>try exact dsX hb))<;>(conv=>whnf)))
   ·refine eI (Eq.symm ?_)
    rw [hn]
    simp_all
   ·refine⟨j+1,⟨by omega, ?_⟩,by dsimp only;omega,by repeat' (first|exact trivial|exact rfl|refine And.intro ?_ ?_),trivial⟩
    rw [hn]
    simp_all
  ·have hjl:j=x.roles.length:=by simp only [List.length_map]at h3;omega
   subst hjl
   rw [List.drop_length,List.all_nil]at hn
   rw [hn]
   clear hn
   ((conv=>whnf);repeat' ((first|(intro hq;(try simp only [lnS]at hq);(try rewrite [List.length_map]))|refine sJ ?_|refine .intro _ (.intro rfl ?_)|refine exL (k:= ?_)|(refine aD [] q1 trivial (λr hs=> ?_);subst hs)|(refine aD [] q2 trivial (λr hs=> ?_);subst hs)|(refine aD [] c1 trivial (λr hs=> ?_);subst hs)|(refine aD [] c2 trivial (λr hs=> ?_);subst hs)|(refine aD [] (b1 (by omega)) trivial (λr hs=> ?_);subst hs)|(refine aD [] (b2 (by omega)) trivial (λr hs=> ?_);subst hs)|refine dwR ?_|((first|refine aB ?_ ?_|refine aC ?_ ?_)<;>intro hb<;>(first|exact ddX hb|try simp only [lnS]at hb))|(refine aA ?_ ?_<;>intro hb<;>try exact dsX hb))<;>(conv=>whnf)))
   all_goals clear q1 q2 c1 c2 b1 b2
   all_goals first
    |(refine eI (Eq.symm ?_);simp_all;done)
    |(exfalso;simp_all;done)
    |(refine eI (Eq.symm ?_);rcases(show x.kind=1\/x.kind=2\/x.kind=3 by omega)with h9|h9|h9<;>simp_all;done)
    |(exfalso;omega))
theorem vE (x:Ax) (h1:bH x.left<=1000000) (h2:bH x.right<=1000000):Tri Tryz.prog 73 [.d (.agg (axR x))] [] (λr=>r= .d (.int .i64 (cD x))):=by
 by_cases h:1<=x.kind/\x.kind<=9
 ·exact zD x h h1 h2
 ·exact xF x (by omega)
end Go.Proofs.YtleihcnongldbaaGreatDoor
