/-
  Base: Union, walked.
  Conditions: none.
-/
import Derived.Test.YtfhoddcminbffaaGreatDoorMQz
set_option linter.unnecessarySimpa false
set_option linter.unusedSectionVars false
set_option linter.unusedSimpArgs false
set_option linter.unusedVariables false
set_option maxHeartbeats 4000000
namespace Go.Proofs.YtfhoddcminbffaaGreatDoor
open Go.Proofs
set_option maxRecDepth 10000
attribute [local irreducible] aM aJ Tri aH YVC dI bI
noncomputable def unE (a b:List Ax):List Ax×Int:=if dF a b≠0 then ([],dF a b)else lE (a++b)
theorem aIl (a b:List Ax):Tri Tryz.prog 31 [.d (hZ a), .d (hZ b)] NG (λr=>r= .tup [.d (hZ (unE a b).1), .d (.int .i64 (unE a b).2)]):=by
 refine Tri.pairB ?_
 have c1:=rL a b
 have hv:unE a b=if dF a b≠0 then ([],dF a b)else lE (a++b):=rfl
 have hb0:=wM (a:=a) (b:=b)
 rw [hv]
 clear hv
 generalize dF a b=e at *
 refine aF false [2,3] hty Tryz.func31 rfl (kp [0,1,2,3,4,5,6,11]) [] _ _ _ (by simp [Tryz.f31]) (by decide) ?_
 ((conv=>whnf);repeat ((first|(refine aD NG c1 ⟨rfl,rfl,trivial⟩ (λr hs=> ?_);subst hs)|(intro hq;try simp only [lnS]at hq)|refine sI ?_|refine .intro _ (.intro rfl ?_));(conv=>whnf)))
 refine aC (λh1=> ?_) (λh1=> ?_)
 ·rw [if_pos h1]
  ((conv=>whnf);repeat' ((first|(intro hq;(try simp only [lnS]at hq);(try rewrite [List.length_map]))|refine sJ ?_|refine .intro _ (.intro rfl ?_)|refine exL (k:= ?_)|refine dwR ?_|((first|refine aB ?_ ?_|refine aC ?_ ?_)<;>intro hb<;>(first|exact ddX hb|try simp only [lnS]at hb))|(refine aA ?_ ?_<;>intro hb<;>try exact dsX hb))<;>(conv=>whnf)))
  exact aFg _
 ·rw [if_neg (by simp [h1])]
  obtain⟨q1,q2⟩:=hb0 h1
  have o1:=(cJ a).1 q1
  have o2:=(cJ b).1 q2
  have f1:=o1.few
  have f2:=o2.few
  have c2:=aBn [a,b] (by simp;omega) (by simp)
  rw [show [a,b].flatten=a++b by simp]at c2
  have c2:= λ(id:Nat)=>Tri.osl (id:=id) c2
  have c3:=tN (a++b) (by simp;omega)
  generalize lE (a++b)=r at *
  obtain⟨r1,r2⟩:=r
  ((conv=>whnf);repeat ((first|(refine aD [] (c2 _) trivial (λr hs=> ?_);subst hs)|(refine aD NG c3 ⟨rfl,rfl,trivial⟩ (λr hs=> ?_);subst hs)|(intro hq;try simp only [lnS]at hq)|refine sI ?_|refine .intro _ (.intro rfl ?_));(conv=>whnf)))
  exact xD _ _
end Go.Proofs.YtfhoddcminbffaaGreatDoor
