/-
  The reference of objects: ReadCommit.
  Conditions: none.
-/
import Derived.Test.YtdjfkmkdkclahaaGreatDoorVVe
import Derived.Test.YtdjfkmkdkclahaaGreatDoorVOh
import Derived.Test.YtdjfkmkdkclahaaGreatDoorVSyv
set_option linter.unnecessarySimpa false
set_option linter.unusedSectionVars false
set_option linter.unusedSimpArgs false
set_option linter.unusedVariables false
set_option maxHeartbeats 8000000
namespace Go.Proofs.YtdjfkmkdkclahaaGreatDoor
open Go.Proofs Go.RowKit
set_option maxRecDepth 10000
attribute [local irreducible] aL aH Tri aI YVC bP aS aA3
theorem aO9 {α β:Type}{t:Tr α}{f:α->Tr β}{s s1:RS}{x:α}(h:t s=(x,s1)):mX t f s=f x s1:=by unfold mX;rw [h]
theorem aXs (s:RS):Tri Tryz.prog 93 [.ptr 0 0] [(0,rfO s)] (λr=>r= .d (.bool (!s.2 && decide (s.1=[])))):=by
 obtain⟨b,d⟩:=s
 have hbl:=bX b
 refine aF hty Tryz.func93 rfl (kp [0,2]) [] _ _ _ (by simp [Tryz.f93]) (by simp) ?_
 cases d
 ·((conv=>whnf);repeat ((first|(intro hq;try simp only [lnS]at hq)|refine sI ?_|refine .intro _ (.intro rfl ?_));(conv=>whnf)))
  rw [hbl]
  by_cases h:b=[]
  ·subst h
   ((conv=>whnf);repeat' ((first|(intro hq;(try simp only [lnS]at hq);(try rewrite [List.length_map]))|refine sJ ?_|refine .intro _ (.intro rfl ?_)|refine exL (k:= ?_)|refine dwR ?_|((first|refine aC ?_ ?_|refine aD ?_ ?_)<;>intro hb<;>(first|exact ddX hb|try simp only [lnS]at hb))|(refine aB ?_ ?_<;>intro hb<;>try exact dsX hb))<;>(conv=>whnf)))
   all_goals rfl
  ·have hl:¬ b.length=0:= λe=>h (List.length_eq_zero_iff.1 e)
   rw [show decide (b=[])=false from decide_eq_false h]
   ((conv=>whnf);repeat' ((first|(intro hq;(try simp only [lnS]at hq);(try rewrite [List.length_map]))|refine sJ ?_|refine .intro _ (.intro rfl ?_)|refine exL (k:= ?_)|refine dwR ?_|((first|refine aC ?_ ?_|refine aD ?_ ?_)<;>intro hb<;>(first|exact ddX hb|try simp only [lnS]at hb))|(refine aB ?_ ?_<;>intro hb<;>try exact dsX hb))<;>(conv=>whnf)))
   all_goals (refine aN ?_;simp;omega)
 ·((conv=>whnf);repeat' ((first|(intro hq;(try simp only [lnS]at hq);(try rewrite [List.length_map]))|refine sJ ?_|refine .intro _ (.intro rfl ?_)|refine exL (k:= ?_)|refine dwR ?_|((first|refine aC ?_ ?_|refine aD ?_ ?_)<;>intro hb<;>(first|exact ddX hb|try simp only [lnS]at hb))|(refine aB ?_ ?_<;>intro hb<;>try exact dsX hb))<;>(conv=>whnf)))
  all_goals rfl
end Go.Proofs.YtdjfkmkdkclahaaGreatDoor
