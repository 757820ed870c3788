/-
  Ledgers, the law: Add and Find match the specification.
  Conditions: none.
-/
import Derived.Test.YtdjfkmkdkclahaaGreatDoorVOz7
import Derived.Test.YtdjfkmkdkclahaaGreatDoorVOz1
set_option linter.unnecessarySimpa false
set_option linter.unusedSectionVars false
set_option linter.unusedSimpArgs false
set_option linter.unusedVariables false
set_option maxHeartbeats 16000000
namespace Go.Proofs.YtdjfkmkdkclahaaGreatDoor
open Go.Proofs Go.RowKit
set_option maxRecDepth 10000
attribute [local irreducible] aL aH Tri aI YVC bP aS
theorem aD0 (l:Lg) (p:List At):Tri Tryz.prog 4 [.d (.agg (lgR l)), .d (.agg (aK p))] [] (λr=>r= .d (.bool true)):=by
 have c1:=aBq l
 have c2:=yV l p
 have c3:=xK l p
 have c4:=aBn l p
 have c5:=aEj l p
 have c8:=lM (aA1 l p).1 (aA1 l p).1
 have hpl:(p.map atR).length=p.length:=List.length_map ..
 rw [wW.2 rfl]at c8
 generalize aA1 l p=y at *
 obtain⟨m,n,e⟩:=y
 generalize aFb l p=y at *
 obtain⟨k,is⟩:=y
 dsimp only at c2 c3 c4 c5 c8
 rw [show lgR l=[.str l.reader, .int .i64 l.version, .sl 2 (l.entries.map bA)]from rfl]at c1 c2 c3 c4 c5 |-
 rw [show lgR m=[.str m.reader, .int .i64 m.version, .sl 2 (m.entries.map bA)]from rfl]at c2 c3 c8
 rw [show aK p=[.sl 6 (p.map atR)]from rfl]at c2 c3 c4 c5 |-
 refine aG false [2,3,5,8] hty Tryz.func4 rfl (kp [0,1,2,3,4,5,6,7,8,9,10,11,12,13,14,16,25]) [] _ _ _ (by simp [Tryz.f4]) (by simp) ?_
 ((conv=>whnf);repeat ((first|(refine aA [] iM trivial (λr hs=> ?_);subst hs)|(refine aA [] c1 trivial (λr hs=> ?_);obtain⟨b,rfl⟩:=hs)|(intro hq;try simp only [lnS]at hq)|refine sI ?_|refine .intro _ (.intro rfl ?_));(conv=>whnf)))
 cases b
 ·((conv=>whnf);repeat ((first|(intro hq;try simp only [lnS]at hq)|refine sI ?_|refine .intro _ (.intro rfl ?_));(conv=>whnf)))
  rfl
 ·((conv=>whnf);repeat ((first|(intro hq;try simp only [lnS]at hq)|refine sI ?_|refine .intro _ (.intro rfl ?_));(conv=>whnf)))
  refine aC (λh1=> ?_) (λh1=> ?_)
  ·((conv=>whnf);repeat ((first|(intro hq;try simp only [lnS]at hq)|refine sI ?_|refine .intro _ (.intro rfl ?_));(conv=>whnf)))
   rfl
  ((conv=>whnf);repeat ((first|(refine aA [] c2 trivial (λr hs=> ?_);subst hs)|(refine aA [] c3 trivial (λr hs=> ?_);subst hs)|(refine aA [] c4 trivial (λr hs=> ?_);subst hs)|(refine aA [] c5 trivial (λr hs=> ?_);subst hs)|(refine aA [] c8 trivial (λr hs=> ?_);subst hs)|(intro hq;try simp only [lnS]at hq)|refine sI ?_|refine .intro _ (.intro rfl ?_));(conv=>whnf)))
  rw [decide_eq_true rfl]
  ((conv=>whnf);repeat ((first|(intro hq;try simp only [lnS]at hq)|refine sI ?_|refine .intro _ (.intro rfl ?_));(conv=>whnf)))
  rw [decide_eq_true rfl]
  ((conv=>whnf);repeat ((first|(intro hq;try simp only [lnS]at hq)|refine sI ?_|refine .intro _ (.intro rfl ?_));(conv=>whnf)))
  rw [decide_eq_true rfl]
  cases is
  all_goals
   ((conv=>whnf);repeat ((first|(intro hq;try simp only [lnS]at hq)|refine sI ?_|refine .intro _ (.intro rfl ?_));(conv=>whnf)))
   rfl
end Go.Proofs.YtdjfkmkdkclahaaGreatDoor
