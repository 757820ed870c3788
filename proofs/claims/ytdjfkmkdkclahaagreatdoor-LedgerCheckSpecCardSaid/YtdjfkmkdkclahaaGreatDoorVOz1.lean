/-
  Ledgers, the laws: few; New, Check and Left match the specification.
  Conditions: none.
-/
import Derived.Test.YtdjfkmkdkclahaaGreatDoorVZh
set_option linter.unnecessarySimpa false
set_option linter.unusedSectionVars false
set_option linter.unusedSimpArgs false
set_option linter.unusedVariables false
set_option maxHeartbeats 16000000
namespace Go.Proofs.YtdjfkmkdkclahaaGreatDoor
open Go.Proofs Go.RowKit
set_option maxRecDepth 10000
attribute [local irreducible] aL aH Tri aI YVC bP aS
def aW1:TypeId->Option TI:=aRe ty 3
theorem aUq:cQ Tryz.prog aW1:=aO2 hty _
theorem aI2:cQ Tryz.prog ty:=hty
theorem aBq (l:Lg):Tri Tryz.prog 11 [.d (.agg (lgR l))] [] (λr=> ∃b,r= .d (.bool b)):=by
 have hl:(l.entries.map bA).length=l.entries.length:=List.length_map ..
 rw [show lgR l=[.str l.reader, .int .i64 l.version, .sl 2 (l.entries.map bA)]from rfl]
 have hty:=aUq
 refine aG false [1,5] hty Tryz.func11 rfl (kp [0,1,2,3,5,7,8,9,10]) [] _ _ _ (by simp [Tryz.f11]) (by decide) ?_
 ((conv=>whnf);repeat ((first|(intro hq;try simp only [lnS]at hq)|refine sI ?_|refine .intro _ (.intro rfl ?_));(conv=>whnf)))
 refine aJ hty (λy:Nat×Int=>([(1, .ea 3 [[.str l.reader, .int .i64 l.version, .sl 2 (l.entries.map bA)]] 0 0),(7, .d (.sl 2 (l.entries.map bA))),(8, .d (.int .i64 l.entries.length)),(3, .d (.int .i64 y.2)),(9, .d (.int .i64 y.1))],[])) (λy=>y.1<=l.entries.length) (λy=>l.entries.length - y.1) (0,0) (by dsimp only;omega) ⟨by repeat' (first|exact trivial|exact rfl|(simp only [List.length_map];exact rfl)|refine And.intro ?_ ?_),trivial⟩ ?_
 rintro⟨j,z⟩ hj
 dsimp only at hj
 ((conv=>whnf);repeat ((first|(refine aDa aI2 rfl rfl rfl ?_)|(intro hq;try simp only [lnS]at hq)|refine sI ?_|refine .intro _ (.intro rfl ?_));(conv=>whnf)))
 refine aC (λh1=> ?_) (λh1=> ?_)
 ·have hjl:j < l.entries.length:=by omega
  have hrow:(l.entries.map bA)[((j:Nat):Int).toNat]? =some (bA l.entries[j]):=aO hjl
  generalize l.entries[j]=x at hrow
  rw [show bA x=[.int .i64 x.no, .sl 6 (x.part.map atR)]from rfl]at hrow
  ((conv=>whnf);repeat ((first|(refine⟨_,hrow, ?_⟩)|(refine aDa aI2 rfl rfl rfl ?_;refine And.intro (show _/\_ by omega) ?_)|(refine aQ4 rfl rfl rfl ?_)|(intro hq;try simp only [lnS]at hq)|refine sI ?_|refine .intro _ (.intro rfl ?_));(conv=>whnf)))
  exact⟨(j+1,_),by dsimp only;omega,by dsimp only;omega,by repeat' (first|exact trivial|exact rfl|refine And.intro ?_ ?_),trivial⟩
 ·((conv=>whnf);repeat ((first|(refine aDa aI2 rfl rfl rfl ?_)|(intro hq;try simp only [lnS]at hq)|refine sI ?_|refine .intro _ (.intro rfl ?_));(conv=>whnf)))
  generalize decide (((l.entries.map bA).length:Int)<=12)=b
  cases b
  all_goals
   ((conv=>whnf);repeat ((first|(refine aDa aI2 rfl rfl rfl ?_)|(intro hq;try simp only [lnS]at hq)|refine sI ?_|refine .intro _ (.intro rfl ?_));(conv=>whnf)))
   exact⟨_,rfl⟩
theorem yT (l:Lg):Tri Tryz.prog 3 [.d (.agg (lgR l))] [] (λr=>r= .d (.bool true)):=by
 have c1:=aBq l
 have c2:=rQ l.reader l.version
 have c3:=aEg l.reader l.version
 have c4:=yS l
 have c5:=pZ l
 have c6:=aBm l
 have c7:=aJa l
 have c8:=lM (aDj l.reader l.version).1 (aDj l.reader l.version).1
 rw [wW.2 rfl]at c8
 generalize aDj l.reader l.version=y at *
 obtain⟨m,e⟩:=y
 dsimp only at c2 c3 c8
 rw [show lgR l=[.str l.reader, .int .i64 l.version, .sl 2 (l.entries.map bA)]from rfl]at c1 c4 c5 c6 c7 |-
 rw [show lgR m=[.str m.reader, .int .i64 m.version, .sl 2 (m.entries.map bA)]from rfl]at c2 c3 c8
 refine aG false [1,3,5] hty Tryz.func3 rfl (kp [0,1,2,3,4,5,6,8,11]) [] _ _ _ (by simp [Tryz.f3]) (by simp) ?_
 ((conv=>whnf);repeat ((first|(refine aA [] iM trivial (λr hs=> ?_);subst hs)|(refine aA [] c1 trivial (λr hs=> ?_);obtain⟨b,rfl⟩:=hs)|(intro hq;try simp only [lnS]at hq)|refine sI ?_|refine .intro _ (.intro rfl ?_));(conv=>whnf)))
 cases b
 ·((conv=>whnf);repeat ((first|(intro hq;try simp only [lnS]at hq)|refine sI ?_|refine .intro _ (.intro rfl ?_));(conv=>whnf)))
  rfl
 ·((conv=>whnf);repeat ((first|(refine aA [] c2 trivial (λr hs=> ?_);subst hs)|(refine aA [] c3 trivial (λr hs=> ?_);subst hs)|(intro hq;try simp only [lnS]at hq)|refine sI ?_|refine .intro _ (.intro rfl ?_));(conv=>whnf)))
  refine dwR ?_
  ((conv=>whnf);repeat ((first|(refine⟨.d (.bool _),_,[],rfl,trivial,c8, ?_⟩)|(refine⟨.d (.int .i64 _),_,[],rfl,trivial,c4, ?_⟩)|(refine⟨.d (.int .i64 _),_,[],rfl,trivial,c5, ?_⟩)|(refine⟨.d (.int .i64 _),_,[],rfl,trivial,c6, ?_⟩)|(refine⟨.d (.int .i64 _),_,[],rfl,trivial,c7, ?_⟩)|(intro hq;try simp only [lnS]at hq)|refine sI ?_|refine .intro _ (.intro rfl ?_));(conv=>whnf)))
  rw [decide_eq_true rfl]
  ((conv=>whnf);repeat ((first|(refine⟨.d (.int .i64 _),_,[],rfl,trivial,c4, ?_⟩)|(refine⟨.d (.int .i64 _),_,[],rfl,trivial,c5, ?_⟩)|(intro hq;try simp only [lnS]at hq)|refine sI ?_|refine .intro _ (.intro rfl ?_));(conv=>whnf)))
  rw [decide_eq_true rfl]
  ((conv=>whnf);repeat ((first|(refine⟨.d (.int .i64 _),_,[],rfl,trivial,c6, ?_⟩)|(refine⟨.d (.int .i64 _),_,[],rfl,trivial,c7, ?_⟩)|(intro hq;try simp only [lnS]at hq)|refine sI ?_|refine .intro _ (.intro rfl ?_));(conv=>whnf)))
  rw [decide_eq_true rfl]
  rfl
end Go.Proofs.YtdjfkmkdkclahaaGreatDoor
