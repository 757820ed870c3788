/-
  Objects: few, fewQuery and fewAlignment of the law.
  Conditions: none.
-/
import Derived.Test.YtleihcnongldbaaGreatDoorWSyc
import Derived.Test.YtleihcnongldbaaGreatDoorWSyu
set_option linter.unnecessarySimpa false
set_option linter.unusedSectionVars false
set_option linter.unusedSimpArgs false
set_option linter.unusedVariables false
set_option maxHeartbeats 16000000
namespace Go.Proofs.YtleihcnongldbaaGreatDoor
open Go.Proofs Go.RowKit
set_option maxRecDepth 10000
attribute [local irreducible] aN aJ Tri aI YVC cP bE
def tyW:TypeId->Option TI:=aPr ty 3
theorem aW6:dT Tryz.prog tyW:=aM8 hty _
theorem aSx:dT Tryz.prog ty:=hty
theorem aC0 (q:Qy):Tri Tryz.prog 8 [.d (.agg (qyR q))] [] (λr=> ∃b,r= .d (.bool b)):=by
 have hty:=aW6
 obtain⟨told,parts⟩:=q
 refine aE false [1,5,7] hty Tryz.func8 rfl (kp [0,1,2,3,5,7,12,13,14,15,25,26,27,28]) [] _ _ _ (by simp [Tryz.f8]) (by decide) ?_
 ((conv=>whnf);repeat ((first|(intro hq;try simp only [lnS]at hq)|refine sI ?_|refine .intro _ (.intro rfl ?_));(conv=>whnf)))
 refine aH hty (λy:Nat×Int=>([(1, .ea 2 [qyR ⟨told,parts⟩] 0 0),(12, .d (.sl 1 (parts.map aU))),(13, .d (.int .i64 parts.length)),(3, .d (.int .i64 y.2)),(14, .d (.int .i64 y.1))],[])) (λy=>y.1<=parts.length) (λy=>parts.length - y.1) (0,(told.map bL).length) (by dsimp only;omega) ⟨by repeat' (first|exact trivial|exact rfl|(simp only [List.length_map];exact rfl)|refine And.intro ?_ ?_),trivial⟩ ?_
 rintro⟨j,z⟩ hj
 dsimp only at hj
 have hpl:(parts.map aU).length=parts.length:=List.length_map ..
 ((conv=>whnf);repeat ((first|(refine yU aSx rfl rfl rfl ?_)|(intro hq;try simp only [lnS]at hq)|refine sI ?_|refine .intro _ (.intro rfl ?_));(conv=>whnf)))
 refine aB (λh1=> ?_) (λh1=> ?_)
 ·have hjl:j < parts.length:=by omega
  have hrow:(parts.map aU)[((j:Nat):Int).toNat]? =some (aU parts[j]):=aS hjl
  generalize parts[j]=p at hrow
  have hal:(p.map atR).length=p.length:=List.length_map ..
  ((conv=>whnf);repeat ((first|(refine⟨_,hrow, ?_⟩)|(refine aGl rfl rfl rfl ?_)|(intro hq;try simp only [lnS]at hq)|refine sI ?_|refine .intro _ (.intro rfl ?_));(conv=>whnf)))
  generalize IntKind.i64.wrap (z+IntKind.i64.wrap (1+(((p.map atR).length:Nat):Int)))=z1
  refine aH hty (λy:Nat×Int=>([(1, .ea 2 [qyR ⟨told,parts⟩] 0 0),(12, .d (.sl 1 (parts.map aU))),(13, .d (.int .i64 parts.length)),(14, .d (.int .i64 j)),(25, .d (.sl 6 (p.map atR))),(26, .d (.int .i64 p.length)),(3, .d (.int .i64 y.2)),(27, .d (.int .i64 y.1))],[])) (λy=>y.1<=p.length) (λy=>p.length - y.1) (0,z1) (by dsimp only;omega) ⟨by repeat' (first|exact trivial|exact rfl|(simp only [List.length_map];exact rfl)|refine And.intro ?_ ?_),trivial⟩ ?_
  rintro⟨k,u⟩ hk
  dsimp only at hk
  ((conv=>whnf);repeat ((first|(refine yU aSx rfl rfl rfl ?_)|(intro hq;try simp only [lnS]at hq)|refine sI ?_|refine .intro _ (.intro rfl ?_));(conv=>whnf)))
  refine aB (λh2=> ?_) (λh2=> ?_)
  ·have hkl:k < p.length:=by omega
   have hrow2:(p.map atR)[((k:Nat):Int).toNat]? =some (atR p[k]):=aS hkl
   generalize p[k]=a at hrow2
   obtain⟨kd,nm,x,y,lo,hi⟩:=a
   ((conv=>whnf);repeat ((first|(refine⟨_,hrow2, ?_⟩)|(refine yU aSx rfl rfl rfl ?_;refine And.intro (show _/\_ by omega) ?_)|(refine aGl rfl rfl rfl ?_)|(refine aMw rfl rfl rfl (by decide) ?_)|(intro hq;try simp only [lnS]at hq)|refine sI ?_|refine .intro _ (.intro rfl ?_));(conv=>whnf)))
   exact⟨(k+1,_),by dsimp only;omega,by dsimp only;omega,⟨by repeat' (first|exact trivial|exact rfl|refine And.intro ?_ ?_),by repeat' (first|exact trivial|exact rfl|refine And.intro ?_ ?_)⟩⟩
  ·((conv=>whnf);repeat ((first|(refine yU aSx rfl rfl rfl ?_;refine And.intro (show _/\_ by omega) ?_)|(intro hq;try simp only [lnS]at hq)|refine sI ?_|refine .intro _ (.intro rfl ?_));(conv=>whnf)))
   exact⟨(j+1,_),by dsimp only;omega,by dsimp only;omega,⟨by repeat' (first|exact trivial|exact rfl|refine And.intro ?_ ?_),by repeat' (first|exact trivial|exact rfl|refine And.intro ?_ ?_)⟩⟩
 ·((conv=>whnf);repeat ((first|(refine yU aSx rfl rfl rfl ?_)|(intro hq;try simp only [lnS]at hq)|refine sI ?_|refine .intro _ (.intro rfl ?_));(conv=>whnf)))
  exact⟨_,rfl⟩
end Go.Proofs.YtleihcnongldbaaGreatDoor
