/-
  Ledgers, the laws: decoding and encoding are inverse to each other; fewParts; ledgers only grow.
  Conditions: none.
-/
import Derived.Test.YtdjfkmkdkclahaaGreatDoorVVe
import Derived.Test.YtdjfkmkdkclahaaGreatDoorVQqg
set_option linter.unnecessarySimpa false
set_option linter.unusedSectionVars false
set_option linter.unusedSimpArgs false
set_option linter.unusedVariables false
namespace Go.Proofs.YtdjfkmkdkclahaaGreatDoor
open Go.Proofs Go.RowKit
set_option maxRecDepth 10000
attribute [local irreducible] aL aH Tri aI YVC bP aS
theorem aR6 {s:bZ}{n:Int}{x:Ent}(hs:s.length<=100):(jS (s,n,x)).1.length<=11000:=by
 unfold jS
 split
 ·rename_i h
  have hq:qE ⟨[],[x.part]⟩=0:=by
   unfold enE at h
   split at h
   ·simp at h
   ·exact h
  have hb:=aR5 hq
  show (wEn (s,n,x)).length<=_
  unfold wEn
  simp only [List.length_append,wO,mV]
  omega
 ·simp
theorem aPb (bs:List UInt8) (hbs:bs.length<=1000000):Tri Tryz.prog 25 [.d (.sl 1 (bs.map aP))] [] (λr=>r= .tup [.d (.str (eF rEn jS pK 380 bs).1.1), .d (.int .i64 (eF rEn jS pK 380 bs).1.2.1), .d (.agg (bA (eF rEn jS pK 380 bs).1.2.2)), .d (.int .i64 (eF rEn jS pK 380 bs).2)]):=
 (aEy bs hbs).mono (λr h=>by obtain⟨y,rfl,hr⟩:=h;exact hr)
end Go.Proofs.YtdjfkmkdkclahaaGreatDoor
