/-
  The reference of objects: lists, concepts and axioms in bytes. Terms: the reference's order, Strings, Size and Compare. The walk through the reference's keyword.
  Conditions: none.
-/
import Derived.Test.YtcomlapnibckmaaGreatDoorMSyd
import Derived.Test.YtcomlapnibckmaaGreatDoorMOx
import Derived.Test.YtcomlapnibckmaaGreatDoorMAc
import Derived.Test.YtcomlapnibckmaaGreatDoorMSw
set_option linter.unnecessarySimpa false
set_option linter.unusedSectionVars false
set_option linter.unusedSimpArgs false
set_option linter.unusedVariables false
namespace Go.Proofs.YtcomlapnibckmaaGreatDoor
open Go.Proofs Go.RowKit
set_option maxRecDepth 10000
attribute [local irreducible] aL aG Tri aD YVC cP bB vU
theorem aHv {a b:Nat}{p q:List UInt8}(hp:p.length=a) (hq:q.length=b) (h:a+b<=100000000000000):(p.map aO).length+(q.map aO).length<=9223372036854775807:=by rw [cH,cH];omega
theorem aHw {a b:Nat}{p q:List UInt8}(hp:p.length=a) (hq:q.length=b) (h:a+b<=100000000000000):((p.map aO).length+(q.map aO).length)* 1<=140737488355328:=by rw [cH,cH];omega
theorem aBp (n:Nat) (h:n<=100000000000000):vU Tryz.prog 44 [.d (.int .u64 (IntKind.u64.wrap (n:Int))), .d (.int .i64 4)] 5 (beN 4 n):=by
 rw [eU _ (by omega)]
 exact zR n 4 (by omega) (by decide) (by decide)
end Go.Proofs.YtcomlapnibckmaaGreatDoor
namespace Go.Proofs.YtcomlapnibckmaaGreatDoor
open Go.Proofs
set_option maxRecDepth 10000
attribute [local irreducible] aL aG Tri aD YVC cP bB
end Go.Proofs.YtcomlapnibckmaaGreatDoor
namespace Go.Proofs.YtcomlapnibckmaaGreatDoor
open Go.Proofs
set_option maxRecDepth 10000
attribute [local irreducible] aL aG Tri aD
end Go.Proofs.YtcomlapnibckmaaGreatDoor
