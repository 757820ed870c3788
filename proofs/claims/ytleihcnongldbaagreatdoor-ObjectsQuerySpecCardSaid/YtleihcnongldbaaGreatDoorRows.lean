/-
  NARROWER THAN 'FOR EVERY INPUT', by the rows' own cells (each row's printed sentence says how): ObjectsQuerySpec: laid · ObjectsAlignmentSpec: loops, laid · ObjectsRoundTrips: loops, laid.
  DERIVED. THE GIVEN ROWS OF THIS SEAT. 3 by the template 'for every input the law returns true; each argument reads behind the call as it read before'; 0 by the template 'total and deterministic' (their statements: YtleihcnongldbaaGreatDoorTotals.lean).
  GIVEN WITH THE SEED: the statements are not yours to turn. If you find one false, say at which input.
  Laid BY PROGRAM, IN A SANDBOX (cutbox-rows.mjs): the forced cells as the released guide's own fill.sh prints them over the translation debf7350d53f9d3e… (all of the seat's roots in one cut). By AI agents, Wed Nov 11 2026. No macro, syntax, notation, axiom, sorry.
-/
import Derived.Test.YtleihcnongldbaaGreatDoorChecked
import GoSem.Claim
import GoSem.ClaimJoined
import GoSem.ClaimMapViews
import Derived.JoinedTies
import Derived.KernelRfl
namespace Go.Proofs.YtleihcnongldbaaGreatDoor
/- THE CELL 'sum', in the pinned program and in every row, IS THE sha256 OF THE DUMP (.gsa) THAT YtleihcnongldbaaGreatDoorProg.lean LOADS. Nothing in Lean hashes anything: it is a label: what it is worth is what the hold of that sum in a sandbox is worth. -/
noncomputable def Tryz.pinned : Pinned := { name := "ytleihcnongldbaagreatdoor", sum := "debf7350d53f9d3e681b56611f45cf802efcca012f44d53130b6278c586ec1be", checked := Tryz.checked }
namespace Rows
def none {H : Type} : Left H := { results := [], args := [] }

/- WHAT THE LISTED PACKAGE-LEVEL VARIABLES READ AS WHEN THE CALL BEGINS. Each datum BY PROGRAM (the guide's laid-datum.mjs) off the statement by which the dump's own 'gosem.cut.vars' lays the variable. In a bare row this is a premise. The card (YtleihcnongldbaaGreatDoorCards.lean) ties it to the program's text. -/
def laid_veilstone_terms_needs {H : Type} : DataW H := .agg [.agg [.lit (.int .i64 0), .lit (.int .i64 0), .lit (.int .i64 0), .lit (.bool false)], .agg [.lit (.int .i64 0), .lit (.int .i64 0), .lit (.int .i64 0), .lit (.bool false)], .agg [.lit (.int .i64 0), .lit (.int .i64 0), .lit (.int .i64 0), .lit (.bool false)], .agg [.lit (.int .i64 1), .lit (.int .i64 0), .lit (.int .i64 0), .lit (.bool false)], .agg [.lit (.int .i64 2), .lit (.int .i64 0), .lit (.int .i64 0), .lit (.bool false)], .agg [.lit (.int .i64 0), .lit (.int .i64 2), .lit (.int .i64 8), .lit (.bool false)], .agg [.lit (.int .i64 1), .lit (.int .i64 1), .lit (.int .i64 1), .lit (.bool false)], .agg [.lit (.int .i64 1), .lit (.int .i64 0), .lit (.int .i64 0), .lit (.bool true)]]
def laid_veilstone_terms_uses {H : Type} : DataW H := .agg [.agg [.lit (.bool false), .lit (.bool false), .lit (.bool false), .lit (.bool false), .lit (.bool false), .lit (.int .i64 0), .lit (.int .i64 0)], .agg [.lit (.bool true), .lit (.bool true), .lit (.bool false), .lit (.bool false), .lit (.bool false), .lit (.int .i64 0), .lit (.int .i64 0)], .agg [.lit (.bool true), .lit (.bool true), .lit (.bool false), .lit (.bool false), .lit (.bool false), .lit (.int .i64 0), .lit (.int .i64 0)], .agg [.lit (.bool true), .lit (.bool true), .lit (.bool false), .lit (.bool false), .lit (.bool false), .lit (.int .i64 0), .lit (.int .i64 0)], .agg [.lit (.bool false), .lit (.bool true), .lit (.bool true), .lit (.bool false), .lit (.bool false), .lit (.int .i64 0), .lit (.int .i64 0)], .agg [.lit (.bool false), .lit (.bool false), .lit (.bool true), .lit (.bool false), .lit (.bool false), .lit (.int .i64 1), .lit (.int .i64 1)], .agg [.lit (.bool false), .lit (.bool false), .lit (.bool true), .lit (.bool false), .lit (.bool false), .lit (.int .i64 2), .lit (.int .i64 4)], .agg [.lit (.bool false), .lit (.bool false), .lit (.bool true), .lit (.bool false), .lit (.bool false), .lit (.int .i64 0), .lit (.int .i64 0)], .agg [.lit (.bool false), .lit (.bool true), .lit (.bool false), .lit (.bool true), .lit (.bool false), .lit (.int .i64 0), .lit (.int .i64 0)], .agg [.lit (.bool false), .lit (.bool false), .lit (.bool true), .lit (.bool true), .lit (.bool true), .lit (.int .i64 0), .lit (.int .i64 0)]]

/-- 'veilstonelaw28.ObjectsQuerySpec': WHATEVER THE INPUT: true; the input reads as it did. -/
def objectsQuerySpecSpec : ChangeSpec := { name := "objectsQuerySpec", fn := fun _ => fun
  | [d1, d2] => { results := [.lit (.bool true)], args := [d1, d2] }
  | _ => none }
def objectsQuerySpecRow : OpenClaim := { program := "ytleihcnongldbaagreatdoor", sum := "debf7350d53f9d3e681b56611f45cf802efcca012f44d53130b6278c586ec1be", func := "veilstone/veilstonelaw28.ObjectsQuerySpec", spec := "objectsQuerySpec", inPlace := ["internal/bytealg.IndexByteString", "internal/bytealg.IndexString"], unfollowed := true, recurses := true, named := ["veilstone/terms.uses", "internal/bytealg.MaxLen", "veilstone/terms.needs"], apart := false, laid := [("veilstone/terms.needs", laid_veilstone_terms_needs), ("veilstone/terms.uses", laid_veilstone_terms_uses)] }
def ObjectsQuerySpecSaid : Prop := objectsQuerySpecRow.holds Tryz.pinned (OpenSpec.ofChange objectsQuerySpecSpec)

/-- ITS FALSE NEIGHBOUR: 'it returns false'. Refute it at one input. -/
def objectsQuerySpecWrong : ChangeSpec := { name := "objectsQuerySpec", fn := fun _ => fun
  | [d1, d2] => { results := [.lit (.bool false)], args := [d1, d2] }
  | _ => none }
def ObjectsQuerySpecWrongFalsely : Prop := objectsQuerySpecRow.holds Tryz.pinned (OpenSpec.ofChange objectsQuerySpecWrong)

/-- 'veilstonelaw28.ObjectsAlignmentSpec': WHATEVER THE INPUT: true; the input reads as it did. -/
def objectsAlignmentSpecSpec : ChangeSpec := { name := "objectsAlignmentSpec", fn := fun _ => fun
  | [d1, d2] => { results := [.lit (.bool true)], args := [d1, d2] }
  | _ => none }
def objectsAlignmentSpecRow : OpenClaim := { program := "ytleihcnongldbaagreatdoor", sum := "debf7350d53f9d3e681b56611f45cf802efcca012f44d53130b6278c586ec1be", func := "veilstone/veilstonelaw28.ObjectsAlignmentSpec", spec := "objectsAlignmentSpec", inPlace := ["internal/bytealg.IndexByteString", "internal/bytealg.IndexString"], unfollowed := true, recurses := true, named := ["veilstone/terms.uses", "internal/bytealg.MaxLen", "veilstone/terms.needs"], loops := true, apart := false, laid := [("veilstone/terms.needs", laid_veilstone_terms_needs), ("veilstone/terms.uses", laid_veilstone_terms_uses)] }
def ObjectsAlignmentSpecSaid : Prop := objectsAlignmentSpecRow.holds Tryz.pinned (OpenSpec.ofChange objectsAlignmentSpecSpec)

/-- ITS FALSE NEIGHBOUR: 'it returns false'. Refute it at one input. -/
def objectsAlignmentSpecWrong : ChangeSpec := { name := "objectsAlignmentSpec", fn := fun _ => fun
  | [d1, d2] => { results := [.lit (.bool false)], args := [d1, d2] }
  | _ => none }
def ObjectsAlignmentSpecWrongFalsely : Prop := objectsAlignmentSpecRow.holds Tryz.pinned (OpenSpec.ofChange objectsAlignmentSpecWrong)

/-- 'veilstonelaw28.ObjectsRoundTrips': WHATEVER THE INPUT: true; the input reads as it did. -/
def objectsRoundTripsSpec : ChangeSpec := { name := "objectsRoundTrips", fn := fun _ => fun
  | [d1, d2, d3, d4, d5, d6] => { results := [.lit (.bool true)], args := [d1, d2, d3, d4, d5, d6] }
  | _ => none }
def objectsRoundTripsRow : OpenClaim := { program := "ytleihcnongldbaagreatdoor", sum := "debf7350d53f9d3e681b56611f45cf802efcca012f44d53130b6278c586ec1be", func := "veilstone/veilstonelaw28.ObjectsRoundTrips", spec := "objectsRoundTrips", inPlace := ["internal/bytealg.IndexByteString", "internal/bytealg.IndexString"], unfollowed := true, recurses := true, named := ["veilstone/terms.uses", "internal/bytealg.MaxLen", "veilstone/terms.needs"], loops := true, apart := false, laid := [("veilstone/terms.needs", laid_veilstone_terms_needs), ("veilstone/terms.uses", laid_veilstone_terms_uses)] }
def ObjectsRoundTripsSaid : Prop := objectsRoundTripsRow.holds Tryz.pinned (OpenSpec.ofChange objectsRoundTripsSpec)

/-- ITS FALSE NEIGHBOUR: 'it returns false'. Refute it at one input. -/
def objectsRoundTripsWrong : ChangeSpec := { name := "objectsRoundTrips", fn := fun _ => fun
  | [d1, d2, d3, d4, d5, d6] => { results := [.lit (.bool false)], args := [d1, d2, d3, d4, d5, d6] }
  | _ => none }
def ObjectsRoundTripsWrongFalsely : Prop := objectsRoundTripsRow.holds Tryz.pinned (OpenSpec.ofChange objectsRoundTripsWrong)

/- THE SECOND FORM. 'bulk': how many values and letters a reading holds, each counted each time it is reached (what is shared counts as often as it is met; a slice's spare places count too). A statement '..UptoSaid' is the law's where the arguments, and the package variables that the reading takes, are together of bulk at most 1048576: NARROWER than '..Said'. Prove '..Said' where nothing that the law and all that it calls make is longer than what came in: it says more and counts as full. Else prove '..UptoSaid'. A law counts once. -/
mutual
def uptoBulk {H : Type} : DataW H → Nat
  | .lit (.string bytes) => bytes.length + 1
  | .lit _ => 1
  | .nil => 1
  | .ptr d => uptoBulk d + 1
  | .slice elems spare => uptoBulkAll elems + uptoBulkAll spare + 1
  | .agg parts => uptoBulkAll parts + 1
  | .iface _ d => uptoBulk d + 1
  | .map entries => uptoBulkEntries entries + 1
  | .held _ => 1
def uptoBulkAll {H : Type} : List (DataW H) → Nat
  | [] => 0
  | d :: r => uptoBulk d + uptoBulkAll r
def uptoBulkEntries {H : Type} : List (Lit × DataW H) → Nat
  | [] => 0
  | x :: r => uptoBulkEntry x + uptoBulkEntries r
def uptoBulkEntry {H : Type} : Lit × DataW H → Nat
  | (.string bytes, d) => bytes.length + uptoBulk d + 1
  | (_, d) => uptoBulk d + 1
 end
def uptoSmall : (H : Type) → List (DataW H) → Bool := fun _ ds => decide (uptoBulkAll ds ≤ 1048576)
def OpenSpec.upto (s : _root_.Go.ChangeSpec) : _root_.Go.OpenSpec := { _root_.Go.OpenSpec.ofChange s with cond := some uptoSmall }

/-- 'veilstonelaw28.ObjectsQuerySpec', WHERE WHAT IT READS IS OF BULK AT MOST 1048576: true; the input reads as it did. -/
def objectsQuerySpecUptoRow : OpenClaim := { program := "ytleihcnongldbaagreatdoor", sum := "debf7350d53f9d3e681b56611f45cf802efcca012f44d53130b6278c586ec1be", func := "veilstone/veilstonelaw28.ObjectsQuerySpec", spec := "objectsQuerySpec", inPlace := ["internal/bytealg.IndexByteString", "internal/bytealg.IndexString"], unfollowed := true, recurses := true, named := ["veilstone/terms.uses", "internal/bytealg.MaxLen", "veilstone/terms.needs"], apart := false, laid := [("veilstone/terms.needs", laid_veilstone_terms_needs), ("veilstone/terms.uses", laid_veilstone_terms_uses)], narrowed := true }
def ObjectsQuerySpecUptoSaid : Prop := objectsQuerySpecUptoRow.holds Tryz.pinned (OpenSpec.upto objectsQuerySpecSpec)

/-- 'veilstonelaw28.ObjectsAlignmentSpec', WHERE WHAT IT READS IS OF BULK AT MOST 1048576: true; the input reads as it did. -/
def objectsAlignmentSpecUptoRow : OpenClaim := { program := "ytleihcnongldbaagreatdoor", sum := "debf7350d53f9d3e681b56611f45cf802efcca012f44d53130b6278c586ec1be", func := "veilstone/veilstonelaw28.ObjectsAlignmentSpec", spec := "objectsAlignmentSpec", inPlace := ["internal/bytealg.IndexByteString", "internal/bytealg.IndexString"], unfollowed := true, recurses := true, named := ["veilstone/terms.uses", "internal/bytealg.MaxLen", "veilstone/terms.needs"], loops := true, apart := false, laid := [("veilstone/terms.needs", laid_veilstone_terms_needs), ("veilstone/terms.uses", laid_veilstone_terms_uses)], narrowed := true }
def ObjectsAlignmentSpecUptoSaid : Prop := objectsAlignmentSpecUptoRow.holds Tryz.pinned (OpenSpec.upto objectsAlignmentSpecSpec)

/-- 'veilstonelaw28.ObjectsRoundTrips', WHERE WHAT IT READS IS OF BULK AT MOST 1048576: true; the input reads as it did. -/
def objectsRoundTripsUptoRow : OpenClaim := { program := "ytleihcnongldbaagreatdoor", sum := "debf7350d53f9d3e681b56611f45cf802efcca012f44d53130b6278c586ec1be", func := "veilstone/veilstonelaw28.ObjectsRoundTrips", spec := "objectsRoundTrips", inPlace := ["internal/bytealg.IndexByteString", "internal/bytealg.IndexString"], unfollowed := true, recurses := true, named := ["veilstone/terms.uses", "internal/bytealg.MaxLen", "veilstone/terms.needs"], loops := true, apart := false, laid := [("veilstone/terms.needs", laid_veilstone_terms_needs), ("veilstone/terms.uses", laid_veilstone_terms_uses)], narrowed := true }
def ObjectsRoundTripsUptoSaid : Prop := objectsRoundTripsUptoRow.holds Tryz.pinned (OpenSpec.upto objectsRoundTripsSpec)

end Rows
end Go.Proofs.YtleihcnongldbaaGreatDoor
