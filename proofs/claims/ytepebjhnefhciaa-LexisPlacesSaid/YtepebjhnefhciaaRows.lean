/-
  No cell of these rows narrows 'for every input' (looked for: loops, veiled, ifaces, maps, wideKeys, modest, calm, conditions, laid).
  DERIVED. THE GIVEN ROWS OF THIS SEAT. 8 by the template 'for every input the law returns true; each argument reads behind the call as it read before'; 0 by the template 'total and deterministic' (their statements: YtepebjhnefhciaaTotals.lean).
  GIVEN WITH THE SEED: the statements are not yours to turn. If you find one false, say at which input.
  Laid BY PROGRAM, IN A SANDBOX (cutbox-rows.mjs): the forced cells as the released guide's own fill.sh prints them over the translation 50bc331bf3e3b4c7… (all of the seat's roots in one cut). By AI agents, Wed Nov 11 2026. No macro, syntax, notation, axiom, sorry.
-/
import Derived.Test.YtepebjhnefhciaaChecked
import GoSem.Claim
import GoSem.ClaimJoined
import GoSem.ClaimMapViews
import Derived.JoinedTies
import Derived.KernelRfl
namespace Go.Proofs.Ytepebjhnefhciaa
/- THE CELL 'sum', in the pinned program and in every row, IS THE sha256 OF THE DUMP (.gsa) THAT YtepebjhnefhciaaProg.lean LOADS. Nothing in Lean hashes anything: it is a label: what it is worth is what the hold of that sum in a sandbox is worth. -/
noncomputable def Try.pinned : Pinned := { name := "ytepebjhnefhciaa", sum := "50bc331bf3e3b4c7cda368c75a341e8086d4ccc5e0a2a61b20e53824831c5f1a", checked := Try.checked }
namespace Rows
def none {H : Type} : Left H := { results := [], args := [] }

/-- 'veilstonelaw01.LexisTokens': WHATEVER THE INPUT: true; the input reads as it did. -/
def lexisTokensSpec : ChangeSpec := { name := "lexisTokens", fn := fun _ => fun
  | [d] => { results := [.lit (.bool true)], args := [d] }
  | _ => none }
def lexisTokensRow : OpenClaim := { program := "ytepebjhnefhciaa", sum := "50bc331bf3e3b4c7cda368c75a341e8086d4ccc5e0a2a61b20e53824831c5f1a", func := "veilstone/veilstonelaw01.LexisTokens", spec := "lexisTokens", unfollowed := true, recurses := true, apart := false }
def LexisTokensSaid : Prop := lexisTokensRow.holds Try.pinned (OpenSpec.ofChange lexisTokensSpec)

/-- ITS FALSE NEIGHBOUR: 'it returns false'. Refute it at one input. -/
def lexisTokensWrong : ChangeSpec := { name := "lexisTokens", fn := fun _ => fun
  | [d] => { results := [.lit (.bool false)], args := [d] }
  | _ => none }
def LexisTokensWrongFalsely : Prop := lexisTokensRow.holds Try.pinned (OpenSpec.ofChange lexisTokensWrong)

/-- 'veilstonelaw01.LexisJoins': WHATEVER THE INPUT: true; the input reads as it did. -/
def lexisJoinsSpec : ChangeSpec := { name := "lexisJoins", fn := fun _ => fun
  | [d] => { results := [.lit (.bool true)], args := [d] }
  | _ => none }
def lexisJoinsRow : OpenClaim := { program := "ytepebjhnefhciaa", sum := "50bc331bf3e3b4c7cda368c75a341e8086d4ccc5e0a2a61b20e53824831c5f1a", func := "veilstone/veilstonelaw01.LexisJoins", spec := "lexisJoins", unfollowed := true, recurses := true, apart := false }
def LexisJoinsSaid : Prop := lexisJoinsRow.holds Try.pinned (OpenSpec.ofChange lexisJoinsSpec)

/-- ITS FALSE NEIGHBOUR: 'it returns false'. Refute it at one input. -/
def lexisJoinsWrong : ChangeSpec := { name := "lexisJoins", fn := fun _ => fun
  | [d] => { results := [.lit (.bool false)], args := [d] }
  | _ => none }
def LexisJoinsWrongFalsely : Prop := lexisJoinsRow.holds Try.pinned (OpenSpec.ofChange lexisJoinsWrong)

/-- 'veilstonelaw01.LexisBack': WHATEVER THE INPUT: true; the input reads as it did. -/
def lexisBackSpec : ChangeSpec := { name := "lexisBack", fn := fun _ => fun
  | [d] => { results := [.lit (.bool true)], args := [d] }
  | _ => none }
def lexisBackRow : OpenClaim := { program := "ytepebjhnefhciaa", sum := "50bc331bf3e3b4c7cda368c75a341e8086d4ccc5e0a2a61b20e53824831c5f1a", func := "veilstone/veilstonelaw01.LexisBack", spec := "lexisBack", unfollowed := true, recurses := true, apart := false }
def LexisBackSaid : Prop := lexisBackRow.holds Try.pinned (OpenSpec.ofChange lexisBackSpec)

/-- ITS FALSE NEIGHBOUR: 'it returns false'. Refute it at one input. -/
def lexisBackWrong : ChangeSpec := { name := "lexisBack", fn := fun _ => fun
  | [d] => { results := [.lit (.bool false)], args := [d] }
  | _ => none }
def LexisBackWrongFalsely : Prop := lexisBackRow.holds Try.pinned (OpenSpec.ofChange lexisBackWrong)

/-- 'veilstonelaw01.LexisAgain': WHATEVER THE INPUT: true; the input reads as it did. -/
def lexisAgainSpec : ChangeSpec := { name := "lexisAgain", fn := fun _ => fun
  | [d] => { results := [.lit (.bool true)], args := [d] }
  | _ => none }
def lexisAgainRow : OpenClaim := { program := "ytepebjhnefhciaa", sum := "50bc331bf3e3b4c7cda368c75a341e8086d4ccc5e0a2a61b20e53824831c5f1a", func := "veilstone/veilstonelaw01.LexisAgain", spec := "lexisAgain", unfollowed := true, recurses := true, apart := false }
def LexisAgainSaid : Prop := lexisAgainRow.holds Try.pinned (OpenSpec.ofChange lexisAgainSpec)

/-- ITS FALSE NEIGHBOUR: 'it returns false'. Refute it at one input. -/
def lexisAgainWrong : ChangeSpec := { name := "lexisAgain", fn := fun _ => fun
  | [d] => { results := [.lit (.bool false)], args := [d] }
  | _ => none }
def LexisAgainWrongFalsely : Prop := lexisAgainRow.holds Try.pinned (OpenSpec.ofChange lexisAgainWrong)

/-- 'veilstonelaw01.LexisPlaces': WHATEVER THE INPUT: true; the input reads as it did. -/
def lexisPlacesSpec : ChangeSpec := { name := "lexisPlaces", fn := fun _ => fun
  | [d] => { results := [.lit (.bool true)], args := [d] }
  | _ => none }
def lexisPlacesRow : OpenClaim := { program := "ytepebjhnefhciaa", sum := "50bc331bf3e3b4c7cda368c75a341e8086d4ccc5e0a2a61b20e53824831c5f1a", func := "veilstone/veilstonelaw01.LexisPlaces", spec := "lexisPlaces", unfollowed := true, recurses := true, apart := false }
def LexisPlacesSaid : Prop := lexisPlacesRow.holds Try.pinned (OpenSpec.ofChange lexisPlacesSpec)

/-- ITS FALSE NEIGHBOUR: 'it returns false'. Refute it at one input. -/
def lexisPlacesWrong : ChangeSpec := { name := "lexisPlaces", fn := fun _ => fun
  | [d] => { results := [.lit (.bool false)], args := [d] }
  | _ => none }
def LexisPlacesWrongFalsely : Prop := lexisPlacesRow.holds Try.pinned (OpenSpec.ofChange lexisPlacesWrong)

/-- 'veilstonelaw01.LexisRemarks': WHATEVER THE INPUT: true; the input reads as it did. -/
def lexisRemarksSpec : ChangeSpec := { name := "lexisRemarks", fn := fun _ => fun
  | [d1, d2, d3] => { results := [.lit (.bool true)], args := [d1, d2, d3] }
  | _ => none }
def lexisRemarksRow : OpenClaim := { program := "ytepebjhnefhciaa", sum := "50bc331bf3e3b4c7cda368c75a341e8086d4ccc5e0a2a61b20e53824831c5f1a", func := "veilstone/veilstonelaw01.LexisRemarks", spec := "lexisRemarks", unfollowed := true, recurses := true, apart := false }
def LexisRemarksSaid : Prop := lexisRemarksRow.holds Try.pinned (OpenSpec.ofChange lexisRemarksSpec)

/-- ITS FALSE NEIGHBOUR: 'it returns false'. Refute it at one input. -/
def lexisRemarksWrong : ChangeSpec := { name := "lexisRemarks", fn := fun _ => fun
  | [d1, d2, d3] => { results := [.lit (.bool false)], args := [d1, d2, d3] }
  | _ => none }
def LexisRemarksWrongFalsely : Prop := lexisRemarksRow.holds Try.pinned (OpenSpec.ofChange lexisRemarksWrong)

/-- 'veilstonelaw01.LexisPlace': WHATEVER THE INPUT: true; the input reads as it did. -/
def lexisPlaceSpec : ChangeSpec := { name := "lexisPlace", fn := fun _ => fun
  | [d1, d2] => { results := [.lit (.bool true)], args := [d1, d2] }
  | _ => none }
def lexisPlaceRow : OpenClaim := { program := "ytepebjhnefhciaa", sum := "50bc331bf3e3b4c7cda368c75a341e8086d4ccc5e0a2a61b20e53824831c5f1a", func := "veilstone/veilstonelaw01.LexisPlace", spec := "lexisPlace", unfollowed := true, recurses := true, apart := false }
def LexisPlaceSaid : Prop := lexisPlaceRow.holds Try.pinned (OpenSpec.ofChange lexisPlaceSpec)

/-- ITS FALSE NEIGHBOUR: 'it returns false'. Refute it at one input. -/
def lexisPlaceWrong : ChangeSpec := { name := "lexisPlace", fn := fun _ => fun
  | [d1, d2] => { results := [.lit (.bool false)], args := [d1, d2] }
  | _ => none }
def LexisPlaceWrongFalsely : Prop := lexisPlaceRow.holds Try.pinned (OpenSpec.ofChange lexisPlaceWrong)

/-- 'veilstonelaw01.LexisLong': WHATEVER THE INPUT: true; the input reads as it did. -/
def lexisLongSpec : ChangeSpec := { name := "lexisLong", fn := fun _ => fun
  | [d1, d2] => { results := [.lit (.bool true)], args := [d1, d2] }
  | _ => none }
def lexisLongRow : OpenClaim := { program := "ytepebjhnefhciaa", sum := "50bc331bf3e3b4c7cda368c75a341e8086d4ccc5e0a2a61b20e53824831c5f1a", func := "veilstone/veilstonelaw01.LexisLong", spec := "lexisLong", unfollowed := true, recurses := true, apart := false }
def LexisLongSaid : Prop := lexisLongRow.holds Try.pinned (OpenSpec.ofChange lexisLongSpec)

/-- ITS FALSE NEIGHBOUR: 'it returns false'. Refute it at one input. -/
def lexisLongWrong : ChangeSpec := { name := "lexisLong", fn := fun _ => fun
  | [d1, d2] => { results := [.lit (.bool false)], args := [d1, d2] }
  | _ => none }
def LexisLongWrongFalsely : Prop := lexisLongRow.holds Try.pinned (OpenSpec.ofChange lexisLongWrong)

/- THE SECOND FORM. 'bulk': how many values and letters a reading holds, each counted each time it is reached (what is shared counts as often as it is met; a slice's spare places count too). A statement '..UptoSaid' is the law's where the arguments, and the package variables that the reading takes, are together of bulk at most 1048576: NARROWER than '..Said'. Prove '..Said' where nothing that the law and all that it calls make is longer than what came in: it says more and counts as full. Else prove '..UptoSaid'. A law counts once. -/
mutual
def uptoBulk {H : Type} : DataW H → Nat
  | .lit (.string bytes) => bytes.length + 1
  | .lit _ => 1
  | .nil => 1
  | .ptr d => uptoBulk d + 1
  | .slice elems spare => uptoBulkAll elems + uptoBulkAll spare + 1
  | .agg parts => uptoBulkAll parts + 1
  | .iface _ d => uptoBulk d + 1
  | .map entries => uptoBulkEntries entries + 1
  | .held _ => 1
def uptoBulkAll {H : Type} : List (DataW H) → Nat
  | [] => 0
  | d :: r => uptoBulk d + uptoBulkAll r
def uptoBulkEntries {H : Type} : List (Lit × DataW H) → Nat
  | [] => 0
  | x :: r => uptoBulkEntry x + uptoBulkEntries r
def uptoBulkEntry {H : Type} : Lit × DataW H → Nat
  | (.string bytes, d) => bytes.length + uptoBulk d + 1
  | (_, d) => uptoBulk d + 1
 end
def uptoSmall : (H : Type) → List (DataW H) → Bool := fun _ ds => decide (uptoBulkAll ds ≤ 1048576)
def OpenSpec.upto (s : _root_.Go.ChangeSpec) : _root_.Go.OpenSpec := { _root_.Go.OpenSpec.ofChange s with cond := some uptoSmall }

/-- 'veilstonelaw01.LexisTokens', WHERE WHAT IT READS IS OF BULK AT MOST 1048576: true; the input reads as it did. -/
def lexisTokensUptoRow : OpenClaim := { program := "ytepebjhnefhciaa", sum := "50bc331bf3e3b4c7cda368c75a341e8086d4ccc5e0a2a61b20e53824831c5f1a", func := "veilstone/veilstonelaw01.LexisTokens", spec := "lexisTokens", unfollowed := true, recurses := true, apart := false, narrowed := true }
def LexisTokensUptoSaid : Prop := lexisTokensUptoRow.holds Try.pinned (OpenSpec.upto lexisTokensSpec)

/-- 'veilstonelaw01.LexisJoins', WHERE WHAT IT READS IS OF BULK AT MOST 1048576: true; the input reads as it did. -/
def lexisJoinsUptoRow : OpenClaim := { program := "ytepebjhnefhciaa", sum := "50bc331bf3e3b4c7cda368c75a341e8086d4ccc5e0a2a61b20e53824831c5f1a", func := "veilstone/veilstonelaw01.LexisJoins", spec := "lexisJoins", unfollowed := true, recurses := true, apart := false, narrowed := true }
def LexisJoinsUptoSaid : Prop := lexisJoinsUptoRow.holds Try.pinned (OpenSpec.upto lexisJoinsSpec)

/-- 'veilstonelaw01.LexisBack', WHERE WHAT IT READS IS OF BULK AT MOST 1048576: true; the input reads as it did. -/
def lexisBackUptoRow : OpenClaim := { program := "ytepebjhnefhciaa", sum := "50bc331bf3e3b4c7cda368c75a341e8086d4ccc5e0a2a61b20e53824831c5f1a", func := "veilstone/veilstonelaw01.LexisBack", spec := "lexisBack", unfollowed := true, recurses := true, apart := false, narrowed := true }
def LexisBackUptoSaid : Prop := lexisBackUptoRow.holds Try.pinned (OpenSpec.upto lexisBackSpec)

/-- 'veilstonelaw01.LexisAgain', WHERE WHAT IT READS IS OF BULK AT MOST 1048576: true; the input reads as it did. -/
def lexisAgainUptoRow : OpenClaim := { program := "ytepebjhnefhciaa", sum := "50bc331bf3e3b4c7cda368c75a341e8086d4ccc5e0a2a61b20e53824831c5f1a", func := "veilstone/veilstonelaw01.LexisAgain", spec := "lexisAgain", unfollowed := true, recurses := true, apart := false, narrowed := true }
def LexisAgainUptoSaid : Prop := lexisAgainUptoRow.holds Try.pinned (OpenSpec.upto lexisAgainSpec)

/-- 'veilstonelaw01.LexisPlaces', WHERE WHAT IT READS IS OF BULK AT MOST 1048576: true; the input reads as it did. -/
def lexisPlacesUptoRow : OpenClaim := { program := "ytepebjhnefhciaa", sum := "50bc331bf3e3b4c7cda368c75a341e8086d4ccc5e0a2a61b20e53824831c5f1a", func := "veilstone/veilstonelaw01.LexisPlaces", spec := "lexisPlaces", unfollowed := true, recurses := true, apart := false, narrowed := true }
def LexisPlacesUptoSaid : Prop := lexisPlacesUptoRow.holds Try.pinned (OpenSpec.upto lexisPlacesSpec)

/-- 'veilstonelaw01.LexisRemarks', WHERE WHAT IT READS IS OF BULK AT MOST 1048576: true; the input reads as it did. -/
def lexisRemarksUptoRow : OpenClaim := { program := "ytepebjhnefhciaa", sum := "50bc331bf3e3b4c7cda368c75a341e8086d4ccc5e0a2a61b20e53824831c5f1a", func := "veilstone/veilstonelaw01.LexisRemarks", spec := "lexisRemarks", unfollowed := true, recurses := true, apart := false, narrowed := true }
def LexisRemarksUptoSaid : Prop := lexisRemarksUptoRow.holds Try.pinned (OpenSpec.upto lexisRemarksSpec)

/-- 'veilstonelaw01.LexisPlace', WHERE WHAT IT READS IS OF BULK AT MOST 1048576: true; the input reads as it did. -/
def lexisPlaceUptoRow : OpenClaim := { program := "ytepebjhnefhciaa", sum := "50bc331bf3e3b4c7cda368c75a341e8086d4ccc5e0a2a61b20e53824831c5f1a", func := "veilstone/veilstonelaw01.LexisPlace", spec := "lexisPlace", unfollowed := true, recurses := true, apart := false, narrowed := true }
def LexisPlaceUptoSaid : Prop := lexisPlaceUptoRow.holds Try.pinned (OpenSpec.upto lexisPlaceSpec)

/-- 'veilstonelaw01.LexisLong', WHERE WHAT IT READS IS OF BULK AT MOST 1048576: true; the input reads as it did. -/
def lexisLongUptoRow : OpenClaim := { program := "ytepebjhnefhciaa", sum := "50bc331bf3e3b4c7cda368c75a341e8086d4ccc5e0a2a61b20e53824831c5f1a", func := "veilstone/veilstonelaw01.LexisLong", spec := "lexisLong", unfollowed := true, recurses := true, apart := false, narrowed := true }
def LexisLongUptoSaid : Prop := lexisLongUptoRow.holds Try.pinned (OpenSpec.upto lexisLongSpec)

end Rows
end Go.Proofs.Ytepebjhnefhciaa
