/-
  NARROWER THAN 'FOR EVERY INPUT', by the rows' own cells (each row's printed sentence says how): RenameAxiomsSpec: loops, laid · BaseNewSpec: loops, laid · BasePartsSpec: loops, laid · BaseSetsSpec: loops, laid.
  DERIVED. THE GIVEN ROWS OF THIS SEAT. 4 by the template 'for every input the law returns true; each argument reads behind the call as it read before'; 0 by the template 'total and deterministic' (their statements: YtfhoddcminbffaaGreatDoorTotals.lean).
  GIVEN WITH THE SEED: the statements are not yours to turn. If you find one false, say at which input.
  Laid BY PROGRAM, IN A SANDBOX (cutbox-rows.mjs): the forced cells as the released guide's own fill.sh prints them over the translation 6b507b15d2cc7b7c… (all of the seat's roots in one cut). By AI agents, Wed Nov 11 2026. No macro, syntax, notation, axiom, sorry.
-/
import Derived.Test.YtfhoddcminbffaaGreatDoorChecked
import GoSem.Claim
import GoSem.ClaimJoined
import GoSem.ClaimMapViews
import Derived.JoinedTies
import Derived.KernelRfl
namespace Go.Proofs.YtfhoddcminbffaaGreatDoor
/- THE CELL 'sum', in the pinned program and in every row, IS THE sha256 OF THE DUMP (.gsa) THAT YtfhoddcminbffaaGreatDoorProg.lean LOADS. Nothing in Lean hashes anything: it is a label: what it is worth is what the hold of that sum in a sandbox is worth. -/
noncomputable def Tryz.pinned : Pinned := { name := "ytfhoddcminbffaagreatdoor", sum := "6b507b15d2cc7b7c23609628cb9f3ce9e2b5f4cfe6d019ee8a218f930fa0b51a", checked := Tryz.checked }
namespace Rows
def none {H : Type} : Left H := { results := [], args := [] }

/- WHAT THE LISTED PACKAGE-LEVEL VARIABLES READ AS WHEN THE CALL BEGINS. Each datum BY PROGRAM (the guide's laid-datum.mjs) off the statement by which the dump's own 'gosem.cut.vars' lays the variable. In a bare row this is a premise. The card (YtfhoddcminbffaaGreatDoorCards.lean) ties it to the program's text. -/
def laid_veilstone_terms_needs {H : Type} : DataW H := .agg [.agg [.lit (.int .i64 0), .lit (.int .i64 0), .lit (.int .i64 0), .lit (.bool false)], .agg [.lit (.int .i64 0), .lit (.int .i64 0), .lit (.int .i64 0), .lit (.bool false)], .agg [.lit (.int .i64 0), .lit (.int .i64 0), .lit (.int .i64 0), .lit (.bool false)], .agg [.lit (.int .i64 1), .lit (.int .i64 0), .lit (.int .i64 0), .lit (.bool false)], .agg [.lit (.int .i64 2), .lit (.int .i64 0), .lit (.int .i64 0), .lit (.bool false)], .agg [.lit (.int .i64 0), .lit (.int .i64 2), .lit (.int .i64 8), .lit (.bool false)], .agg [.lit (.int .i64 1), .lit (.int .i64 1), .lit (.int .i64 1), .lit (.bool false)], .agg [.lit (.int .i64 1), .lit (.int .i64 0), .lit (.int .i64 0), .lit (.bool true)]]
def laid_veilstone_terms_uses {H : Type} : DataW H := .agg [.agg [.lit (.bool false), .lit (.bool false), .lit (.bool false), .lit (.bool false), .lit (.bool false), .lit (.int .i64 0), .lit (.int .i64 0)], .agg [.lit (.bool true), .lit (.bool true), .lit (.bool false), .lit (.bool false), .lit (.bool false), .lit (.int .i64 0), .lit (.int .i64 0)], .agg [.lit (.bool true), .lit (.bool true), .lit (.bool false), .lit (.bool false), .lit (.bool false), .lit (.int .i64 0), .lit (.int .i64 0)], .agg [.lit (.bool true), .lit (.bool true), .lit (.bool false), .lit (.bool false), .lit (.bool false), .lit (.int .i64 0), .lit (.int .i64 0)], .agg [.lit (.bool false), .lit (.bool true), .lit (.bool true), .lit (.bool false), .lit (.bool false), .lit (.int .i64 0), .lit (.int .i64 0)], .agg [.lit (.bool false), .lit (.bool false), .lit (.bool true), .lit (.bool false), .lit (.bool false), .lit (.int .i64 1), .lit (.int .i64 1)], .agg [.lit (.bool false), .lit (.bool false), .lit (.bool true), .lit (.bool false), .lit (.bool false), .lit (.int .i64 2), .lit (.int .i64 4)], .agg [.lit (.bool false), .lit (.bool false), .lit (.bool true), .lit (.bool false), .lit (.bool false), .lit (.int .i64 0), .lit (.int .i64 0)], .agg [.lit (.bool false), .lit (.bool true), .lit (.bool false), .lit (.bool true), .lit (.bool false), .lit (.int .i64 0), .lit (.int .i64 0)], .agg [.lit (.bool false), .lit (.bool false), .lit (.bool true), .lit (.bool true), .lit (.bool true), .lit (.int .i64 0), .lit (.int .i64 0)]]

/-- 'veilstonelaw33.RenameAxiomsSpec': WHATEVER THE INPUT: true; the input reads as it did. -/
def renameAxiomsSpecSpec : ChangeSpec := { name := "renameAxiomsSpec", fn := fun _ => fun
  | [d1, d2, d3, d4] => { results := [.lit (.bool true)], args := [d1, d2, d3, d4] }
  | _ => none }
def renameAxiomsSpecRow : OpenClaim := { program := "ytfhoddcminbffaagreatdoor", sum := "6b507b15d2cc7b7c23609628cb9f3ce9e2b5f4cfe6d019ee8a218f930fa0b51a", func := "veilstone/veilstonelaw33.RenameAxiomsSpec", spec := "renameAxiomsSpec", inPlace := ["internal/bytealg.IndexByteString", "internal/bytealg.IndexString", "internal/bytealg.abigen_runtime_cmpstring"], unfollowed := true, recurses := true, named := ["internal/bytealg.MaxLen", "veilstone/terms.uses", "veilstone/terms.needs"], loops := true, plainKeys := false, apart := false, laid := [("veilstone/terms.needs", laid_veilstone_terms_needs), ("veilstone/terms.uses", laid_veilstone_terms_uses)] }
def RenameAxiomsSpecSaid : Prop := renameAxiomsSpecRow.holds Tryz.pinned (OpenSpec.ofChange renameAxiomsSpecSpec)

/-- ITS FALSE NEIGHBOUR: 'it returns false'. Refute it at one input. -/
def renameAxiomsSpecWrong : ChangeSpec := { name := "renameAxiomsSpec", fn := fun _ => fun
  | [d1, d2, d3, d4] => { results := [.lit (.bool false)], args := [d1, d2, d3, d4] }
  | _ => none }
def RenameAxiomsSpecWrongFalsely : Prop := renameAxiomsSpecRow.holds Tryz.pinned (OpenSpec.ofChange renameAxiomsSpecWrong)

/-- 'veilstonelaw07.BaseNewSpec': WHATEVER THE INPUT: true; the input reads as it did. -/
def baseNewSpecSpec : ChangeSpec := { name := "baseNewSpec", fn := fun _ => fun
  | [d] => { results := [.lit (.bool true)], args := [d] }
  | _ => none }
def baseNewSpecRow : OpenClaim := { program := "ytfhoddcminbffaagreatdoor", sum := "6b507b15d2cc7b7c23609628cb9f3ce9e2b5f4cfe6d019ee8a218f930fa0b51a", func := "veilstone/veilstonelaw07.BaseNewSpec", spec := "baseNewSpec", inPlace := ["internal/bytealg.IndexByteString", "internal/bytealg.IndexString", "internal/bytealg.abigen_runtime_cmpstring"], unfollowed := true, recurses := true, named := ["veilstone/terms.uses", "internal/bytealg.MaxLen", "veilstone/terms.needs"], loops := true, plainKeys := false, apart := false, laid := [("veilstone/terms.needs", laid_veilstone_terms_needs), ("veilstone/terms.uses", laid_veilstone_terms_uses)] }
def BaseNewSpecSaid : Prop := baseNewSpecRow.holds Tryz.pinned (OpenSpec.ofChange baseNewSpecSpec)

/-- ITS FALSE NEIGHBOUR: 'it returns false'. Refute it at one input. -/
def baseNewSpecWrong : ChangeSpec := { name := "baseNewSpec", fn := fun _ => fun
  | [d] => { results := [.lit (.bool false)], args := [d] }
  | _ => none }
def BaseNewSpecWrongFalsely : Prop := baseNewSpecRow.holds Tryz.pinned (OpenSpec.ofChange baseNewSpecWrong)

/-- 'veilstonelaw07.BasePartsSpec': WHATEVER THE INPUT: true; the input reads as it did. -/
def basePartsSpecSpec : ChangeSpec := { name := "basePartsSpec", fn := fun _ => fun
  | [d1, d2, d3, d4] => { results := [.lit (.bool true)], args := [d1, d2, d3, d4] }
  | _ => none }
def basePartsSpecRow : OpenClaim := { program := "ytfhoddcminbffaagreatdoor", sum := "6b507b15d2cc7b7c23609628cb9f3ce9e2b5f4cfe6d019ee8a218f930fa0b51a", func := "veilstone/veilstonelaw07.BasePartsSpec", spec := "basePartsSpec", inPlace := ["internal/bytealg.IndexByteString", "internal/bytealg.IndexString", "internal/bytealg.abigen_runtime_cmpstring"], unfollowed := true, recurses := true, named := ["veilstone/terms.uses", "internal/bytealg.MaxLen", "veilstone/terms.needs"], loops := true, plainKeys := false, apart := false, laid := [("veilstone/terms.needs", laid_veilstone_terms_needs), ("veilstone/terms.uses", laid_veilstone_terms_uses)] }
def BasePartsSpecSaid : Prop := basePartsSpecRow.holds Tryz.pinned (OpenSpec.ofChange basePartsSpecSpec)

/-- ITS FALSE NEIGHBOUR: 'it returns false'. Refute it at one input. -/
def basePartsSpecWrong : ChangeSpec := { name := "basePartsSpec", fn := fun _ => fun
  | [d1, d2, d3, d4] => { results := [.lit (.bool false)], args := [d1, d2, d3, d4] }
  | _ => none }
def BasePartsSpecWrongFalsely : Prop := basePartsSpecRow.holds Tryz.pinned (OpenSpec.ofChange basePartsSpecWrong)

/-- 'veilstonelaw07.BaseSetsSpec': WHATEVER THE INPUT: true; the input reads as it did. -/
def baseSetsSpecSpec : ChangeSpec := { name := "baseSetsSpec", fn := fun _ => fun
  | [d1, d2] => { results := [.lit (.bool true)], args := [d1, d2] }
  | _ => none }
def baseSetsSpecRow : OpenClaim := { program := "ytfhoddcminbffaagreatdoor", sum := "6b507b15d2cc7b7c23609628cb9f3ce9e2b5f4cfe6d019ee8a218f930fa0b51a", func := "veilstone/veilstonelaw07.BaseSetsSpec", spec := "baseSetsSpec", inPlace := ["internal/bytealg.IndexByteString", "internal/bytealg.IndexString", "internal/bytealg.abigen_runtime_cmpstring"], unfollowed := true, recurses := true, named := ["veilstone/terms.uses", "internal/bytealg.MaxLen", "veilstone/terms.needs"], loops := true, plainKeys := false, apart := false, laid := [("veilstone/terms.needs", laid_veilstone_terms_needs), ("veilstone/terms.uses", laid_veilstone_terms_uses)] }
def BaseSetsSpecSaid : Prop := baseSetsSpecRow.holds Tryz.pinned (OpenSpec.ofChange baseSetsSpecSpec)

/-- ITS FALSE NEIGHBOUR: 'it returns false'. Refute it at one input. -/
def baseSetsSpecWrong : ChangeSpec := { name := "baseSetsSpec", fn := fun _ => fun
  | [d1, d2] => { results := [.lit (.bool false)], args := [d1, d2] }
  | _ => none }
def BaseSetsSpecWrongFalsely : Prop := baseSetsSpecRow.holds Tryz.pinned (OpenSpec.ofChange baseSetsSpecWrong)

/- THE SECOND FORM. 'bulk': how many values and letters a reading holds, each counted each time it is reached (what is shared counts as often as it is met; a slice's spare places count too). A statement '..UptoSaid' is the law's where the arguments, and the package variables that the reading takes, are together of bulk at most 1048576: NARROWER than '..Said'. Prove '..Said' where nothing that the law and all that it calls make is longer than what came in: it says more and counts as full. Else prove '..UptoSaid'. A law counts once. -/
mutual
def uptoBulk {H : Type} : DataW H → Nat
  | .lit (.string bytes) => bytes.length + 1
  | .lit _ => 1
  | .nil => 1
  | .ptr d => uptoBulk d + 1
  | .slice elems spare => uptoBulkAll elems + uptoBulkAll spare + 1
  | .agg parts => uptoBulkAll parts + 1
  | .iface _ d => uptoBulk d + 1
  | .map entries => uptoBulkEntries entries + 1
  | .held _ => 1
def uptoBulkAll {H : Type} : List (DataW H) → Nat
  | [] => 0
  | d :: r => uptoBulk d + uptoBulkAll r
def uptoBulkEntries {H : Type} : List (Lit × DataW H) → Nat
  | [] => 0
  | x :: r => uptoBulkEntry x + uptoBulkEntries r
def uptoBulkEntry {H : Type} : Lit × DataW H → Nat
  | (.string bytes, d) => bytes.length + uptoBulk d + 1
  | (_, d) => uptoBulk d + 1
 end
def uptoSmall : (H : Type) → List (DataW H) → Bool := fun _ ds => decide (uptoBulkAll ds ≤ 1048576)
def OpenSpec.upto (s : _root_.Go.ChangeSpec) : _root_.Go.OpenSpec := { _root_.Go.OpenSpec.ofChange s with cond := some uptoSmall }

/-- 'veilstonelaw33.RenameAxiomsSpec', WHERE WHAT IT READS IS OF BULK AT MOST 1048576: true; the input reads as it did. -/
def renameAxiomsSpecUptoRow : OpenClaim := { program := "ytfhoddcminbffaagreatdoor", sum := "6b507b15d2cc7b7c23609628cb9f3ce9e2b5f4cfe6d019ee8a218f930fa0b51a", func := "veilstone/veilstonelaw33.RenameAxiomsSpec", spec := "renameAxiomsSpec", inPlace := ["internal/bytealg.IndexByteString", "internal/bytealg.IndexString", "internal/bytealg.abigen_runtime_cmpstring"], unfollowed := true, recurses := true, named := ["internal/bytealg.MaxLen", "veilstone/terms.uses", "veilstone/terms.needs"], loops := true, plainKeys := false, apart := false, laid := [("veilstone/terms.needs", laid_veilstone_terms_needs), ("veilstone/terms.uses", laid_veilstone_terms_uses)], narrowed := true }
def RenameAxiomsSpecUptoSaid : Prop := renameAxiomsSpecUptoRow.holds Tryz.pinned (OpenSpec.upto renameAxiomsSpecSpec)

/-- 'veilstonelaw07.BaseNewSpec', WHERE WHAT IT READS IS OF BULK AT MOST 1048576: true; the input reads as it did. -/
def baseNewSpecUptoRow : OpenClaim := { program := "ytfhoddcminbffaagreatdoor", sum := "6b507b15d2cc7b7c23609628cb9f3ce9e2b5f4cfe6d019ee8a218f930fa0b51a", func := "veilstone/veilstonelaw07.BaseNewSpec", spec := "baseNewSpec", inPlace := ["internal/bytealg.IndexByteString", "internal/bytealg.IndexString", "internal/bytealg.abigen_runtime_cmpstring"], unfollowed := true, recurses := true, named := ["veilstone/terms.uses", "internal/bytealg.MaxLen", "veilstone/terms.needs"], loops := true, plainKeys := false, apart := false, laid := [("veilstone/terms.needs", laid_veilstone_terms_needs), ("veilstone/terms.uses", laid_veilstone_terms_uses)], narrowed := true }
def BaseNewSpecUptoSaid : Prop := baseNewSpecUptoRow.holds Tryz.pinned (OpenSpec.upto baseNewSpecSpec)

/-- 'veilstonelaw07.BasePartsSpec', WHERE WHAT IT READS IS OF BULK AT MOST 1048576: true; the input reads as it did. -/
def basePartsSpecUptoRow : OpenClaim := { program := "ytfhoddcminbffaagreatdoor", sum := "6b507b15d2cc7b7c23609628cb9f3ce9e2b5f4cfe6d019ee8a218f930fa0b51a", func := "veilstone/veilstonelaw07.BasePartsSpec", spec := "basePartsSpec", inPlace := ["internal/bytealg.IndexByteString", "internal/bytealg.IndexString", "internal/bytealg.abigen_runtime_cmpstring"], unfollowed := true, recurses := true, named := ["veilstone/terms.uses", "internal/bytealg.MaxLen", "veilstone/terms.needs"], loops := true, plainKeys := false, apart := false, laid := [("veilstone/terms.needs", laid_veilstone_terms_needs), ("veilstone/terms.uses", laid_veilstone_terms_uses)], narrowed := true }
def BasePartsSpecUptoSaid : Prop := basePartsSpecUptoRow.holds Tryz.pinned (OpenSpec.upto basePartsSpecSpec)

/-- 'veilstonelaw07.BaseSetsSpec', WHERE WHAT IT READS IS OF BULK AT MOST 1048576: true; the input reads as it did. -/
def baseSetsSpecUptoRow : OpenClaim := { program := "ytfhoddcminbffaagreatdoor", sum := "6b507b15d2cc7b7c23609628cb9f3ce9e2b5f4cfe6d019ee8a218f930fa0b51a", func := "veilstone/veilstonelaw07.BaseSetsSpec", spec := "baseSetsSpec", inPlace := ["internal/bytealg.IndexByteString", "internal/bytealg.IndexString", "internal/bytealg.abigen_runtime_cmpstring"], unfollowed := true, recurses := true, named := ["veilstone/terms.uses", "internal/bytealg.MaxLen", "veilstone/terms.needs"], loops := true, plainKeys := false, apart := false, laid := [("veilstone/terms.needs", laid_veilstone_terms_needs), ("veilstone/terms.uses", laid_veilstone_terms_uses)], narrowed := true }
def BaseSetsSpecUptoSaid : Prop := baseSetsSpecUptoRow.holds Tryz.pinned (OpenSpec.upto baseSetsSpecSpec)

end Rows
end Go.Proofs.YtfhoddcminbffaaGreatDoor
