/-
  NARROWER THAN 'FOR EVERY INPUT', by the rows' own cells (each row's printed sentence says how): RenameNothing: loops, laid · RenameAxiomsSpec: loops, laid · RenameTwice: loops, laid · RenameComposeSpec: laid · RenameApart: loops, laid · RenameBack: loops, laid.
  DERIVED. THE GIVEN ROWS OF THIS SEAT. 6 by the template 'for every input the law returns true; each argument reads behind the call as it read before'; 0 by the template 'total and deterministic' (their statements: YtpecmehekandgaaGreatDoorTotals.lean).
  GIVEN WITH THE SEED: the statements are not yours to turn. If you find one false, say at which input.
  Laid BY PROGRAM, IN A SANDBOX (cutbox-rows.mjs): the forced cells as the released guide's own fill.sh prints them over the translation 8475f52ca0d4349b… (all of the seat's roots in one cut). By AI agents, Wed Nov 11 2026. No macro, syntax, notation, axiom, sorry.
-/
import Derived.Test.YtpecmehekandgaaGreatDoorChecked
import GoSem.Claim
import GoSem.ClaimJoined
import GoSem.ClaimMapViews
import Derived.JoinedTies
import Derived.KernelRfl
namespace Go.Proofs.YtpecmehekandgaaGreatDoor
/- THE CELL 'sum', in the pinned program and in every row, IS THE sha256 OF THE DUMP (.gsa) THAT YtpecmehekandgaaGreatDoorProg.lean LOADS. Nothing in Lean hashes anything: it is a label: what it is worth is what the hold of that sum in a sandbox is worth. -/
noncomputable def Tryz.pinned : Pinned := { name := "ytpecmehekandgaagreatdoor", sum := "8475f52ca0d4349bce0462d46f741c4ec44107598053e000c7f72b040fc2dce1", checked := Tryz.checked }
namespace Rows
def none {H : Type} : Left H := { results := [], args := [] }

/- WHAT THE LISTED PACKAGE-LEVEL VARIABLES READ AS WHEN THE CALL BEGINS. Each datum BY PROGRAM (the guide's laid-datum.mjs) off the statement by which the dump's own 'gosem.cut.vars' lays the variable. In a bare row this is a premise. The card (YtpecmehekandgaaGreatDoorCards.lean) ties it to the program's text. -/
def laid_veilstone_terms_needs {H : Type} : DataW H := .agg [.agg [.lit (.int .i64 0), .lit (.int .i64 0), .lit (.int .i64 0), .lit (.bool false)], .agg [.lit (.int .i64 0), .lit (.int .i64 0), .lit (.int .i64 0), .lit (.bool false)], .agg [.lit (.int .i64 0), .lit (.int .i64 0), .lit (.int .i64 0), .lit (.bool false)], .agg [.lit (.int .i64 1), .lit (.int .i64 0), .lit (.int .i64 0), .lit (.bool false)], .agg [.lit (.int .i64 2), .lit (.int .i64 0), .lit (.int .i64 0), .lit (.bool false)], .agg [.lit (.int .i64 0), .lit (.int .i64 2), .lit (.int .i64 8), .lit (.bool false)], .agg [.lit (.int .i64 1), .lit (.int .i64 1), .lit (.int .i64 1), .lit (.bool false)], .agg [.lit (.int .i64 1), .lit (.int .i64 0), .lit (.int .i64 0), .lit (.bool true)]]
def laid_veilstone_terms_uses {H : Type} : DataW H := .agg [.agg [.lit (.bool false), .lit (.bool false), .lit (.bool false), .lit (.bool false), .lit (.bool false), .lit (.int .i64 0), .lit (.int .i64 0)], .agg [.lit (.bool true), .lit (.bool true), .lit (.bool false), .lit (.bool false), .lit (.bool false), .lit (.int .i64 0), .lit (.int .i64 0)], .agg [.lit (.bool true), .lit (.bool true), .lit (.bool false), .lit (.bool false), .lit (.bool false), .lit (.int .i64 0), .lit (.int .i64 0)], .agg [.lit (.bool true), .lit (.bool true), .lit (.bool false), .lit (.bool false), .lit (.bool false), .lit (.int .i64 0), .lit (.int .i64 0)], .agg [.lit (.bool false), .lit (.bool true), .lit (.bool true), .lit (.bool false), .lit (.bool false), .lit (.int .i64 0), .lit (.int .i64 0)], .agg [.lit (.bool false), .lit (.bool false), .lit (.bool true), .lit (.bool false), .lit (.bool false), .lit (.int .i64 1), .lit (.int .i64 1)], .agg [.lit (.bool false), .lit (.bool false), .lit (.bool true), .lit (.bool false), .lit (.bool false), .lit (.int .i64 2), .lit (.int .i64 4)], .agg [.lit (.bool false), .lit (.bool false), .lit (.bool true), .lit (.bool false), .lit (.bool false), .lit (.int .i64 0), .lit (.int .i64 0)], .agg [.lit (.bool false), .lit (.bool true), .lit (.bool false), .lit (.bool true), .lit (.bool false), .lit (.int .i64 0), .lit (.int .i64 0)], .agg [.lit (.bool false), .lit (.bool false), .lit (.bool true), .lit (.bool true), .lit (.bool true), .lit (.int .i64 0), .lit (.int .i64 0)]]

/-- 'veilstonelaw33.RenameNothing': WHATEVER THE INPUT: true; the input reads as it did. -/
def renameNothingSpec : ChangeSpec := { name := "renameNothing", fn := fun _ => fun
  | [d1, d2] => { results := [.lit (.bool true)], args := [d1, d2] }
  | _ => none }
def renameNothingRow : OpenClaim := { program := "ytpecmehekandgaagreatdoor", sum := "8475f52ca0d4349bce0462d46f741c4ec44107598053e000c7f72b040fc2dce1", func := "veilstone/veilstonelaw33.RenameNothing", spec := "renameNothing", inPlace := ["internal/bytealg.IndexByteString", "internal/bytealg.IndexString", "internal/bytealg.abigen_runtime_cmpstring"], unfollowed := true, recurses := true, named := ["internal/bytealg.MaxLen", "veilstone/terms.uses", "veilstone/terms.needs"], loops := true, plainKeys := false, apart := false, laid := [("veilstone/terms.needs", laid_veilstone_terms_needs), ("veilstone/terms.uses", laid_veilstone_terms_uses)] }
def RenameNothingSaid : Prop := renameNothingRow.holds Tryz.pinned (OpenSpec.ofChange renameNothingSpec)

/-- ITS FALSE NEIGHBOUR: 'it returns false'. Refute it at one input. -/
def renameNothingWrong : ChangeSpec := { name := "renameNothing", fn := fun _ => fun
  | [d1, d2] => { results := [.lit (.bool false)], args := [d1, d2] }
  | _ => none }
def RenameNothingWrongFalsely : Prop := renameNothingRow.holds Tryz.pinned (OpenSpec.ofChange renameNothingWrong)

/-- 'veilstonelaw33.RenameAxiomsSpec': WHATEVER THE INPUT: true; the input reads as it did. -/
def renameAxiomsSpecSpec : ChangeSpec := { name := "renameAxiomsSpec", fn := fun _ => fun
  | [d1, d2, d3, d4] => { results := [.lit (.bool true)], args := [d1, d2, d3, d4] }
  | _ => none }
def renameAxiomsSpecRow : OpenClaim := { program := "ytpecmehekandgaagreatdoor", sum := "8475f52ca0d4349bce0462d46f741c4ec44107598053e000c7f72b040fc2dce1", func := "veilstone/veilstonelaw33.RenameAxiomsSpec", spec := "renameAxiomsSpec", inPlace := ["internal/bytealg.IndexByteString", "internal/bytealg.IndexString", "internal/bytealg.abigen_runtime_cmpstring"], unfollowed := true, recurses := true, named := ["internal/bytealg.MaxLen", "veilstone/terms.uses", "veilstone/terms.needs"], loops := true, plainKeys := false, apart := false, laid := [("veilstone/terms.needs", laid_veilstone_terms_needs), ("veilstone/terms.uses", laid_veilstone_terms_uses)] }
def RenameAxiomsSpecSaid : Prop := renameAxiomsSpecRow.holds Tryz.pinned (OpenSpec.ofChange renameAxiomsSpecSpec)

/-- ITS FALSE NEIGHBOUR: 'it returns false'. Refute it at one input. -/
def renameAxiomsSpecWrong : ChangeSpec := { name := "renameAxiomsSpec", fn := fun _ => fun
  | [d1, d2, d3, d4] => { results := [.lit (.bool false)], args := [d1, d2, d3, d4] }
  | _ => none }
def RenameAxiomsSpecWrongFalsely : Prop := renameAxiomsSpecRow.holds Tryz.pinned (OpenSpec.ofChange renameAxiomsSpecWrong)

/-- 'veilstonelaw33.RenameTwice': WHATEVER THE INPUT: true; the input reads as it did. -/
def renameTwiceSpec : ChangeSpec := { name := "renameTwice", fn := fun _ => fun
  | [d1, d2, d3, d4, d5] => { results := [.lit (.bool true)], args := [d1, d2, d3, d4, d5] }
  | _ => none }
def renameTwiceRow : OpenClaim := { program := "ytpecmehekandgaagreatdoor", sum := "8475f52ca0d4349bce0462d46f741c4ec44107598053e000c7f72b040fc2dce1", func := "veilstone/veilstonelaw33.RenameTwice", spec := "renameTwice", inPlace := ["internal/bytealg.IndexByteString", "internal/bytealg.IndexString", "internal/bytealg.abigen_runtime_cmpstring"], unfollowed := true, recurses := true, named := ["internal/bytealg.MaxLen", "veilstone/terms.uses", "veilstone/terms.needs"], loops := true, plainKeys := false, apart := false, laid := [("veilstone/terms.needs", laid_veilstone_terms_needs), ("veilstone/terms.uses", laid_veilstone_terms_uses)] }
def RenameTwiceSaid : Prop := renameTwiceRow.holds Tryz.pinned (OpenSpec.ofChange renameTwiceSpec)

/-- ITS FALSE NEIGHBOUR: 'it returns false'. Refute it at one input. -/
def renameTwiceWrong : ChangeSpec := { name := "renameTwice", fn := fun _ => fun
  | [d1, d2, d3, d4, d5] => { results := [.lit (.bool false)], args := [d1, d2, d3, d4, d5] }
  | _ => none }
def RenameTwiceWrongFalsely : Prop := renameTwiceRow.holds Tryz.pinned (OpenSpec.ofChange renameTwiceWrong)

/-- 'veilstonelaw33.RenameComposeSpec': WHATEVER THE INPUT: true; the input reads as it did. -/
def renameComposeSpecSpec : ChangeSpec := { name := "renameComposeSpec", fn := fun _ => fun
  | [d1, d2] => { results := [.lit (.bool true)], args := [d1, d2] }
  | _ => none }
def renameComposeSpecRow : OpenClaim := { program := "ytpecmehekandgaagreatdoor", sum := "8475f52ca0d4349bce0462d46f741c4ec44107598053e000c7f72b040fc2dce1", func := "veilstone/veilstonelaw33.RenameComposeSpec", spec := "renameComposeSpec", inPlace := ["internal/bytealg.IndexByteString", "internal/bytealg.IndexString", "internal/bytealg.abigen_runtime_cmpstring"], unfollowed := true, recurses := true, named := ["internal/bytealg.MaxLen", "veilstone/terms.uses", "veilstone/terms.needs"], plainKeys := false, apart := false, laid := [("veilstone/terms.needs", laid_veilstone_terms_needs), ("veilstone/terms.uses", laid_veilstone_terms_uses)] }
def RenameComposeSpecSaid : Prop := renameComposeSpecRow.holds Tryz.pinned (OpenSpec.ofChange renameComposeSpecSpec)

/-- ITS FALSE NEIGHBOUR: 'it returns false'. Refute it at one input. -/
def renameComposeSpecWrong : ChangeSpec := { name := "renameComposeSpec", fn := fun _ => fun
  | [d1, d2] => { results := [.lit (.bool false)], args := [d1, d2] }
  | _ => none }
def RenameComposeSpecWrongFalsely : Prop := renameComposeSpecRow.holds Tryz.pinned (OpenSpec.ofChange renameComposeSpecWrong)

/-- 'veilstonelaw33.RenameApart': WHATEVER THE INPUT: true; the input reads as it did. -/
def renameApartSpec : ChangeSpec := { name := "renameApart", fn := fun _ => fun
  | [d1, d2] => { results := [.lit (.bool true)], args := [d1, d2] }
  | _ => none }
def renameApartRow : OpenClaim := { program := "ytpecmehekandgaagreatdoor", sum := "8475f52ca0d4349bce0462d46f741c4ec44107598053e000c7f72b040fc2dce1", func := "veilstone/veilstonelaw33.RenameApart", spec := "renameApart", inPlace := ["internal/bytealg.IndexByteString", "internal/bytealg.IndexString", "internal/bytealg.abigen_runtime_cmpstring"], unfollowed := true, recurses := true, named := ["internal/bytealg.MaxLen", "veilstone/terms.uses", "veilstone/terms.needs"], loops := true, plainKeys := false, apart := false, laid := [("veilstone/terms.needs", laid_veilstone_terms_needs), ("veilstone/terms.uses", laid_veilstone_terms_uses)] }
def RenameApartSaid : Prop := renameApartRow.holds Tryz.pinned (OpenSpec.ofChange renameApartSpec)

/-- ITS FALSE NEIGHBOUR: 'it returns false'. Refute it at one input. -/
def renameApartWrong : ChangeSpec := { name := "renameApart", fn := fun _ => fun
  | [d1, d2] => { results := [.lit (.bool false)], args := [d1, d2] }
  | _ => none }
def RenameApartWrongFalsely : Prop := renameApartRow.holds Tryz.pinned (OpenSpec.ofChange renameApartWrong)

/-- 'veilstonelaw33.RenameBack': WHATEVER THE INPUT: true; the input reads as it did. -/
def renameBackSpec : ChangeSpec := { name := "renameBack", fn := fun _ => fun
  | [d1, d2] => { results := [.lit (.bool true)], args := [d1, d2] }
  | _ => none }
def renameBackRow : OpenClaim := { program := "ytpecmehekandgaagreatdoor", sum := "8475f52ca0d4349bce0462d46f741c4ec44107598053e000c7f72b040fc2dce1", func := "veilstone/veilstonelaw33.RenameBack", spec := "renameBack", inPlace := ["internal/bytealg.IndexByteString", "internal/bytealg.IndexString", "internal/bytealg.abigen_runtime_cmpstring"], unfollowed := true, recurses := true, named := ["internal/bytealg.MaxLen", "veilstone/terms.uses", "veilstone/terms.needs"], loops := true, plainKeys := false, apart := false, laid := [("veilstone/terms.needs", laid_veilstone_terms_needs), ("veilstone/terms.uses", laid_veilstone_terms_uses)] }
def RenameBackSaid : Prop := renameBackRow.holds Tryz.pinned (OpenSpec.ofChange renameBackSpec)

/-- ITS FALSE NEIGHBOUR: 'it returns false'. Refute it at one input. -/
def renameBackWrong : ChangeSpec := { name := "renameBack", fn := fun _ => fun
  | [d1, d2] => { results := [.lit (.bool false)], args := [d1, d2] }
  | _ => none }
def RenameBackWrongFalsely : Prop := renameBackRow.holds Tryz.pinned (OpenSpec.ofChange renameBackWrong)

/- THE SECOND FORM. 'bulk': how many values and letters a reading holds, each counted each time it is reached (what is shared counts as often as it is met; a slice's spare places count too). A statement '..UptoSaid' is the law's where the arguments, and the package variables that the reading takes, are together of bulk at most 1048576: NARROWER than '..Said'. Prove '..Said' where nothing that the law and all that it calls make is longer than what came in: it says more and counts as full. Else prove '..UptoSaid'. A law counts once. -/
mutual
def uptoBulk {H : Type} : DataW H → Nat
  | .lit (.string bytes) => bytes.length + 1
  | .lit _ => 1
  | .nil => 1
  | .ptr d => uptoBulk d + 1
  | .slice elems spare => uptoBulkAll elems + uptoBulkAll spare + 1
  | .agg parts => uptoBulkAll parts + 1
  | .iface _ d => uptoBulk d + 1
  | .map entries => uptoBulkEntries entries + 1
  | .held _ => 1
def uptoBulkAll {H : Type} : List (DataW H) → Nat
  | [] => 0
  | d :: r => uptoBulk d + uptoBulkAll r
def uptoBulkEntries {H : Type} : List (Lit × DataW H) → Nat
  | [] => 0
  | x :: r => uptoBulkEntry x + uptoBulkEntries r
def uptoBulkEntry {H : Type} : Lit × DataW H → Nat
  | (.string bytes, d) => bytes.length + uptoBulk d + 1
  | (_, d) => uptoBulk d + 1
 end
def uptoSmall : (H : Type) → List (DataW H) → Bool := fun _ ds => decide (uptoBulkAll ds ≤ 1048576)
def OpenSpec.upto (s : _root_.Go.ChangeSpec) : _root_.Go.OpenSpec := { _root_.Go.OpenSpec.ofChange s with cond := some uptoSmall }

/-- 'veilstonelaw33.RenameNothing', WHERE WHAT IT READS IS OF BULK AT MOST 1048576: true; the input reads as it did. -/
def renameNothingUptoRow : OpenClaim := { program := "ytpecmehekandgaagreatdoor", sum := "8475f52ca0d4349bce0462d46f741c4ec44107598053e000c7f72b040fc2dce1", func := "veilstone/veilstonelaw33.RenameNothing", spec := "renameNothing", inPlace := ["internal/bytealg.IndexByteString", "internal/bytealg.IndexString", "internal/bytealg.abigen_runtime_cmpstring"], unfollowed := true, recurses := true, named := ["internal/bytealg.MaxLen", "veilstone/terms.uses", "veilstone/terms.needs"], loops := true, plainKeys := false, apart := false, laid := [("veilstone/terms.needs", laid_veilstone_terms_needs), ("veilstone/terms.uses", laid_veilstone_terms_uses)], narrowed := true }
def RenameNothingUptoSaid : Prop := renameNothingUptoRow.holds Tryz.pinned (OpenSpec.upto renameNothingSpec)

/-- 'veilstonelaw33.RenameAxiomsSpec', WHERE WHAT IT READS IS OF BULK AT MOST 1048576: true; the input reads as it did. -/
def renameAxiomsSpecUptoRow : OpenClaim := { program := "ytpecmehekandgaagreatdoor", sum := "8475f52ca0d4349bce0462d46f741c4ec44107598053e000c7f72b040fc2dce1", func := "veilstone/veilstonelaw33.RenameAxiomsSpec", spec := "renameAxiomsSpec", inPlace := ["internal/bytealg.IndexByteString", "internal/bytealg.IndexString", "internal/bytealg.abigen_runtime_cmpstring"], unfollowed := true, recurses := true, named := ["internal/bytealg.MaxLen", "veilstone/terms.uses", "veilstone/terms.needs"], loops := true, plainKeys := false, apart := false, laid := [("veilstone/terms.needs", laid_veilstone_terms_needs), ("veilstone/terms.uses", laid_veilstone_terms_uses)], narrowed := true }
def RenameAxiomsSpecUptoSaid : Prop := renameAxiomsSpecUptoRow.holds Tryz.pinned (OpenSpec.upto renameAxiomsSpecSpec)

/-- 'veilstonelaw33.RenameTwice', WHERE WHAT IT READS IS OF BULK AT MOST 1048576: true; the input reads as it did. -/
def renameTwiceUptoRow : OpenClaim := { program := "ytpecmehekandgaagreatdoor", sum := "8475f52ca0d4349bce0462d46f741c4ec44107598053e000c7f72b040fc2dce1", func := "veilstone/veilstonelaw33.RenameTwice", spec := "renameTwice", inPlace := ["internal/bytealg.IndexByteString", "internal/bytealg.IndexString", "internal/bytealg.abigen_runtime_cmpstring"], unfollowed := true, recurses := true, named := ["internal/bytealg.MaxLen", "veilstone/terms.uses", "veilstone/terms.needs"], loops := true, plainKeys := false, apart := false, laid := [("veilstone/terms.needs", laid_veilstone_terms_needs), ("veilstone/terms.uses", laid_veilstone_terms_uses)], narrowed := true }
def RenameTwiceUptoSaid : Prop := renameTwiceUptoRow.holds Tryz.pinned (OpenSpec.upto renameTwiceSpec)

/-- 'veilstonelaw33.RenameComposeSpec', WHERE WHAT IT READS IS OF BULK AT MOST 1048576: true; the input reads as it did. -/
def renameComposeSpecUptoRow : OpenClaim := { program := "ytpecmehekandgaagreatdoor", sum := "8475f52ca0d4349bce0462d46f741c4ec44107598053e000c7f72b040fc2dce1", func := "veilstone/veilstonelaw33.RenameComposeSpec", spec := "renameComposeSpec", inPlace := ["internal/bytealg.IndexByteString", "internal/bytealg.IndexString", "internal/bytealg.abigen_runtime_cmpstring"], unfollowed := true, recurses := true, named := ["internal/bytealg.MaxLen", "veilstone/terms.uses", "veilstone/terms.needs"], plainKeys := false, apart := false, laid := [("veilstone/terms.needs", laid_veilstone_terms_needs), ("veilstone/terms.uses", laid_veilstone_terms_uses)], narrowed := true }
def RenameComposeSpecUptoSaid : Prop := renameComposeSpecUptoRow.holds Tryz.pinned (OpenSpec.upto renameComposeSpecSpec)

/-- 'veilstonelaw33.RenameApart', WHERE WHAT IT READS IS OF BULK AT MOST 1048576: true; the input reads as it did. -/
def renameApartUptoRow : OpenClaim := { program := "ytpecmehekandgaagreatdoor", sum := "8475f52ca0d4349bce0462d46f741c4ec44107598053e000c7f72b040fc2dce1", func := "veilstone/veilstonelaw33.RenameApart", spec := "renameApart", inPlace := ["internal/bytealg.IndexByteString", "internal/bytealg.IndexString", "internal/bytealg.abigen_runtime_cmpstring"], unfollowed := true, recurses := true, named := ["internal/bytealg.MaxLen", "veilstone/terms.uses", "veilstone/terms.needs"], loops := true, plainKeys := false, apart := false, laid := [("veilstone/terms.needs", laid_veilstone_terms_needs), ("veilstone/terms.uses", laid_veilstone_terms_uses)], narrowed := true }
def RenameApartUptoSaid : Prop := renameApartUptoRow.holds Tryz.pinned (OpenSpec.upto renameApartSpec)

/-- 'veilstonelaw33.RenameBack', WHERE WHAT IT READS IS OF BULK AT MOST 1048576: true; the input reads as it did. -/
def renameBackUptoRow : OpenClaim := { program := "ytpecmehekandgaagreatdoor", sum := "8475f52ca0d4349bce0462d46f741c4ec44107598053e000c7f72b040fc2dce1", func := "veilstone/veilstonelaw33.RenameBack", spec := "renameBack", inPlace := ["internal/bytealg.IndexByteString", "internal/bytealg.IndexString", "internal/bytealg.abigen_runtime_cmpstring"], unfollowed := true, recurses := true, named := ["internal/bytealg.MaxLen", "veilstone/terms.uses", "veilstone/terms.needs"], loops := true, plainKeys := false, apart := false, laid := [("veilstone/terms.needs", laid_veilstone_terms_needs), ("veilstone/terms.uses", laid_veilstone_terms_uses)], narrowed := true }
def RenameBackUptoSaid : Prop := renameBackUptoRow.holds Tryz.pinned (OpenSpec.upto renameBackSpec)

end Rows
end Go.Proofs.YtpecmehekandgaaGreatDoor
