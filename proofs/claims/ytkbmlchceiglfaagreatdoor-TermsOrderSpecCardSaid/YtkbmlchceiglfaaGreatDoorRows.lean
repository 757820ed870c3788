/-
  NARROWER THAN 'FOR EVERY INPUT', by the rows' own cells (each row's printed sentence says how): TermsOrderSpec: loops, laid · TermsTidyGroups: loops, laid · TermsAxiomTotal: loops, laid · TermsVocabulary: loops, laid.
  DERIVED. THE GIVEN ROWS OF THIS SEAT. 4 by the template 'for every input the law returns true; each argument reads behind the call as it read before'; 0 by the template 'total and deterministic' (their statements: YtkbmlchceiglfaaGreatDoorTotals.lean).
  GIVEN WITH THE SEED: the statements are not yours to turn. If you find one false, say at which input.
  Laid BY PROGRAM, IN A SANDBOX (cutbox-rows.mjs): the forced cells as the released guide's own fill.sh prints them over the translation 44a90359229b852f… (all of the seat's roots in one cut). By AI agents, Wed Nov 11 2026. No macro, syntax, notation, axiom, sorry.
-/
import Derived.Test.YtkbmlchceiglfaaGreatDoorChecked
import GoSem.Claim
import GoSem.ClaimJoined
import GoSem.ClaimMapViews
import Derived.JoinedTies
import Derived.KernelRfl
namespace Go.Proofs.YtkbmlchceiglfaaGreatDoor
/- THE CELL 'sum', in the pinned program and in every row, IS THE sha256 OF THE DUMP (.gsa) THAT YtkbmlchceiglfaaGreatDoorProg.lean LOADS. Nothing in Lean hashes anything: it is a label: what it is worth is what the hold of that sum in a sandbox is worth. -/
noncomputable def Tryz.pinned : Pinned := { name := "ytkbmlchceiglfaagreatdoor", sum := "44a90359229b852f35251cb6cb07efaa71efd01df16b8f06cb8687a3b55324d7", checked := Tryz.checked }
namespace Rows
def none {H : Type} : Left H := { results := [], args := [] }

/- WHAT THE LISTED PACKAGE-LEVEL VARIABLES READ AS WHEN THE CALL BEGINS. Each datum BY PROGRAM (the guide's laid-datum.mjs) off the statement by which the dump's own 'gosem.cut.vars' lays the variable. In a bare row this is a premise. The card (YtkbmlchceiglfaaGreatDoorCards.lean) ties it to the program's text. -/
def laid_veilstone_terms_needs {H : Type} : DataW H := .agg [.agg [.lit (.int .i64 0), .lit (.int .i64 0), .lit (.int .i64 0), .lit (.bool false)], .agg [.lit (.int .i64 0), .lit (.int .i64 0), .lit (.int .i64 0), .lit (.bool false)], .agg [.lit (.int .i64 0), .lit (.int .i64 0), .lit (.int .i64 0), .lit (.bool false)], .agg [.lit (.int .i64 1), .lit (.int .i64 0), .lit (.int .i64 0), .lit (.bool false)], .agg [.lit (.int .i64 2), .lit (.int .i64 0), .lit (.int .i64 0), .lit (.bool false)], .agg [.lit (.int .i64 0), .lit (.int .i64 2), .lit (.int .i64 8), .lit (.bool false)], .agg [.lit (.int .i64 1), .lit (.int .i64 1), .lit (.int .i64 1), .lit (.bool false)], .agg [.lit (.int .i64 1), .lit (.int .i64 0), .lit (.int .i64 0), .lit (.bool true)]]
def laid_veilstone_terms_uses {H : Type} : DataW H := .agg [.agg [.lit (.bool false), .lit (.bool false), .lit (.bool false), .lit (.bool false), .lit (.bool false), .lit (.int .i64 0), .lit (.int .i64 0)], .agg [.lit (.bool true), .lit (.bool true), .lit (.bool false), .lit (.bool false), .lit (.bool false), .lit (.int .i64 0), .lit (.int .i64 0)], .agg [.lit (.bool true), .lit (.bool true), .lit (.bool false), .lit (.bool false), .lit (.bool false), .lit (.int .i64 0), .lit (.int .i64 0)], .agg [.lit (.bool true), .lit (.bool true), .lit (.bool false), .lit (.bool false), .lit (.bool false), .lit (.int .i64 0), .lit (.int .i64 0)], .agg [.lit (.bool false), .lit (.bool true), .lit (.bool true), .lit (.bool false), .lit (.bool false), .lit (.int .i64 0), .lit (.int .i64 0)], .agg [.lit (.bool false), .lit (.bool false), .lit (.bool true), .lit (.bool false), .lit (.bool false), .lit (.int .i64 1), .lit (.int .i64 1)], .agg [.lit (.bool false), .lit (.bool false), .lit (.bool true), .lit (.bool false), .lit (.bool false), .lit (.int .i64 2), .lit (.int .i64 4)], .agg [.lit (.bool false), .lit (.bool false), .lit (.bool true), .lit (.bool false), .lit (.bool false), .lit (.int .i64 0), .lit (.int .i64 0)], .agg [.lit (.bool false), .lit (.bool true), .lit (.bool false), .lit (.bool true), .lit (.bool false), .lit (.int .i64 0), .lit (.int .i64 0)], .agg [.lit (.bool false), .lit (.bool false), .lit (.bool true), .lit (.bool true), .lit (.bool true), .lit (.int .i64 0), .lit (.int .i64 0)]]

/-- 'veilstonelaw02.TermsOrderSpec': WHATEVER THE INPUT: true; the input reads as it did. -/
def termsOrderSpecSpec : ChangeSpec := { name := "termsOrderSpec", fn := fun _ => fun
  | [d1, d2, d3] => { results := [.lit (.bool true)], args := [d1, d2, d3] }
  | _ => none }
def termsOrderSpecRow : OpenClaim := { program := "ytkbmlchceiglfaagreatdoor", sum := "44a90359229b852f35251cb6cb07efaa71efd01df16b8f06cb8687a3b55324d7", func := "veilstone/veilstonelaw02.TermsOrderSpec", spec := "termsOrderSpec", inPlace := ["internal/bytealg.IndexByteString", "internal/bytealg.IndexString", "internal/bytealg.abigen_runtime_cmpstring"], unfollowed := true, recurses := true, named := ["veilstone/terms.needs", "internal/bytealg.MaxLen", "veilstone/terms.uses"], loops := true, apart := false, laid := [("veilstone/terms.needs", laid_veilstone_terms_needs), ("veilstone/terms.uses", laid_veilstone_terms_uses)] }
def TermsOrderSpecSaid : Prop := termsOrderSpecRow.holds Tryz.pinned (OpenSpec.ofChange termsOrderSpecSpec)

/-- ITS FALSE NEIGHBOUR: 'it returns false'. Refute it at one input. -/
def termsOrderSpecWrong : ChangeSpec := { name := "termsOrderSpec", fn := fun _ => fun
  | [d1, d2, d3] => { results := [.lit (.bool false)], args := [d1, d2, d3] }
  | _ => none }
def TermsOrderSpecWrongFalsely : Prop := termsOrderSpecRow.holds Tryz.pinned (OpenSpec.ofChange termsOrderSpecWrong)

/-- 'veilstonelaw02.TermsTidyGroups': WHATEVER THE INPUT: true; the input reads as it did. -/
def termsTidyGroupsSpec : ChangeSpec := { name := "termsTidyGroups", fn := fun _ => fun
  | [d1, d2, d3] => { results := [.lit (.bool true)], args := [d1, d2, d3] }
  | _ => none }
def termsTidyGroupsRow : OpenClaim := { program := "ytkbmlchceiglfaagreatdoor", sum := "44a90359229b852f35251cb6cb07efaa71efd01df16b8f06cb8687a3b55324d7", func := "veilstone/veilstonelaw02.TermsTidyGroups", spec := "termsTidyGroups", inPlace := ["internal/bytealg.IndexByteString", "internal/bytealg.IndexString", "internal/bytealg.abigen_runtime_cmpstring"], unfollowed := true, recurses := true, named := ["veilstone/terms.needs", "internal/bytealg.MaxLen", "veilstone/terms.uses"], loops := true, apart := false, laid := [("veilstone/terms.needs", laid_veilstone_terms_needs), ("veilstone/terms.uses", laid_veilstone_terms_uses)] }
def TermsTidyGroupsSaid : Prop := termsTidyGroupsRow.holds Tryz.pinned (OpenSpec.ofChange termsTidyGroupsSpec)

/-- ITS FALSE NEIGHBOUR: 'it returns false'. Refute it at one input. -/
def termsTidyGroupsWrong : ChangeSpec := { name := "termsTidyGroups", fn := fun _ => fun
  | [d1, d2, d3] => { results := [.lit (.bool false)], args := [d1, d2, d3] }
  | _ => none }
def TermsTidyGroupsWrongFalsely : Prop := termsTidyGroupsRow.holds Tryz.pinned (OpenSpec.ofChange termsTidyGroupsWrong)

/-- 'veilstonelaw02.TermsAxiomTotal': WHATEVER THE INPUT: true; the input reads as it did. -/
def termsAxiomTotalSpec : ChangeSpec := { name := "termsAxiomTotal", fn := fun _ => fun
  | [d1, d2, d3] => { results := [.lit (.bool true)], args := [d1, d2, d3] }
  | _ => none }
def termsAxiomTotalRow : OpenClaim := { program := "ytkbmlchceiglfaagreatdoor", sum := "44a90359229b852f35251cb6cb07efaa71efd01df16b8f06cb8687a3b55324d7", func := "veilstone/veilstonelaw02.TermsAxiomTotal", spec := "termsAxiomTotal", inPlace := ["internal/bytealg.IndexByteString", "internal/bytealg.IndexString", "internal/bytealg.abigen_runtime_cmpstring"], unfollowed := true, recurses := true, named := ["veilstone/terms.needs", "internal/bytealg.MaxLen", "veilstone/terms.uses"], loops := true, apart := false, laid := [("veilstone/terms.needs", laid_veilstone_terms_needs), ("veilstone/terms.uses", laid_veilstone_terms_uses)] }
def TermsAxiomTotalSaid : Prop := termsAxiomTotalRow.holds Tryz.pinned (OpenSpec.ofChange termsAxiomTotalSpec)

/-- ITS FALSE NEIGHBOUR: 'it returns false'. Refute it at one input. -/
def termsAxiomTotalWrong : ChangeSpec := { name := "termsAxiomTotal", fn := fun _ => fun
  | [d1, d2, d3] => { results := [.lit (.bool false)], args := [d1, d2, d3] }
  | _ => none }
def TermsAxiomTotalWrongFalsely : Prop := termsAxiomTotalRow.holds Tryz.pinned (OpenSpec.ofChange termsAxiomTotalWrong)

/-- 'veilstonelaw02.TermsVocabulary': WHATEVER THE INPUT: true; the input reads as it did. -/
def termsVocabularySpec : ChangeSpec := { name := "termsVocabulary", fn := fun _ => fun
  | [d1, d2] => { results := [.lit (.bool true)], args := [d1, d2] }
  | _ => none }
def termsVocabularyRow : OpenClaim := { program := "ytkbmlchceiglfaagreatdoor", sum := "44a90359229b852f35251cb6cb07efaa71efd01df16b8f06cb8687a3b55324d7", func := "veilstone/veilstonelaw02.TermsVocabulary", spec := "termsVocabulary", inPlace := ["internal/bytealg.IndexByteString", "internal/bytealg.IndexString", "internal/bytealg.abigen_runtime_cmpstring"], unfollowed := true, recurses := true, named := ["veilstone/terms.needs", "internal/bytealg.MaxLen", "veilstone/terms.uses"], loops := true, apart := false, laid := [("veilstone/terms.needs", laid_veilstone_terms_needs), ("veilstone/terms.uses", laid_veilstone_terms_uses)] }
def TermsVocabularySaid : Prop := termsVocabularyRow.holds Tryz.pinned (OpenSpec.ofChange termsVocabularySpec)

/-- ITS FALSE NEIGHBOUR: 'it returns false'. Refute it at one input. -/
def termsVocabularyWrong : ChangeSpec := { name := "termsVocabulary", fn := fun _ => fun
  | [d1, d2] => { results := [.lit (.bool false)], args := [d1, d2] }
  | _ => none }
def TermsVocabularyWrongFalsely : Prop := termsVocabularyRow.holds Tryz.pinned (OpenSpec.ofChange termsVocabularyWrong)

/- THE SECOND FORM. 'bulk': how many values and letters a reading holds, each counted each time it is reached (what is shared counts as often as it is met; a slice's spare places count too). A statement '..UptoSaid' is the law's where the arguments, and the package variables that the reading takes, are together of bulk at most 1048576: NARROWER than '..Said'. Prove '..Said' where nothing that the law and all that it calls make is longer than what came in: it says more and counts as full. Else prove '..UptoSaid'. A law counts once. -/
mutual
def uptoBulk {H : Type} : DataW H → Nat
  | .lit (.string bytes) => bytes.length + 1
  | .lit _ => 1
  | .nil => 1
  | .ptr d => uptoBulk d + 1
  | .slice elems spare => uptoBulkAll elems + uptoBulkAll spare + 1
  | .agg parts => uptoBulkAll parts + 1
  | .iface _ d => uptoBulk d + 1
  | .map entries => uptoBulkEntries entries + 1
  | .held _ => 1
def uptoBulkAll {H : Type} : List (DataW H) → Nat
  | [] => 0
  | d :: r => uptoBulk d + uptoBulkAll r
def uptoBulkEntries {H : Type} : List (Lit × DataW H) → Nat
  | [] => 0
  | x :: r => uptoBulkEntry x + uptoBulkEntries r
def uptoBulkEntry {H : Type} : Lit × DataW H → Nat
  | (.string bytes, d) => bytes.length + uptoBulk d + 1
  | (_, d) => uptoBulk d + 1
 end
def uptoSmall : (H : Type) → List (DataW H) → Bool := fun _ ds => decide (uptoBulkAll ds ≤ 1048576)
def OpenSpec.upto (s : _root_.Go.ChangeSpec) : _root_.Go.OpenSpec := { _root_.Go.OpenSpec.ofChange s with cond := some uptoSmall }

/-- 'veilstonelaw02.TermsOrderSpec', WHERE WHAT IT READS IS OF BULK AT MOST 1048576: true; the input reads as it did. -/
def termsOrderSpecUptoRow : OpenClaim := { program := "ytkbmlchceiglfaagreatdoor", sum := "44a90359229b852f35251cb6cb07efaa71efd01df16b8f06cb8687a3b55324d7", func := "veilstone/veilstonelaw02.TermsOrderSpec", spec := "termsOrderSpec", inPlace := ["internal/bytealg.IndexByteString", "internal/bytealg.IndexString", "internal/bytealg.abigen_runtime_cmpstring"], unfollowed := true, recurses := true, named := ["veilstone/terms.needs", "internal/bytealg.MaxLen", "veilstone/terms.uses"], loops := true, apart := false, laid := [("veilstone/terms.needs", laid_veilstone_terms_needs), ("veilstone/terms.uses", laid_veilstone_terms_uses)], narrowed := true }
def TermsOrderSpecUptoSaid : Prop := termsOrderSpecUptoRow.holds Tryz.pinned (OpenSpec.upto termsOrderSpecSpec)

/-- 'veilstonelaw02.TermsTidyGroups', WHERE WHAT IT READS IS OF BULK AT MOST 1048576: true; the input reads as it did. -/
def termsTidyGroupsUptoRow : OpenClaim := { program := "ytkbmlchceiglfaagreatdoor", sum := "44a90359229b852f35251cb6cb07efaa71efd01df16b8f06cb8687a3b55324d7", func := "veilstone/veilstonelaw02.TermsTidyGroups", spec := "termsTidyGroups", inPlace := ["internal/bytealg.IndexByteString", "internal/bytealg.IndexString", "internal/bytealg.abigen_runtime_cmpstring"], unfollowed := true, recurses := true, named := ["veilstone/terms.needs", "internal/bytealg.MaxLen", "veilstone/terms.uses"], loops := true, apart := false, laid := [("veilstone/terms.needs", laid_veilstone_terms_needs), ("veilstone/terms.uses", laid_veilstone_terms_uses)], narrowed := true }
def TermsTidyGroupsUptoSaid : Prop := termsTidyGroupsUptoRow.holds Tryz.pinned (OpenSpec.upto termsTidyGroupsSpec)

/-- 'veilstonelaw02.TermsAxiomTotal', WHERE WHAT IT READS IS OF BULK AT MOST 1048576: true; the input reads as it did. -/
def termsAxiomTotalUptoRow : OpenClaim := { program := "ytkbmlchceiglfaagreatdoor", sum := "44a90359229b852f35251cb6cb07efaa71efd01df16b8f06cb8687a3b55324d7", func := "veilstone/veilstonelaw02.TermsAxiomTotal", spec := "termsAxiomTotal", inPlace := ["internal/bytealg.IndexByteString", "internal/bytealg.IndexString", "internal/bytealg.abigen_runtime_cmpstring"], unfollowed := true, recurses := true, named := ["veilstone/terms.needs", "internal/bytealg.MaxLen", "veilstone/terms.uses"], loops := true, apart := false, laid := [("veilstone/terms.needs", laid_veilstone_terms_needs), ("veilstone/terms.uses", laid_veilstone_terms_uses)], narrowed := true }
def TermsAxiomTotalUptoSaid : Prop := termsAxiomTotalUptoRow.holds Tryz.pinned (OpenSpec.upto termsAxiomTotalSpec)

/-- 'veilstonelaw02.TermsVocabulary', WHERE WHAT IT READS IS OF BULK AT MOST 1048576: true; the input reads as it did. -/
def termsVocabularyUptoRow : OpenClaim := { program := "ytkbmlchceiglfaagreatdoor", sum := "44a90359229b852f35251cb6cb07efaa71efd01df16b8f06cb8687a3b55324d7", func := "veilstone/veilstonelaw02.TermsVocabulary", spec := "termsVocabulary", inPlace := ["internal/bytealg.IndexByteString", "internal/bytealg.IndexString", "internal/bytealg.abigen_runtime_cmpstring"], unfollowed := true, recurses := true, named := ["veilstone/terms.needs", "internal/bytealg.MaxLen", "veilstone/terms.uses"], loops := true, apart := false, laid := [("veilstone/terms.needs", laid_veilstone_terms_needs), ("veilstone/terms.uses", laid_veilstone_terms_uses)], narrowed := true }
def TermsVocabularyUptoSaid : Prop := termsVocabularyUptoRow.holds Tryz.pinned (OpenSpec.upto termsVocabularySpec)

end Rows
end Go.Proofs.YtkbmlchceiglfaaGreatDoor
