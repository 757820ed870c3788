/-
  DERIVED. GIVEN WITH THE SEED: THE CARDS: each row of YtkbmlchceiglfaaGreatDoorRows.lean that lists a variable, with what it lists TIED to the program's text (the seventh form; the later family's looks); each row that meets fmt, with fmt's text TOLD by the authors' own Lean function (tested against real Go, not proved from fmt's source: count such statements apart). THE CARD IS WHAT COUNTS. Prove the row's statement (the work); the ties are given (YtkbmlchceiglfaaGreatDoorTie.lean); close each card by the builder's one call (the guide's Derived/Test/ToyasCard.lean, 'card_holds'). Laid BY PROGRAM, IN A SANDBOX (cutbox-door.mjs). By AI agents, Wed Nov 11 2026. No macro, syntax, notation, axiom, sorry.
-/
import Derived.Test.YtkbmlchceiglfaaGreatDoorRows
import GoSem.ClaimSeven
namespace Go.Proofs.YtkbmlchceiglfaaGreatDoor
namespace Rows

/-- THE TIED CARD OF 'veilstonelaw02.TermsOrderSpec'. -/
def termsOrderSpecCard : Claim7 := { stood := { row := termsOrderSpecRow, standIns := [], harness := (true, "56164474eba9f9b333c9e5fd75923e4dfd88a5efc677e8031662b69be54cc5c9"), looks := false }, kinds := [], alts := [], laidByText := true, laidKinds := [.data, .data], laidTests := true, laidLooks := .later }
def TermsOrderSpecCardSaid : Prop := Claim7.holds Tryz.pinned (.plain (OpenSpec.ofChange termsOrderSpecSpec)) termsOrderSpecCard

/-- THE TIED CARD OF 'veilstonelaw02.TermsTidyGroups'. -/
def termsTidyGroupsCard : Claim7 := { stood := { row := termsTidyGroupsRow, standIns := [], harness := (true, "56164474eba9f9b333c9e5fd75923e4dfd88a5efc677e8031662b69be54cc5c9"), looks := false }, kinds := [], alts := [], laidByText := true, laidKinds := [.data, .data], laidTests := true, laidLooks := .later }
def TermsTidyGroupsCardSaid : Prop := Claim7.holds Tryz.pinned (.plain (OpenSpec.ofChange termsTidyGroupsSpec)) termsTidyGroupsCard

/-- THE TIED CARD OF 'veilstonelaw02.TermsAxiomTotal'. -/
def termsAxiomTotalCard : Claim7 := { stood := { row := termsAxiomTotalRow, standIns := [], harness := (true, "56164474eba9f9b333c9e5fd75923e4dfd88a5efc677e8031662b69be54cc5c9"), looks := false }, kinds := [], alts := [], laidByText := true, laidKinds := [.data, .data], laidTests := true, laidLooks := .later }
def TermsAxiomTotalCardSaid : Prop := Claim7.holds Tryz.pinned (.plain (OpenSpec.ofChange termsAxiomTotalSpec)) termsAxiomTotalCard

/-- THE TIED CARD OF 'veilstonelaw02.TermsVocabulary'. -/
def termsVocabularyCard : Claim7 := { stood := { row := termsVocabularyRow, standIns := [], harness := (true, "56164474eba9f9b333c9e5fd75923e4dfd88a5efc677e8031662b69be54cc5c9"), looks := false }, kinds := [], alts := [], laidByText := true, laidKinds := [.data, .data], laidTests := true, laidLooks := .later }
def TermsVocabularyCardSaid : Prop := Claim7.holds Tryz.pinned (.plain (OpenSpec.ofChange termsVocabularySpec)) termsVocabularyCard

/-- THE SECOND FORM's CARD OF 'veilstonelaw02.TermsOrderSpec'. -/
def termsOrderSpecUptoCard : Claim7 := { stood := { row := termsOrderSpecUptoRow, standIns := [], harness := (true, "56164474eba9f9b333c9e5fd75923e4dfd88a5efc677e8031662b69be54cc5c9"), looks := false }, kinds := [], alts := [], laidByText := true, laidKinds := [.data, .data], laidTests := true, laidLooks := .later }
def TermsOrderSpecUptoCardSaid : Prop := Claim7.holds Tryz.pinned (.plain (OpenSpec.upto termsOrderSpecSpec)) termsOrderSpecUptoCard

/-- THE SECOND FORM's CARD OF 'veilstonelaw02.TermsTidyGroups'. -/
def termsTidyGroupsUptoCard : Claim7 := { stood := { row := termsTidyGroupsUptoRow, standIns := [], harness := (true, "56164474eba9f9b333c9e5fd75923e4dfd88a5efc677e8031662b69be54cc5c9"), looks := false }, kinds := [], alts := [], laidByText := true, laidKinds := [.data, .data], laidTests := true, laidLooks := .later }
def TermsTidyGroupsUptoCardSaid : Prop := Claim7.holds Tryz.pinned (.plain (OpenSpec.upto termsTidyGroupsSpec)) termsTidyGroupsUptoCard

/-- THE SECOND FORM's CARD OF 'veilstonelaw02.TermsAxiomTotal'. -/
def termsAxiomTotalUptoCard : Claim7 := { stood := { row := termsAxiomTotalUptoRow, standIns := [], harness := (true, "56164474eba9f9b333c9e5fd75923e4dfd88a5efc677e8031662b69be54cc5c9"), looks := false }, kinds := [], alts := [], laidByText := true, laidKinds := [.data, .data], laidTests := true, laidLooks := .later }
def TermsAxiomTotalUptoCardSaid : Prop := Claim7.holds Tryz.pinned (.plain (OpenSpec.upto termsAxiomTotalSpec)) termsAxiomTotalUptoCard

/-- THE SECOND FORM's CARD OF 'veilstonelaw02.TermsVocabulary'. -/
def termsVocabularyUptoCard : Claim7 := { stood := { row := termsVocabularyUptoRow, standIns := [], harness := (true, "56164474eba9f9b333c9e5fd75923e4dfd88a5efc677e8031662b69be54cc5c9"), looks := false }, kinds := [], alts := [], laidByText := true, laidKinds := [.data, .data], laidTests := true, laidLooks := .later }
def TermsVocabularyUptoCardSaid : Prop := Claim7.holds Tryz.pinned (.plain (OpenSpec.upto termsVocabularySpec)) termsVocabularyUptoCard
end Rows
end Go.Proofs.YtkbmlchceiglfaaGreatDoor
