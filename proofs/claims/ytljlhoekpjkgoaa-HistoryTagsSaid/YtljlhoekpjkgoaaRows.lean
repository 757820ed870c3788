/-
  No cell of these rows narrows 'for every input' (looked for: loops, veiled, ifaces, maps, wideKeys, modest, calm, conditions, laid).
  DERIVED. THE GIVEN ROWS OF THIS SEAT. 6 by the template 'for every input the law returns true; each argument reads behind the call as it read before'; 0 by the template 'total and deterministic' (their statements: YtljlhoekpjkgoaaTotals.lean).
  GIVEN WITH THE SEED: the statements are not yours to turn. If you find one false, say at which input.
  Laid BY PROGRAM, IN A SANDBOX (cutbox-rows.mjs): the forced cells as the released guide's own fill.sh prints them over the translation 0035001b9fe58525… (all of the seat's roots in one cut). By AI agents, Wed Nov 11 2026. No macro, syntax, notation, axiom, sorry.
-/
import Derived.Test.YtljlhoekpjkgoaaChecked
import GoSem.Claim
import GoSem.ClaimJoined
import GoSem.ClaimMapViews
import Derived.JoinedTies
import Derived.KernelRfl
namespace Go.Proofs.Ytljlhoekpjkgoaa
/- THE CELL 'sum', in the pinned program and in every row, IS THE sha256 OF THE DUMP (.gsa) THAT YtljlhoekpjkgoaaProg.lean LOADS. Nothing in Lean hashes anything: it is a label: what it is worth is what the hold of that sum in a sandbox is worth. -/
noncomputable def Try.pinned : Pinned := { name := "ytljlhoekpjkgoaa", sum := "0035001b9fe5852532e59cbb676774d08e72cd383f3e4f17834f931a9d38f369", checked := Try.checked }
namespace Rows
def none {H : Type} : Left H := { results := [], args := [] }

/-- 'veilstonelaw29.HistoryPaths': WHATEVER THE INPUT: true; the input reads as it did. -/
def historyPathsSpec : ChangeSpec := { name := "historyPaths", fn := fun _ => fun
  | [d1, d2, d3, d4] => { results := [.lit (.bool true)], args := [d1, d2, d3, d4] }
  | _ => none }
def historyPathsRow : OpenClaim := { program := "ytljlhoekpjkgoaa", sum := "0035001b9fe5852532e59cbb676774d08e72cd383f3e4f17834f931a9d38f369", func := "veilstone/veilstonelaw29.HistoryPaths", spec := "historyPaths", inPlace := ["internal/bytealg.IndexByteString", "internal/bytealg.IndexString", "internal/bytealg.abigen_runtime_cmpstring", "slices.overlaps[veilstone/api.Commit]", "slices.overlaps[veilstone/api.Ref]"], unfollowed := true, recurses := true, named := ["internal/bytealg.MaxLen"], apart := false }
def HistoryPathsSaid : Prop := historyPathsRow.holds Try.pinned (OpenSpec.ofChange historyPathsSpec)

/-- ITS FALSE NEIGHBOUR: 'it returns false'. Refute it at one input. -/
def historyPathsWrong : ChangeSpec := { name := "historyPaths", fn := fun _ => fun
  | [d1, d2, d3, d4] => { results := [.lit (.bool false)], args := [d1, d2, d3, d4] }
  | _ => none }
def HistoryPathsWrongFalsely : Prop := historyPathsRow.holds Try.pinned (OpenSpec.ofChange historyPathsWrong)

/-- 'veilstonelaw29.HistoryTags': WHATEVER THE INPUT: true; the input reads as it did. -/
def historyTagsSpec : ChangeSpec := { name := "historyTags", fn := fun _ => fun
  | [d1, d2, d3, d4] => { results := [.lit (.bool true)], args := [d1, d2, d3, d4] }
  | _ => none }
def historyTagsRow : OpenClaim := { program := "ytljlhoekpjkgoaa", sum := "0035001b9fe5852532e59cbb676774d08e72cd383f3e4f17834f931a9d38f369", func := "veilstone/veilstonelaw29.HistoryTags", spec := "historyTags", inPlace := ["internal/bytealg.IndexByteString", "internal/bytealg.IndexString", "internal/bytealg.abigen_runtime_cmpstring", "slices.overlaps[veilstone/api.Commit]", "slices.overlaps[veilstone/api.Ref]"], unfollowed := true, recurses := true, named := ["internal/bytealg.MaxLen"], apart := false }
def HistoryTagsSaid : Prop := historyTagsRow.holds Try.pinned (OpenSpec.ofChange historyTagsSpec)

/-- ITS FALSE NEIGHBOUR: 'it returns false'. Refute it at one input. -/
def historyTagsWrong : ChangeSpec := { name := "historyTags", fn := fun _ => fun
  | [d1, d2, d3, d4] => { results := [.lit (.bool false)], args := [d1, d2, d3, d4] }
  | _ => none }
def HistoryTagsWrongFalsely : Prop := historyTagsRow.holds Try.pinned (OpenSpec.ofChange historyTagsWrong)

/-- 'veilstonelaw29.HistoryAncestorSpec': WHATEVER THE INPUT: true; the input reads as it did. -/
def historyAncestorSpecSpec : ChangeSpec := { name := "historyAncestorSpec", fn := fun _ => fun
  | [d1, d2, d3] => { results := [.lit (.bool true)], args := [d1, d2, d3] }
  | _ => none }
def historyAncestorSpecRow : OpenClaim := { program := "ytljlhoekpjkgoaa", sum := "0035001b9fe5852532e59cbb676774d08e72cd383f3e4f17834f931a9d38f369", func := "veilstone/veilstonelaw29.HistoryAncestorSpec", spec := "historyAncestorSpec", inPlace := ["internal/bytealg.IndexByteString", "internal/bytealg.IndexString", "internal/bytealg.abigen_runtime_cmpstring", "slices.overlaps[veilstone/api.Commit]", "slices.overlaps[veilstone/api.Ref]"], unfollowed := true, recurses := true, named := ["internal/bytealg.MaxLen"], apart := false }
def HistoryAncestorSpecSaid : Prop := historyAncestorSpecRow.holds Try.pinned (OpenSpec.ofChange historyAncestorSpecSpec)

/-- ITS FALSE NEIGHBOUR: 'it returns false'. Refute it at one input. -/
def historyAncestorSpecWrong : ChangeSpec := { name := "historyAncestorSpec", fn := fun _ => fun
  | [d1, d2, d3] => { results := [.lit (.bool false)], args := [d1, d2, d3] }
  | _ => none }
def HistoryAncestorSpecWrongFalsely : Prop := historyAncestorSpecRow.holds Try.pinned (OpenSpec.ofChange historyAncestorSpecWrong)

/-- 'veilstonelaw29.HistoryGrows': WHATEVER THE INPUT: true; the input reads as it did. -/
def historyGrowsSpec : ChangeSpec := { name := "historyGrows", fn := fun _ => fun
  | [d1, d2, d3, d4, d5] => { results := [.lit (.bool true)], args := [d1, d2, d3, d4, d5] }
  | _ => none }
def historyGrowsRow : OpenClaim := { program := "ytljlhoekpjkgoaa", sum := "0035001b9fe5852532e59cbb676774d08e72cd383f3e4f17834f931a9d38f369", func := "veilstone/veilstonelaw29.HistoryGrows", spec := "historyGrows", inPlace := ["internal/bytealg.IndexByteString", "internal/bytealg.IndexString", "internal/bytealg.abigen_runtime_cmpstring", "slices.overlaps[veilstone/api.Commit]", "slices.overlaps[veilstone/api.Ref]"], unfollowed := true, recurses := true, named := ["internal/bytealg.MaxLen"], apart := false }
def HistoryGrowsSaid : Prop := historyGrowsRow.holds Try.pinned (OpenSpec.ofChange historyGrowsSpec)

/-- ITS FALSE NEIGHBOUR: 'it returns false'. Refute it at one input. -/
def historyGrowsWrong : ChangeSpec := { name := "historyGrows", fn := fun _ => fun
  | [d1, d2, d3, d4, d5] => { results := [.lit (.bool false)], args := [d1, d2, d3, d4, d5] }
  | _ => none }
def HistoryGrowsWrongFalsely : Prop := historyGrowsRow.holds Try.pinned (OpenSpec.ofChange historyGrowsWrong)

/-- 'veilstonelaw29.HistoryAncestry': WHATEVER THE INPUT: true; the input reads as it did. -/
def historyAncestrySpec : ChangeSpec := { name := "historyAncestry", fn := fun _ => fun
  | [d1, d2] => { results := [.lit (.bool true)], args := [d1, d2] }
  | _ => none }
def historyAncestryRow : OpenClaim := { program := "ytljlhoekpjkgoaa", sum := "0035001b9fe5852532e59cbb676774d08e72cd383f3e4f17834f931a9d38f369", func := "veilstone/veilstonelaw29.HistoryAncestry", spec := "historyAncestry", inPlace := ["internal/bytealg.IndexByteString", "internal/bytealg.IndexString", "internal/bytealg.abigen_runtime_cmpstring", "slices.overlaps[veilstone/api.Commit]", "slices.overlaps[veilstone/api.Ref]"], unfollowed := true, recurses := true, named := ["internal/bytealg.MaxLen"], apart := false }
def HistoryAncestrySaid : Prop := historyAncestryRow.holds Try.pinned (OpenSpec.ofChange historyAncestrySpec)

/-- ITS FALSE NEIGHBOUR: 'it returns false'. Refute it at one input. -/
def historyAncestryWrong : ChangeSpec := { name := "historyAncestry", fn := fun _ => fun
  | [d1, d2] => { results := [.lit (.bool false)], args := [d1, d2] }
  | _ => none }
def HistoryAncestryWrongFalsely : Prop := historyAncestryRow.holds Try.pinned (OpenSpec.ofChange historyAncestryWrong)

/-- 'veilstonelaw29.HistoryCommon': WHATEVER THE INPUT: true; the input reads as it did. -/
def historyCommonSpec : ChangeSpec := { name := "historyCommon", fn := fun _ => fun
  | [d1, d2, d3] => { results := [.lit (.bool true)], args := [d1, d2, d3] }
  | _ => none }
def historyCommonRow : OpenClaim := { program := "ytljlhoekpjkgoaa", sum := "0035001b9fe5852532e59cbb676774d08e72cd383f3e4f17834f931a9d38f369", func := "veilstone/veilstonelaw29.HistoryCommon", spec := "historyCommon", inPlace := ["internal/bytealg.IndexByteString", "internal/bytealg.IndexString", "internal/bytealg.abigen_runtime_cmpstring", "slices.overlaps[veilstone/api.Commit]", "slices.overlaps[veilstone/api.Ref]"], unfollowed := true, recurses := true, named := ["internal/bytealg.MaxLen"], apart := false }
def HistoryCommonSaid : Prop := historyCommonRow.holds Try.pinned (OpenSpec.ofChange historyCommonSpec)

/-- ITS FALSE NEIGHBOUR: 'it returns false'. Refute it at one input. -/
def historyCommonWrong : ChangeSpec := { name := "historyCommon", fn := fun _ => fun
  | [d1, d2, d3] => { results := [.lit (.bool false)], args := [d1, d2, d3] }
  | _ => none }
def HistoryCommonWrongFalsely : Prop := historyCommonRow.holds Try.pinned (OpenSpec.ofChange historyCommonWrong)

/- THE SECOND FORM. 'bulk': how many values and letters a reading holds, each counted each time it is reached (what is shared counts as often as it is met; a slice's spare places count too). A statement '..UptoSaid' is the law's where the arguments, and the package variables that the reading takes, are together of bulk at most 1048576: NARROWER than '..Said'. Prove '..Said' where nothing that the law and all that it calls make is longer than what came in: it says more and counts as full. Else prove '..UptoSaid'. A law counts once. -/
mutual
def uptoBulk {H : Type} : DataW H → Nat
  | .lit (.string bytes) => bytes.length + 1
  | .lit _ => 1
  | .nil => 1
  | .ptr d => uptoBulk d + 1
  | .slice elems spare => uptoBulkAll elems + uptoBulkAll spare + 1
  | .agg parts => uptoBulkAll parts + 1
  | .iface _ d => uptoBulk d + 1
  | .map entries => uptoBulkEntries entries + 1
  | .held _ => 1
def uptoBulkAll {H : Type} : List (DataW H) → Nat
  | [] => 0
  | d :: r => uptoBulk d + uptoBulkAll r
def uptoBulkEntries {H : Type} : List (Lit × DataW H) → Nat
  | [] => 0
  | x :: r => uptoBulkEntry x + uptoBulkEntries r
def uptoBulkEntry {H : Type} : Lit × DataW H → Nat
  | (.string bytes, d) => bytes.length + uptoBulk d + 1
  | (_, d) => uptoBulk d + 1
 end
def uptoSmall : (H : Type) → List (DataW H) → Bool := fun _ ds => decide (uptoBulkAll ds ≤ 1048576)
def OpenSpec.upto (s : _root_.Go.ChangeSpec) : _root_.Go.OpenSpec := { _root_.Go.OpenSpec.ofChange s with cond := some uptoSmall }

/-- 'veilstonelaw29.HistoryPaths', WHERE WHAT IT READS IS OF BULK AT MOST 1048576: true; the input reads as it did. -/
def historyPathsUptoRow : OpenClaim := { program := "ytljlhoekpjkgoaa", sum := "0035001b9fe5852532e59cbb676774d08e72cd383f3e4f17834f931a9d38f369", func := "veilstone/veilstonelaw29.HistoryPaths", spec := "historyPaths", inPlace := ["internal/bytealg.IndexByteString", "internal/bytealg.IndexString", "internal/bytealg.abigen_runtime_cmpstring", "slices.overlaps[veilstone/api.Commit]", "slices.overlaps[veilstone/api.Ref]"], unfollowed := true, recurses := true, named := ["internal/bytealg.MaxLen"], apart := false, narrowed := true }
def HistoryPathsUptoSaid : Prop := historyPathsUptoRow.holds Try.pinned (OpenSpec.upto historyPathsSpec)

/-- 'veilstonelaw29.HistoryTags', WHERE WHAT IT READS IS OF BULK AT MOST 1048576: true; the input reads as it did. -/
def historyTagsUptoRow : OpenClaim := { program := "ytljlhoekpjkgoaa", sum := "0035001b9fe5852532e59cbb676774d08e72cd383f3e4f17834f931a9d38f369", func := "veilstone/veilstonelaw29.HistoryTags", spec := "historyTags", inPlace := ["internal/bytealg.IndexByteString", "internal/bytealg.IndexString", "internal/bytealg.abigen_runtime_cmpstring", "slices.overlaps[veilstone/api.Commit]", "slices.overlaps[veilstone/api.Ref]"], unfollowed := true, recurses := true, named := ["internal/bytealg.MaxLen"], apart := false, narrowed := true }
def HistoryTagsUptoSaid : Prop := historyTagsUptoRow.holds Try.pinned (OpenSpec.upto historyTagsSpec)

/-- 'veilstonelaw29.HistoryAncestorSpec', WHERE WHAT IT READS IS OF BULK AT MOST 1048576: true; the input reads as it did. -/
def historyAncestorSpecUptoRow : OpenClaim := { program := "ytljlhoekpjkgoaa", sum := "0035001b9fe5852532e59cbb676774d08e72cd383f3e4f17834f931a9d38f369", func := "veilstone/veilstonelaw29.HistoryAncestorSpec", spec := "historyAncestorSpec", inPlace := ["internal/bytealg.IndexByteString", "internal/bytealg.IndexString", "internal/bytealg.abigen_runtime_cmpstring", "slices.overlaps[veilstone/api.Commit]", "slices.overlaps[veilstone/api.Ref]"], unfollowed := true, recurses := true, named := ["internal/bytealg.MaxLen"], apart := false, narrowed := true }
def HistoryAncestorSpecUptoSaid : Prop := historyAncestorSpecUptoRow.holds Try.pinned (OpenSpec.upto historyAncestorSpecSpec)

/-- 'veilstonelaw29.HistoryGrows', WHERE WHAT IT READS IS OF BULK AT MOST 1048576: true; the input reads as it did. -/
def historyGrowsUptoRow : OpenClaim := { program := "ytljlhoekpjkgoaa", sum := "0035001b9fe5852532e59cbb676774d08e72cd383f3e4f17834f931a9d38f369", func := "veilstone/veilstonelaw29.HistoryGrows", spec := "historyGrows", inPlace := ["internal/bytealg.IndexByteString", "internal/bytealg.IndexString", "internal/bytealg.abigen_runtime_cmpstring", "slices.overlaps[veilstone/api.Commit]", "slices.overlaps[veilstone/api.Ref]"], unfollowed := true, recurses := true, named := ["internal/bytealg.MaxLen"], apart := false, narrowed := true }
def HistoryGrowsUptoSaid : Prop := historyGrowsUptoRow.holds Try.pinned (OpenSpec.upto historyGrowsSpec)

/-- 'veilstonelaw29.HistoryAncestry', WHERE WHAT IT READS IS OF BULK AT MOST 1048576: true; the input reads as it did. -/
def historyAncestryUptoRow : OpenClaim := { program := "ytljlhoekpjkgoaa", sum := "0035001b9fe5852532e59cbb676774d08e72cd383f3e4f17834f931a9d38f369", func := "veilstone/veilstonelaw29.HistoryAncestry", spec := "historyAncestry", inPlace := ["internal/bytealg.IndexByteString", "internal/bytealg.IndexString", "internal/bytealg.abigen_runtime_cmpstring", "slices.overlaps[veilstone/api.Commit]", "slices.overlaps[veilstone/api.Ref]"], unfollowed := true, recurses := true, named := ["internal/bytealg.MaxLen"], apart := false, narrowed := true }
def HistoryAncestryUptoSaid : Prop := historyAncestryUptoRow.holds Try.pinned (OpenSpec.upto historyAncestrySpec)

/-- 'veilstonelaw29.HistoryCommon', WHERE WHAT IT READS IS OF BULK AT MOST 1048576: true; the input reads as it did. -/
def historyCommonUptoRow : OpenClaim := { program := "ytljlhoekpjkgoaa", sum := "0035001b9fe5852532e59cbb676774d08e72cd383f3e4f17834f931a9d38f369", func := "veilstone/veilstonelaw29.HistoryCommon", spec := "historyCommon", inPlace := ["internal/bytealg.IndexByteString", "internal/bytealg.IndexString", "internal/bytealg.abigen_runtime_cmpstring", "slices.overlaps[veilstone/api.Commit]", "slices.overlaps[veilstone/api.Ref]"], unfollowed := true, recurses := true, named := ["internal/bytealg.MaxLen"], apart := false, narrowed := true }
def HistoryCommonUptoSaid : Prop := historyCommonUptoRow.holds Try.pinned (OpenSpec.upto historyCommonSpec)

end Rows
end Go.Proofs.Ytljlhoekpjkgoaa
