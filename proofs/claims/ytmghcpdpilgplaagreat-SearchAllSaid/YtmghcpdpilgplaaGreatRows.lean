/-
  No cell of these rows narrows 'for every input' (looked for: loops, veiled, ifaces, maps, wideKeys, modest, calm, conditions, laid).
  DERIVED. THE GIVEN ROWS OF THIS SEAT. 6 by the template 'for every input the law returns true; each argument reads behind the call as it read before'; 0 by the template 'total and deterministic' (their statements: YtmghcpdpilgplaaGreatTotals.lean).
  GIVEN WITH THE SEED: the statements are not yours to turn. If you find one false, say at which input.
  Laid BY PROGRAM, IN A SANDBOX (cutbox-rows.mjs): the forced cells as the released guide's own fill.sh prints them over the translation d891b06cbe08e06f… (all of the seat's roots in one cut). By AI agents, Wed Nov 11 2026. No macro, syntax, notation, axiom, sorry.
-/
import Derived.Test.YtmghcpdpilgplaaGreatChecked
import GoSem.Claim
import GoSem.ClaimJoined
import GoSem.ClaimMapViews
import Derived.JoinedTies
import Derived.KernelRfl
namespace Go.Proofs.YtmghcpdpilgplaaGreat
/- THE CELL 'sum', in the pinned program and in every row, IS THE sha256 OF THE DUMP (.gsa) THAT YtmghcpdpilgplaaGreatProg.lean LOADS. Nothing in Lean hashes anything: it is a label: what it is worth is what the hold of that sum in a sandbox is worth. -/
noncomputable def Tryz.pinned : Pinned := { name := "ytmghcpdpilgplaagreat", sum := "d891b06cbe08e06f58a583aefd90a8b8a4733b6347e4bbaa33a7c3d0fba156b3", checked := Tryz.checked }
namespace Rows
def none {H : Type} : Left H := { results := [], args := [] }

/-- 'boundstonelaw03.SearchAllows': WHATEVER THE INPUT: true; the input reads as it did. -/
def searchAllowsSpec : ChangeSpec := { name := "searchAllows", fn := fun _ => fun
  | [d1, d2] => { results := [.lit (.bool true)], args := [d1, d2] }
  | _ => none }
def searchAllowsRow : OpenClaim := { program := "ytmghcpdpilgplaagreat", sum := "d891b06cbe08e06f58a583aefd90a8b8a4733b6347e4bbaa33a7c3d0fba156b3", func := "boundstone/boundstonelaw03.SearchAllows", spec := "searchAllows", unfollowed := true, recurses := true, apart := false }
def SearchAllowsSaid : Prop := searchAllowsRow.holds Tryz.pinned (OpenSpec.ofChange searchAllowsSpec)

/-- ITS FALSE NEIGHBOUR: 'it returns false'. Refute it at one input. -/
def searchAllowsWrong : ChangeSpec := { name := "searchAllows", fn := fun _ => fun
  | [d1, d2] => { results := [.lit (.bool false)], args := [d1, d2] }
  | _ => none }
def SearchAllowsWrongFalsely : Prop := searchAllowsRow.holds Tryz.pinned (OpenSpec.ofChange searchAllowsWrong)

/-- 'boundstonelaw03.SearchFacts': WHATEVER THE INPUT: true; the input reads as it did. -/
def searchFactsSpec : ChangeSpec := { name := "searchFacts", fn := fun _ => fun
  | [d1, d2, d3] => { results := [.lit (.bool true)], args := [d1, d2, d3] }
  | _ => none }
def searchFactsRow : OpenClaim := { program := "ytmghcpdpilgplaagreat", sum := "d891b06cbe08e06f58a583aefd90a8b8a4733b6347e4bbaa33a7c3d0fba156b3", func := "boundstone/boundstonelaw03.SearchFacts", spec := "searchFacts", unfollowed := true, recurses := true, apart := false }
def SearchFactsSaid : Prop := searchFactsRow.holds Tryz.pinned (OpenSpec.ofChange searchFactsSpec)

/-- ITS FALSE NEIGHBOUR: 'it returns false'. Refute it at one input. -/
def searchFactsWrong : ChangeSpec := { name := "searchFacts", fn := fun _ => fun
  | [d1, d2, d3] => { results := [.lit (.bool false)], args := [d1, d2, d3] }
  | _ => none }
def SearchFactsWrongFalsely : Prop := searchFactsRow.holds Tryz.pinned (OpenSpec.ofChange searchFactsWrong)

/-- 'boundstonelaw03.SearchNarrows': WHATEVER THE INPUT: true; the input reads as it did. -/
def searchNarrowsSpec : ChangeSpec := { name := "searchNarrows", fn := fun _ => fun
  | [d] => { results := [.lit (.bool true)], args := [d] }
  | _ => none }
def searchNarrowsRow : OpenClaim := { program := "ytmghcpdpilgplaagreat", sum := "d891b06cbe08e06f58a583aefd90a8b8a4733b6347e4bbaa33a7c3d0fba156b3", func := "boundstone/boundstonelaw03.SearchNarrows", spec := "searchNarrows", unfollowed := true, recurses := true, apart := false }
def SearchNarrowsSaid : Prop := searchNarrowsRow.holds Tryz.pinned (OpenSpec.ofChange searchNarrowsSpec)

/-- ITS FALSE NEIGHBOUR: 'it returns false'. Refute it at one input. -/
def searchNarrowsWrong : ChangeSpec := { name := "searchNarrows", fn := fun _ => fun
  | [d] => { results := [.lit (.bool false)], args := [d] }
  | _ => none }
def SearchNarrowsWrongFalsely : Prop := searchNarrowsRow.holds Tryz.pinned (OpenSpec.ofChange searchNarrowsWrong)

/-- 'boundstonelaw03.SearchSolves': WHATEVER THE INPUT: true; the input reads as it did. -/
def searchSolvesSpec : ChangeSpec := { name := "searchSolves", fn := fun _ => fun
  | [d] => { results := [.lit (.bool true)], args := [d] }
  | _ => none }
def searchSolvesRow : OpenClaim := { program := "ytmghcpdpilgplaagreat", sum := "d891b06cbe08e06f58a583aefd90a8b8a4733b6347e4bbaa33a7c3d0fba156b3", func := "boundstone/boundstonelaw03.SearchSolves", spec := "searchSolves", unfollowed := true, recurses := true, apart := false }
def SearchSolvesSaid : Prop := searchSolvesRow.holds Tryz.pinned (OpenSpec.ofChange searchSolvesSpec)

/-- ITS FALSE NEIGHBOUR: 'it returns false'. Refute it at one input. -/
def searchSolvesWrong : ChangeSpec := { name := "searchSolves", fn := fun _ => fun
  | [d] => { results := [.lit (.bool false)], args := [d] }
  | _ => none }
def SearchSolvesWrongFalsely : Prop := searchSolvesRow.holds Tryz.pinned (OpenSpec.ofChange searchSolvesWrong)

/-- 'boundstonelaw03.SearchCores': WHATEVER THE INPUT: true; the input reads as it did. -/
def searchCoresSpec : ChangeSpec := { name := "searchCores", fn := fun _ => fun
  | [d1, d2] => { results := [.lit (.bool true)], args := [d1, d2] }
  | _ => none }
def searchCoresRow : OpenClaim := { program := "ytmghcpdpilgplaagreat", sum := "d891b06cbe08e06f58a583aefd90a8b8a4733b6347e4bbaa33a7c3d0fba156b3", func := "boundstone/boundstonelaw03.SearchCores", spec := "searchCores", unfollowed := true, recurses := true, apart := false }
def SearchCoresSaid : Prop := searchCoresRow.holds Tryz.pinned (OpenSpec.ofChange searchCoresSpec)

/-- ITS FALSE NEIGHBOUR: 'it returns false'. Refute it at one input. -/
def searchCoresWrong : ChangeSpec := { name := "searchCores", fn := fun _ => fun
  | [d1, d2] => { results := [.lit (.bool false)], args := [d1, d2] }
  | _ => none }
def SearchCoresWrongFalsely : Prop := searchCoresRow.holds Tryz.pinned (OpenSpec.ofChange searchCoresWrong)

/-- 'boundstonelaw03.SearchAll': WHATEVER THE INPUT: true; the input reads as it did. -/
def searchAllSpec : ChangeSpec := { name := "searchAll", fn := fun _ => fun
  | [d] => { results := [.lit (.bool true)], args := [d] }
  | _ => none }
def searchAllRow : OpenClaim := { program := "ytmghcpdpilgplaagreat", sum := "d891b06cbe08e06f58a583aefd90a8b8a4733b6347e4bbaa33a7c3d0fba156b3", func := "boundstone/boundstonelaw03.SearchAll", spec := "searchAll", unfollowed := true, recurses := true, apart := false }
def SearchAllSaid : Prop := searchAllRow.holds Tryz.pinned (OpenSpec.ofChange searchAllSpec)

/-- ITS FALSE NEIGHBOUR: 'it returns false'. Refute it at one input. -/
def searchAllWrong : ChangeSpec := { name := "searchAll", fn := fun _ => fun
  | [d] => { results := [.lit (.bool false)], args := [d] }
  | _ => none }
def SearchAllWrongFalsely : Prop := searchAllRow.holds Tryz.pinned (OpenSpec.ofChange searchAllWrong)

/- THE SECOND FORM. 'bulk': how many values and letters a reading holds, each counted each time it is reached (what is shared counts as often as it is met; a slice's spare places count too). A statement '..UptoSaid' is the law's where the arguments, and the package variables that the reading takes, are together of bulk at most 1048576: NARROWER than '..Said'. Prove '..Said' where nothing that the law and all that it calls make is longer than what came in: it says more and counts as full. Else prove '..UptoSaid'. A law counts once. -/
mutual
def uptoBulk {H : Type} : DataW H → Nat
  | .lit (.string bytes) => bytes.length + 1
  | .lit _ => 1
  | .nil => 1
  | .ptr d => uptoBulk d + 1
  | .slice elems spare => uptoBulkAll elems + uptoBulkAll spare + 1
  | .agg parts => uptoBulkAll parts + 1
  | .iface _ d => uptoBulk d + 1
  | .map entries => uptoBulkEntries entries + 1
  | .held _ => 1
def uptoBulkAll {H : Type} : List (DataW H) → Nat
  | [] => 0
  | d :: r => uptoBulk d + uptoBulkAll r
def uptoBulkEntries {H : Type} : List (Lit × DataW H) → Nat
  | [] => 0
  | x :: r => uptoBulkEntry x + uptoBulkEntries r
def uptoBulkEntry {H : Type} : Lit × DataW H → Nat
  | (.string bytes, d) => bytes.length + uptoBulk d + 1
  | (_, d) => uptoBulk d + 1
 end
def uptoSmall : (H : Type) → List (DataW H) → Bool := fun _ ds => decide (uptoBulkAll ds ≤ 1048576)
def OpenSpec.upto (s : _root_.Go.ChangeSpec) : _root_.Go.OpenSpec := { _root_.Go.OpenSpec.ofChange s with cond := some uptoSmall }

/-- 'boundstonelaw03.SearchAllows', WHERE WHAT IT READS IS OF BULK AT MOST 1048576: true; the input reads as it did. -/
def searchAllowsUptoRow : OpenClaim := { program := "ytmghcpdpilgplaagreat", sum := "d891b06cbe08e06f58a583aefd90a8b8a4733b6347e4bbaa33a7c3d0fba156b3", func := "boundstone/boundstonelaw03.SearchAllows", spec := "searchAllows", unfollowed := true, recurses := true, apart := false, narrowed := true }
def SearchAllowsUptoSaid : Prop := searchAllowsUptoRow.holds Tryz.pinned (OpenSpec.upto searchAllowsSpec)

/-- 'boundstonelaw03.SearchFacts', WHERE WHAT IT READS IS OF BULK AT MOST 1048576: true; the input reads as it did. -/
def searchFactsUptoRow : OpenClaim := { program := "ytmghcpdpilgplaagreat", sum := "d891b06cbe08e06f58a583aefd90a8b8a4733b6347e4bbaa33a7c3d0fba156b3", func := "boundstone/boundstonelaw03.SearchFacts", spec := "searchFacts", unfollowed := true, recurses := true, apart := false, narrowed := true }
def SearchFactsUptoSaid : Prop := searchFactsUptoRow.holds Tryz.pinned (OpenSpec.upto searchFactsSpec)

/-- 'boundstonelaw03.SearchNarrows', WHERE WHAT IT READS IS OF BULK AT MOST 1048576: true; the input reads as it did. -/
def searchNarrowsUptoRow : OpenClaim := { program := "ytmghcpdpilgplaagreat", sum := "d891b06cbe08e06f58a583aefd90a8b8a4733b6347e4bbaa33a7c3d0fba156b3", func := "boundstone/boundstonelaw03.SearchNarrows", spec := "searchNarrows", unfollowed := true, recurses := true, apart := false, narrowed := true }
def SearchNarrowsUptoSaid : Prop := searchNarrowsUptoRow.holds Tryz.pinned (OpenSpec.upto searchNarrowsSpec)

/-- 'boundstonelaw03.SearchSolves', WHERE WHAT IT READS IS OF BULK AT MOST 1048576: true; the input reads as it did. -/
def searchSolvesUptoRow : OpenClaim := { program := "ytmghcpdpilgplaagreat", sum := "d891b06cbe08e06f58a583aefd90a8b8a4733b6347e4bbaa33a7c3d0fba156b3", func := "boundstone/boundstonelaw03.SearchSolves", spec := "searchSolves", unfollowed := true, recurses := true, apart := false, narrowed := true }
def SearchSolvesUptoSaid : Prop := searchSolvesUptoRow.holds Tryz.pinned (OpenSpec.upto searchSolvesSpec)

/-- 'boundstonelaw03.SearchCores', WHERE WHAT IT READS IS OF BULK AT MOST 1048576: true; the input reads as it did. -/
def searchCoresUptoRow : OpenClaim := { program := "ytmghcpdpilgplaagreat", sum := "d891b06cbe08e06f58a583aefd90a8b8a4733b6347e4bbaa33a7c3d0fba156b3", func := "boundstone/boundstonelaw03.SearchCores", spec := "searchCores", unfollowed := true, recurses := true, apart := false, narrowed := true }
def SearchCoresUptoSaid : Prop := searchCoresUptoRow.holds Tryz.pinned (OpenSpec.upto searchCoresSpec)

/-- 'boundstonelaw03.SearchAll', WHERE WHAT IT READS IS OF BULK AT MOST 1048576: true; the input reads as it did. -/
def searchAllUptoRow : OpenClaim := { program := "ytmghcpdpilgplaagreat", sum := "d891b06cbe08e06f58a583aefd90a8b8a4733b6347e4bbaa33a7c3d0fba156b3", func := "boundstone/boundstonelaw03.SearchAll", spec := "searchAll", unfollowed := true, recurses := true, apart := false, narrowed := true }
def SearchAllUptoSaid : Prop := searchAllUptoRow.holds Tryz.pinned (OpenSpec.upto searchAllSpec)

end Rows
end Go.Proofs.YtmghcpdpilgplaaGreat
