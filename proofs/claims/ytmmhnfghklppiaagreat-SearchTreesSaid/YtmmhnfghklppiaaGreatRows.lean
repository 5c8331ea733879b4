/-
  No cell of these rows narrows 'for every input' (looked for: loops, veiled, ifaces, maps, wideKeys, modest, calm, conditions, laid).
  DERIVED. THE GIVEN ROWS OF THIS SEAT. 6 by the template 'for every input the law returns true; each argument reads behind the call as it read before'; 0 by the template 'total and deterministic' (their statements: YtmmhnfghklppiaaGreatTotals.lean).
  GIVEN WITH THE SEED: the statements are not yours to turn. If you find one false, say at which input.
  Laid BY PROGRAM, IN A SANDBOX (cutbox-rows.mjs): the forced cells as the released guide's own fill.sh prints them over the translation b16524924cc43b42… (all of the seat's roots in one cut). By AI agents, Wed Nov 11 2026. No macro, syntax, notation, axiom, sorry.
-/
import Derived.Test.YtmmhnfghklppiaaGreatChecked
import GoSem.Claim
import GoSem.ClaimJoined
import GoSem.ClaimMapViews
import Derived.JoinedTies
import Derived.KernelRfl
namespace Go.Proofs.YtmmhnfghklppiaaGreat
/- THE CELL 'sum', in the pinned program and in every row, IS THE sha256 OF THE DUMP (.gsa) THAT YtmmhnfghklppiaaGreatProg.lean LOADS. Nothing in Lean hashes anything: it is a label: what it is worth is what the hold of that sum in a sandbox is worth. -/
noncomputable def Tryz.pinned : Pinned := { name := "ytmmhnfghklppiaagreat", sum := "b16524924cc43b420a9f49e8167bcf3f855391e3fdb022b8a494167a366cdfcf", checked := Tryz.checked }
namespace Rows
def none {H : Type} : Left H := { results := [], args := [] }

/-- 'boundstonelaw03.SearchRefutes': WHATEVER THE INPUT: true; the input reads as it did. -/
def searchRefutesSpec : ChangeSpec := { name := "searchRefutes", fn := fun _ => fun
  | [d] => { results := [.lit (.bool true)], args := [d] }
  | _ => none }
def searchRefutesRow : OpenClaim := { program := "ytmmhnfghklppiaagreat", sum := "b16524924cc43b420a9f49e8167bcf3f855391e3fdb022b8a494167a366cdfcf", func := "boundstone/boundstonelaw03.SearchRefutes", spec := "searchRefutes", unfollowed := true, recurses := true, apart := false }
def SearchRefutesSaid : Prop := searchRefutesRow.holds Tryz.pinned (OpenSpec.ofChange searchRefutesSpec)

/-- ITS FALSE NEIGHBOUR: 'it returns false'. Refute it at one input. -/
def searchRefutesWrong : ChangeSpec := { name := "searchRefutes", fn := fun _ => fun
  | [d] => { results := [.lit (.bool false)], args := [d] }
  | _ => none }
def SearchRefutesWrongFalsely : Prop := searchRefutesRow.holds Tryz.pinned (OpenSpec.ofChange searchRefutesWrong)

/-- 'boundstonelaw03.SearchDecides': WHATEVER THE INPUT: true; the input reads as it did. -/
def searchDecidesSpec : ChangeSpec := { name := "searchDecides", fn := fun _ => fun
  | [d1, d2] => { results := [.lit (.bool true)], args := [d1, d2] }
  | _ => none }
def searchDecidesRow : OpenClaim := { program := "ytmmhnfghklppiaagreat", sum := "b16524924cc43b420a9f49e8167bcf3f855391e3fdb022b8a494167a366cdfcf", func := "boundstone/boundstonelaw03.SearchDecides", spec := "searchDecides", unfollowed := true, recurses := true, apart := false }
def SearchDecidesSaid : Prop := searchDecidesRow.holds Tryz.pinned (OpenSpec.ofChange searchDecidesSpec)

/-- ITS FALSE NEIGHBOUR: 'it returns false'. Refute it at one input. -/
def searchDecidesWrong : ChangeSpec := { name := "searchDecides", fn := fun _ => fun
  | [d1, d2] => { results := [.lit (.bool false)], args := [d1, d2] }
  | _ => none }
def SearchDecidesWrongFalsely : Prop := searchDecidesRow.holds Tryz.pinned (OpenSpec.ofChange searchDecidesWrong)

/-- 'boundstonelaw03.SearchTrees': WHATEVER THE INPUT: true; the input reads as it did. -/
def searchTreesSpec : ChangeSpec := { name := "searchTrees", fn := fun _ => fun
  | [d1, d2, d3, d4] => { results := [.lit (.bool true)], args := [d1, d2, d3, d4] }
  | _ => none }
def searchTreesRow : OpenClaim := { program := "ytmmhnfghklppiaagreat", sum := "b16524924cc43b420a9f49e8167bcf3f855391e3fdb022b8a494167a366cdfcf", func := "boundstone/boundstonelaw03.SearchTrees", spec := "searchTrees", unfollowed := true, recurses := true, apart := false }
def SearchTreesSaid : Prop := searchTreesRow.holds Tryz.pinned (OpenSpec.ofChange searchTreesSpec)

/-- ITS FALSE NEIGHBOUR: 'it returns false'. Refute it at one input. -/
def searchTreesWrong : ChangeSpec := { name := "searchTrees", fn := fun _ => fun
  | [d1, d2, d3, d4] => { results := [.lit (.bool false)], args := [d1, d2, d3, d4] }
  | _ => none }
def SearchTreesWrongFalsely : Prop := searchTreesRow.holds Tryz.pinned (OpenSpec.ofChange searchTreesWrong)

/-- 'boundstonelaw03.SearchHulls': WHATEVER THE INPUT: true; the input reads as it did. -/
def searchHullsSpec : ChangeSpec := { name := "searchHulls", fn := fun _ => fun
  | [d1, d2] => { results := [.lit (.bool true)], args := [d1, d2] }
  | _ => none }
def searchHullsRow : OpenClaim := { program := "ytmmhnfghklppiaagreat", sum := "b16524924cc43b420a9f49e8167bcf3f855391e3fdb022b8a494167a366cdfcf", func := "boundstone/boundstonelaw03.SearchHulls", spec := "searchHulls", unfollowed := true, recurses := true, apart := false }
def SearchHullsSaid : Prop := searchHullsRow.holds Tryz.pinned (OpenSpec.ofChange searchHullsSpec)

/-- ITS FALSE NEIGHBOUR: 'it returns false'. Refute it at one input. -/
def searchHullsWrong : ChangeSpec := { name := "searchHulls", fn := fun _ => fun
  | [d1, d2] => { results := [.lit (.bool false)], args := [d1, d2] }
  | _ => none }
def SearchHullsWrongFalsely : Prop := searchHullsRow.holds Tryz.pinned (OpenSpec.ofChange searchHullsWrong)

/-- 'boundstonelaw03.SearchProofs': WHATEVER THE INPUT: true; the input reads as it did. -/
def searchProofsSpec : ChangeSpec := { name := "searchProofs", fn := fun _ => fun
  | [d1, d2, d3, d4] => { results := [.lit (.bool true)], args := [d1, d2, d3, d4] }
  | _ => none }
def searchProofsRow : OpenClaim := { program := "ytmmhnfghklppiaagreat", sum := "b16524924cc43b420a9f49e8167bcf3f855391e3fdb022b8a494167a366cdfcf", func := "boundstone/boundstonelaw03.SearchProofs", spec := "searchProofs", unfollowed := true, recurses := true, apart := false }
def SearchProofsSaid : Prop := searchProofsRow.holds Tryz.pinned (OpenSpec.ofChange searchProofsSpec)

/-- ITS FALSE NEIGHBOUR: 'it returns false'. Refute it at one input. -/
def searchProofsWrong : ChangeSpec := { name := "searchProofs", fn := fun _ => fun
  | [d1, d2, d3, d4] => { results := [.lit (.bool false)], args := [d1, d2, d3, d4] }
  | _ => none }
def SearchProofsWrongFalsely : Prop := searchProofsRow.holds Tryz.pinned (OpenSpec.ofChange searchProofsWrong)

/-- 'boundstonelaw03.SearchIsRight': WHATEVER THE INPUT: true; the input reads as it did. -/
def searchIsRightSpec : ChangeSpec := { name := "searchIsRight", fn := fun _ => fun
  | [d1, d2, d3, d4, d5] => { results := [.lit (.bool true)], args := [d1, d2, d3, d4, d5] }
  | _ => none }
def searchIsRightRow : OpenClaim := { program := "ytmmhnfghklppiaagreat", sum := "b16524924cc43b420a9f49e8167bcf3f855391e3fdb022b8a494167a366cdfcf", func := "boundstone/boundstonelaw03.SearchIsRight", spec := "searchIsRight", unfollowed := true, recurses := true, apart := false }
def SearchIsRightSaid : Prop := searchIsRightRow.holds Tryz.pinned (OpenSpec.ofChange searchIsRightSpec)

/-- ITS FALSE NEIGHBOUR: 'it returns false'. Refute it at one input. -/
def searchIsRightWrong : ChangeSpec := { name := "searchIsRight", fn := fun _ => fun
  | [d1, d2, d3, d4, d5] => { results := [.lit (.bool false)], args := [d1, d2, d3, d4, d5] }
  | _ => none }
def SearchIsRightWrongFalsely : Prop := searchIsRightRow.holds Tryz.pinned (OpenSpec.ofChange searchIsRightWrong)

/- THE SECOND FORM. 'bulk': how many values and letters a reading holds, each counted each time it is reached (what is shared counts as often as it is met; a slice's spare places count too). A statement '..UptoSaid' is the law's where the arguments, and the package variables that the reading takes, are together of bulk at most 1048576: NARROWER than '..Said'. Prove '..Said' where nothing that the law and all that it calls make is longer than what came in: it says more and counts as full. Else prove '..UptoSaid'. A law counts once. -/
mutual
def uptoBulk {H : Type} : DataW H → Nat
  | .lit (.string bytes) => bytes.length + 1
  | .lit _ => 1
  | .nil => 1
  | .ptr d => uptoBulk d + 1
  | .slice elems spare => uptoBulkAll elems + uptoBulkAll spare + 1
  | .agg parts => uptoBulkAll parts + 1
  | .iface _ d => uptoBulk d + 1
  | .map entries => uptoBulkEntries entries + 1
  | .held _ => 1
def uptoBulkAll {H : Type} : List (DataW H) → Nat
  | [] => 0
  | d :: r => uptoBulk d + uptoBulkAll r
def uptoBulkEntries {H : Type} : List (Lit × DataW H) → Nat
  | [] => 0
  | x :: r => uptoBulkEntry x + uptoBulkEntries r
def uptoBulkEntry {H : Type} : Lit × DataW H → Nat
  | (.string bytes, d) => bytes.length + uptoBulk d + 1
  | (_, d) => uptoBulk d + 1
 end
def uptoSmall : (H : Type) → List (DataW H) → Bool := fun _ ds => decide (uptoBulkAll ds ≤ 1048576)
def OpenSpec.upto (s : _root_.Go.ChangeSpec) : _root_.Go.OpenSpec := { _root_.Go.OpenSpec.ofChange s with cond := some uptoSmall }

/-- 'boundstonelaw03.SearchRefutes', WHERE WHAT IT READS IS OF BULK AT MOST 1048576: true; the input reads as it did. -/
def searchRefutesUptoRow : OpenClaim := { program := "ytmmhnfghklppiaagreat", sum := "b16524924cc43b420a9f49e8167bcf3f855391e3fdb022b8a494167a366cdfcf", func := "boundstone/boundstonelaw03.SearchRefutes", spec := "searchRefutes", unfollowed := true, recurses := true, apart := false, narrowed := true }
def SearchRefutesUptoSaid : Prop := searchRefutesUptoRow.holds Tryz.pinned (OpenSpec.upto searchRefutesSpec)

/-- 'boundstonelaw03.SearchDecides', WHERE WHAT IT READS IS OF BULK AT MOST 1048576: true; the input reads as it did. -/
def searchDecidesUptoRow : OpenClaim := { program := "ytmmhnfghklppiaagreat", sum := "b16524924cc43b420a9f49e8167bcf3f855391e3fdb022b8a494167a366cdfcf", func := "boundstone/boundstonelaw03.SearchDecides", spec := "searchDecides", unfollowed := true, recurses := true, apart := false, narrowed := true }
def SearchDecidesUptoSaid : Prop := searchDecidesUptoRow.holds Tryz.pinned (OpenSpec.upto searchDecidesSpec)

/-- 'boundstonelaw03.SearchTrees', WHERE WHAT IT READS IS OF BULK AT MOST 1048576: true; the input reads as it did. -/
def searchTreesUptoRow : OpenClaim := { program := "ytmmhnfghklppiaagreat", sum := "b16524924cc43b420a9f49e8167bcf3f855391e3fdb022b8a494167a366cdfcf", func := "boundstone/boundstonelaw03.SearchTrees", spec := "searchTrees", unfollowed := true, recurses := true, apart := false, narrowed := true }
def SearchTreesUptoSaid : Prop := searchTreesUptoRow.holds Tryz.pinned (OpenSpec.upto searchTreesSpec)

/-- 'boundstonelaw03.SearchHulls', WHERE WHAT IT READS IS OF BULK AT MOST 1048576: true; the input reads as it did. -/
def searchHullsUptoRow : OpenClaim := { program := "ytmmhnfghklppiaagreat", sum := "b16524924cc43b420a9f49e8167bcf3f855391e3fdb022b8a494167a366cdfcf", func := "boundstone/boundstonelaw03.SearchHulls", spec := "searchHulls", unfollowed := true, recurses := true, apart := false, narrowed := true }
def SearchHullsUptoSaid : Prop := searchHullsUptoRow.holds Tryz.pinned (OpenSpec.upto searchHullsSpec)

/-- 'boundstonelaw03.SearchProofs', WHERE WHAT IT READS IS OF BULK AT MOST 1048576: true; the input reads as it did. -/
def searchProofsUptoRow : OpenClaim := { program := "ytmmhnfghklppiaagreat", sum := "b16524924cc43b420a9f49e8167bcf3f855391e3fdb022b8a494167a366cdfcf", func := "boundstone/boundstonelaw03.SearchProofs", spec := "searchProofs", unfollowed := true, recurses := true, apart := false, narrowed := true }
def SearchProofsUptoSaid : Prop := searchProofsUptoRow.holds Tryz.pinned (OpenSpec.upto searchProofsSpec)

/-- 'boundstonelaw03.SearchIsRight', WHERE WHAT IT READS IS OF BULK AT MOST 1048576: true; the input reads as it did. -/
def searchIsRightUptoRow : OpenClaim := { program := "ytmmhnfghklppiaagreat", sum := "b16524924cc43b420a9f49e8167bcf3f855391e3fdb022b8a494167a366cdfcf", func := "boundstone/boundstonelaw03.SearchIsRight", spec := "searchIsRight", unfollowed := true, recurses := true, apart := false, narrowed := true }
def SearchIsRightUptoSaid : Prop := searchIsRightUptoRow.holds Tryz.pinned (OpenSpec.upto searchIsRightSpec)

end Rows
end Go.Proofs.YtmmhnfghklppiaaGreat
