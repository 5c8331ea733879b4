/-
  No cell of these rows narrows 'for every input' (looked for: loops, veiled, ifaces, maps, wideKeys, modest, calm, conditions, laid).
  DERIVED. THE GIVEN ROWS OF THIS SEAT. 4 by the template 'for every input the law returns true; each argument reads behind the call as it read before'; 0 by the template 'total and deterministic' (their statements: YtjjkgamklbgnlaaGreatTotals.lean).
  GIVEN WITH THE SEED: the statements are not yours to turn. If you find one false, say at which input.
  Laid BY PROGRAM, IN A SANDBOX (cutbox-rows.mjs): the forced cells as the released guide's own fill.sh prints them over the translation d557ec0a9c6b4bcf… (all of the seat's roots in one cut). By AI agents, Wed Nov 11 2026. No macro, syntax, notation, axiom, sorry.
-/
import Derived.Test.YtjjkgamklbgnlaaGreatChecked
import GoSem.Claim
import GoSem.ClaimJoined
import GoSem.ClaimMapViews
import Derived.JoinedTies
import Derived.KernelRfl
namespace Go.Proofs.YtjjkgamklbgnlaaGreat
/- THE CELL 'sum', in the pinned program and in every row, IS THE sha256 OF THE DUMP (.gsa) THAT YtjjkgamklbgnlaaGreatProg.lean LOADS. Nothing in Lean hashes anything: it is a label: what it is worth is what the hold of that sum in a sandbox is worth. -/
noncomputable def Tryz.pinned : Pinned := { name := "ytjjkgamklbgnlaagreat", sum := "d557ec0a9c6b4bcf6d6424aa73b1888af15370d37ac4c8eef3335254ebe3063b", checked := Tryz.checked }
namespace Rows
def none {H : Type} : Left H := { results := [], args := [] }

/-- 'boundstonelaw05.StoneCoursesAsSpecified': WHATEVER THE INPUT: true; the input reads as it did. -/
def stoneCoursesAsSpecifiedSpec : ChangeSpec := { name := "stoneCoursesAsSpecified", fn := fun _ => fun
  | [d1, d2] => { results := [.lit (.bool true)], args := [d1, d2] }
  | _ => none }
def stoneCoursesAsSpecifiedRow : OpenClaim := { program := "ytjjkgamklbgnlaagreat", sum := "d557ec0a9c6b4bcf6d6424aa73b1888af15370d37ac4c8eef3335254ebe3063b", func := "boundstone/boundstonelaw05.StoneCoursesAsSpecified", spec := "stoneCoursesAsSpecified", unfollowed := true, recurses := true, apart := false }
def StoneCoursesAsSpecifiedSaid : Prop := stoneCoursesAsSpecifiedRow.holds Tryz.pinned (OpenSpec.ofChange stoneCoursesAsSpecifiedSpec)

/-- ITS FALSE NEIGHBOUR: 'it returns false'. Refute it at one input. -/
def stoneCoursesAsSpecifiedWrong : ChangeSpec := { name := "stoneCoursesAsSpecified", fn := fun _ => fun
  | [d1, d2] => { results := [.lit (.bool false)], args := [d1, d2] }
  | _ => none }
def StoneCoursesAsSpecifiedWrongFalsely : Prop := stoneCoursesAsSpecifiedRow.holds Tryz.pinned (OpenSpec.ofChange stoneCoursesAsSpecifiedWrong)

/-- 'boundstonelaw05.StoneNeedsAsSpecified': WHATEVER THE INPUT: true; the input reads as it did. -/
def stoneNeedsAsSpecifiedSpec : ChangeSpec := { name := "stoneNeedsAsSpecified", fn := fun _ => fun
  | [d] => { results := [.lit (.bool true)], args := [d] }
  | _ => none }
def stoneNeedsAsSpecifiedRow : OpenClaim := { program := "ytjjkgamklbgnlaagreat", sum := "d557ec0a9c6b4bcf6d6424aa73b1888af15370d37ac4c8eef3335254ebe3063b", func := "boundstone/boundstonelaw05.StoneNeedsAsSpecified", spec := "stoneNeedsAsSpecified", unfollowed := true, recurses := true, apart := false }
def StoneNeedsAsSpecifiedSaid : Prop := stoneNeedsAsSpecifiedRow.holds Tryz.pinned (OpenSpec.ofChange stoneNeedsAsSpecifiedSpec)

/-- ITS FALSE NEIGHBOUR: 'it returns false'. Refute it at one input. -/
def stoneNeedsAsSpecifiedWrong : ChangeSpec := { name := "stoneNeedsAsSpecified", fn := fun _ => fun
  | [d] => { results := [.lit (.bool false)], args := [d] }
  | _ => none }
def StoneNeedsAsSpecifiedWrongFalsely : Prop := stoneNeedsAsSpecifiedRow.holds Tryz.pinned (OpenSpec.ofChange stoneNeedsAsSpecifiedWrong)

/-- 'boundstonelaw05.StoneMoreChanges': WHATEVER THE INPUT: true; the input reads as it did. -/
def stoneMoreChangesSpec : ChangeSpec := { name := "stoneMoreChanges", fn := fun _ => fun
  | [d1, d2, d3] => { results := [.lit (.bool true)], args := [d1, d2, d3] }
  | _ => none }
def stoneMoreChangesRow : OpenClaim := { program := "ytjjkgamklbgnlaagreat", sum := "d557ec0a9c6b4bcf6d6424aa73b1888af15370d37ac4c8eef3335254ebe3063b", func := "boundstone/boundstonelaw05.StoneMoreChanges", spec := "stoneMoreChanges", unfollowed := true, recurses := true, apart := false }
def StoneMoreChangesSaid : Prop := stoneMoreChangesRow.holds Tryz.pinned (OpenSpec.ofChange stoneMoreChangesSpec)

/-- ITS FALSE NEIGHBOUR: 'it returns false'. Refute it at one input. -/
def stoneMoreChangesWrong : ChangeSpec := { name := "stoneMoreChanges", fn := fun _ => fun
  | [d1, d2, d3] => { results := [.lit (.bool false)], args := [d1, d2, d3] }
  | _ => none }
def StoneMoreChangesWrongFalsely : Prop := stoneMoreChangesRow.holds Tryz.pinned (OpenSpec.ofChange stoneMoreChangesWrong)

/-- 'boundstonelaw05.StonePatternsAsSpecified': WHATEVER THE INPUT: true; the input reads as it did. -/
def stonePatternsAsSpecifiedSpec : ChangeSpec := { name := "stonePatternsAsSpecified", fn := fun _ => fun
  | [d1, d2, d3] => { results := [.lit (.bool true)], args := [d1, d2, d3] }
  | _ => none }
def stonePatternsAsSpecifiedRow : OpenClaim := { program := "ytjjkgamklbgnlaagreat", sum := "d557ec0a9c6b4bcf6d6424aa73b1888af15370d37ac4c8eef3335254ebe3063b", func := "boundstone/boundstonelaw05.StonePatternsAsSpecified", spec := "stonePatternsAsSpecified", unfollowed := true, recurses := true, apart := false }
def StonePatternsAsSpecifiedSaid : Prop := stonePatternsAsSpecifiedRow.holds Tryz.pinned (OpenSpec.ofChange stonePatternsAsSpecifiedSpec)

/-- ITS FALSE NEIGHBOUR: 'it returns false'. Refute it at one input. -/
def stonePatternsAsSpecifiedWrong : ChangeSpec := { name := "stonePatternsAsSpecified", fn := fun _ => fun
  | [d1, d2, d3] => { results := [.lit (.bool false)], args := [d1, d2, d3] }
  | _ => none }
def StonePatternsAsSpecifiedWrongFalsely : Prop := stonePatternsAsSpecifiedRow.holds Tryz.pinned (OpenSpec.ofChange stonePatternsAsSpecifiedWrong)

/- THE SECOND FORM. 'bulk': how many values and letters a reading holds, each counted each time it is reached (what is shared counts as often as it is met; a slice's spare places count too). A statement '..UptoSaid' is the law's where the arguments, and the package variables that the reading takes, are together of bulk at most 1048576: NARROWER than '..Said'. Prove '..Said' where nothing that the law and all that it calls make is longer than what came in: it says more and counts as full. Else prove '..UptoSaid'. A law counts once. -/
mutual
def uptoBulk {H : Type} : DataW H → Nat
  | .lit (.string bytes) => bytes.length + 1
  | .lit _ => 1
  | .nil => 1
  | .ptr d => uptoBulk d + 1
  | .slice elems spare => uptoBulkAll elems + uptoBulkAll spare + 1
  | .agg parts => uptoBulkAll parts + 1
  | .iface _ d => uptoBulk d + 1
  | .map entries => uptoBulkEntries entries + 1
  | .held _ => 1
def uptoBulkAll {H : Type} : List (DataW H) → Nat
  | [] => 0
  | d :: r => uptoBulk d + uptoBulkAll r
def uptoBulkEntries {H : Type} : List (Lit × DataW H) → Nat
  | [] => 0
  | x :: r => uptoBulkEntry x + uptoBulkEntries r
def uptoBulkEntry {H : Type} : Lit × DataW H → Nat
  | (.string bytes, d) => bytes.length + uptoBulk d + 1
  | (_, d) => uptoBulk d + 1
 end
def uptoSmall : (H : Type) → List (DataW H) → Bool := fun _ ds => decide (uptoBulkAll ds ≤ 1048576)
def OpenSpec.upto (s : _root_.Go.ChangeSpec) : _root_.Go.OpenSpec := { _root_.Go.OpenSpec.ofChange s with cond := some uptoSmall }

/-- 'boundstonelaw05.StoneCoursesAsSpecified', WHERE WHAT IT READS IS OF BULK AT MOST 1048576: true; the input reads as it did. -/
def stoneCoursesAsSpecifiedUptoRow : OpenClaim := { program := "ytjjkgamklbgnlaagreat", sum := "d557ec0a9c6b4bcf6d6424aa73b1888af15370d37ac4c8eef3335254ebe3063b", func := "boundstone/boundstonelaw05.StoneCoursesAsSpecified", spec := "stoneCoursesAsSpecified", unfollowed := true, recurses := true, apart := false, narrowed := true }
def StoneCoursesAsSpecifiedUptoSaid : Prop := stoneCoursesAsSpecifiedUptoRow.holds Tryz.pinned (OpenSpec.upto stoneCoursesAsSpecifiedSpec)

/-- 'boundstonelaw05.StoneNeedsAsSpecified', WHERE WHAT IT READS IS OF BULK AT MOST 1048576: true; the input reads as it did. -/
def stoneNeedsAsSpecifiedUptoRow : OpenClaim := { program := "ytjjkgamklbgnlaagreat", sum := "d557ec0a9c6b4bcf6d6424aa73b1888af15370d37ac4c8eef3335254ebe3063b", func := "boundstone/boundstonelaw05.StoneNeedsAsSpecified", spec := "stoneNeedsAsSpecified", unfollowed := true, recurses := true, apart := false, narrowed := true }
def StoneNeedsAsSpecifiedUptoSaid : Prop := stoneNeedsAsSpecifiedUptoRow.holds Tryz.pinned (OpenSpec.upto stoneNeedsAsSpecifiedSpec)

/-- 'boundstonelaw05.StoneMoreChanges', WHERE WHAT IT READS IS OF BULK AT MOST 1048576: true; the input reads as it did. -/
def stoneMoreChangesUptoRow : OpenClaim := { program := "ytjjkgamklbgnlaagreat", sum := "d557ec0a9c6b4bcf6d6424aa73b1888af15370d37ac4c8eef3335254ebe3063b", func := "boundstone/boundstonelaw05.StoneMoreChanges", spec := "stoneMoreChanges", unfollowed := true, recurses := true, apart := false, narrowed := true }
def StoneMoreChangesUptoSaid : Prop := stoneMoreChangesUptoRow.holds Tryz.pinned (OpenSpec.upto stoneMoreChangesSpec)

/-- 'boundstonelaw05.StonePatternsAsSpecified', WHERE WHAT IT READS IS OF BULK AT MOST 1048576: true; the input reads as it did. -/
def stonePatternsAsSpecifiedUptoRow : OpenClaim := { program := "ytjjkgamklbgnlaagreat", sum := "d557ec0a9c6b4bcf6d6424aa73b1888af15370d37ac4c8eef3335254ebe3063b", func := "boundstone/boundstonelaw05.StonePatternsAsSpecified", spec := "stonePatternsAsSpecified", unfollowed := true, recurses := true, apart := false, narrowed := true }
def StonePatternsAsSpecifiedUptoSaid : Prop := stonePatternsAsSpecifiedUptoRow.holds Tryz.pinned (OpenSpec.upto stonePatternsAsSpecifiedSpec)

end Rows
end Go.Proofs.YtjjkgamklbgnlaaGreat
