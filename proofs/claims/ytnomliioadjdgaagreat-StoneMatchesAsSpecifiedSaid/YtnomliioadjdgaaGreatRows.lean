/-
  No cell of these rows narrows 'for every input' (looked for: loops, veiled, ifaces, maps, wideKeys, modest, calm, conditions, laid).
  DERIVED. THE GIVEN ROWS OF THIS SEAT. 5 by the template 'for every input the law returns true; each argument reads behind the call as it read before'; 0 by the template 'total and deterministic' (their statements: YtnomliioadjdgaaGreatTotals.lean).
  GIVEN WITH THE SEED: the statements are not yours to turn. If you find one false, say at which input.
  Laid BY PROGRAM, IN A SANDBOX (cutbox-rows.mjs): the forced cells as the released guide's own fill.sh prints them over the translation 77e5f3103efc3388… (all of the seat's roots in one cut). By AI agents, Wed Nov 11 2026. No macro, syntax, notation, axiom, sorry.
-/
import Derived.Test.YtnomliioadjdgaaGreatChecked
import GoSem.Claim
import GoSem.ClaimJoined
import GoSem.ClaimMapViews
import Derived.JoinedTies
import Derived.KernelRfl
namespace Go.Proofs.YtnomliioadjdgaaGreat
/- THE CELL 'sum', in the pinned program and in every row, IS THE sha256 OF THE DUMP (.gsa) THAT YtnomliioadjdgaaGreatProg.lean LOADS. Nothing in Lean hashes anything: it is a label: what it is worth is what the hold of that sum in a sandbox is worth. -/
noncomputable def Tryz.pinned : Pinned := { name := "ytnomliioadjdgaagreat", sum := "77e5f3103efc33880c137b0a46806b60bd808f448089c069a5470b6870a04cbc", checked := Tryz.checked }
namespace Rows
def none {H : Type} : Left H := { results := [], args := [] }

/-- 'boundstonelaw05.StoneExtentsAsSpecified': WHATEVER THE INPUT: true; the input reads as it did. -/
def stoneExtentsAsSpecifiedSpec : ChangeSpec := { name := "stoneExtentsAsSpecified", fn := fun _ => fun
  | [d1, d2, d3] => { results := [.lit (.bool true)], args := [d1, d2, d3] }
  | _ => none }
def stoneExtentsAsSpecifiedRow : OpenClaim := { program := "ytnomliioadjdgaagreat", sum := "77e5f3103efc33880c137b0a46806b60bd808f448089c069a5470b6870a04cbc", func := "boundstone/boundstonelaw05.StoneExtentsAsSpecified", spec := "stoneExtentsAsSpecified", unfollowed := true, recurses := true, apart := false }
def StoneExtentsAsSpecifiedSaid : Prop := stoneExtentsAsSpecifiedRow.holds Tryz.pinned (OpenSpec.ofChange stoneExtentsAsSpecifiedSpec)

/-- ITS FALSE NEIGHBOUR: 'it returns false'. Refute it at one input. -/
def stoneExtentsAsSpecifiedWrong : ChangeSpec := { name := "stoneExtentsAsSpecified", fn := fun _ => fun
  | [d1, d2, d3] => { results := [.lit (.bool false)], args := [d1, d2, d3] }
  | _ => none }
def StoneExtentsAsSpecifiedWrongFalsely : Prop := stoneExtentsAsSpecifiedRow.holds Tryz.pinned (OpenSpec.ofChange stoneExtentsAsSpecifiedWrong)

/-- 'boundstonelaw05.StoneExtentsHold': WHATEVER THE INPUT: true; the input reads as it did. -/
def stoneExtentsHoldSpec : ChangeSpec := { name := "stoneExtentsHold", fn := fun _ => fun
  | [d1, d2, d3, d4] => { results := [.lit (.bool true)], args := [d1, d2, d3, d4] }
  | _ => none }
def stoneExtentsHoldRow : OpenClaim := { program := "ytnomliioadjdgaagreat", sum := "77e5f3103efc33880c137b0a46806b60bd808f448089c069a5470b6870a04cbc", func := "boundstone/boundstonelaw05.StoneExtentsHold", spec := "stoneExtentsHold", unfollowed := true, recurses := true, apart := false }
def StoneExtentsHoldSaid : Prop := stoneExtentsHoldRow.holds Tryz.pinned (OpenSpec.ofChange stoneExtentsHoldSpec)

/-- ITS FALSE NEIGHBOUR: 'it returns false'. Refute it at one input. -/
def stoneExtentsHoldWrong : ChangeSpec := { name := "stoneExtentsHold", fn := fun _ => fun
  | [d1, d2, d3, d4] => { results := [.lit (.bool false)], args := [d1, d2, d3, d4] }
  | _ => none }
def StoneExtentsHoldWrongFalsely : Prop := stoneExtentsHoldRow.holds Tryz.pinned (OpenSpec.ofChange stoneExtentsHoldWrong)

/-- 'boundstonelaw05.StoneTruthsAsSpecified': WHATEVER THE INPUT: true; the input reads as it did. -/
def stoneTruthsAsSpecifiedSpec : ChangeSpec := { name := "stoneTruthsAsSpecified", fn := fun _ => fun
  | [d1, d2] => { results := [.lit (.bool true)], args := [d1, d2] }
  | _ => none }
def stoneTruthsAsSpecifiedRow : OpenClaim := { program := "ytnomliioadjdgaagreat", sum := "77e5f3103efc33880c137b0a46806b60bd808f448089c069a5470b6870a04cbc", func := "boundstone/boundstonelaw05.StoneTruthsAsSpecified", spec := "stoneTruthsAsSpecified", unfollowed := true, recurses := true, apart := false }
def StoneTruthsAsSpecifiedSaid : Prop := stoneTruthsAsSpecifiedRow.holds Tryz.pinned (OpenSpec.ofChange stoneTruthsAsSpecifiedSpec)

/-- ITS FALSE NEIGHBOUR: 'it returns false'. Refute it at one input. -/
def stoneTruthsAsSpecifiedWrong : ChangeSpec := { name := "stoneTruthsAsSpecified", fn := fun _ => fun
  | [d1, d2] => { results := [.lit (.bool false)], args := [d1, d2] }
  | _ => none }
def StoneTruthsAsSpecifiedWrongFalsely : Prop := stoneTruthsAsSpecifiedRow.holds Tryz.pinned (OpenSpec.ofChange stoneTruthsAsSpecifiedWrong)

/-- 'boundstonelaw05.StoneTruthsFit': WHATEVER THE INPUT: true; the input reads as it did. -/
def stoneTruthsFitSpec : ChangeSpec := { name := "stoneTruthsFit", fn := fun _ => fun
  | [d1, d2] => { results := [.lit (.bool true)], args := [d1, d2] }
  | _ => none }
def stoneTruthsFitRow : OpenClaim := { program := "ytnomliioadjdgaagreat", sum := "77e5f3103efc33880c137b0a46806b60bd808f448089c069a5470b6870a04cbc", func := "boundstone/boundstonelaw05.StoneTruthsFit", spec := "stoneTruthsFit", unfollowed := true, recurses := true, apart := false }
def StoneTruthsFitSaid : Prop := stoneTruthsFitRow.holds Tryz.pinned (OpenSpec.ofChange stoneTruthsFitSpec)

/-- ITS FALSE NEIGHBOUR: 'it returns false'. Refute it at one input. -/
def stoneTruthsFitWrong : ChangeSpec := { name := "stoneTruthsFit", fn := fun _ => fun
  | [d1, d2] => { results := [.lit (.bool false)], args := [d1, d2] }
  | _ => none }
def StoneTruthsFitWrongFalsely : Prop := stoneTruthsFitRow.holds Tryz.pinned (OpenSpec.ofChange stoneTruthsFitWrong)

/-- 'boundstonelaw05.StoneMatchesAsSpecified': WHATEVER THE INPUT: true; the input reads as it did. -/
def stoneMatchesAsSpecifiedSpec : ChangeSpec := { name := "stoneMatchesAsSpecified", fn := fun _ => fun
  | [d1, d2, d3, d4, d5, d6] => { results := [.lit (.bool true)], args := [d1, d2, d3, d4, d5, d6] }
  | _ => none }
def stoneMatchesAsSpecifiedRow : OpenClaim := { program := "ytnomliioadjdgaagreat", sum := "77e5f3103efc33880c137b0a46806b60bd808f448089c069a5470b6870a04cbc", func := "boundstone/boundstonelaw05.StoneMatchesAsSpecified", spec := "stoneMatchesAsSpecified", unfollowed := true, recurses := true, apart := false }
def StoneMatchesAsSpecifiedSaid : Prop := stoneMatchesAsSpecifiedRow.holds Tryz.pinned (OpenSpec.ofChange stoneMatchesAsSpecifiedSpec)

/-- ITS FALSE NEIGHBOUR: 'it returns false'. Refute it at one input. -/
def stoneMatchesAsSpecifiedWrong : ChangeSpec := { name := "stoneMatchesAsSpecified", fn := fun _ => fun
  | [d1, d2, d3, d4, d5, d6] => { results := [.lit (.bool false)], args := [d1, d2, d3, d4, d5, d6] }
  | _ => none }
def StoneMatchesAsSpecifiedWrongFalsely : Prop := stoneMatchesAsSpecifiedRow.holds Tryz.pinned (OpenSpec.ofChange stoneMatchesAsSpecifiedWrong)

/- THE SECOND FORM. 'bulk': how many values and letters a reading holds, each counted each time it is reached (what is shared counts as often as it is met; a slice's spare places count too). A statement '..UptoSaid' is the law's where the arguments, and the package variables that the reading takes, are together of bulk at most 1048576: NARROWER than '..Said'. Prove '..Said' where nothing that the law and all that it calls make is longer than what came in: it says more and counts as full. Else prove '..UptoSaid'. A law counts once. -/
mutual
def uptoBulk {H : Type} : DataW H → Nat
  | .lit (.string bytes) => bytes.length + 1
  | .lit _ => 1
  | .nil => 1
  | .ptr d => uptoBulk d + 1
  | .slice elems spare => uptoBulkAll elems + uptoBulkAll spare + 1
  | .agg parts => uptoBulkAll parts + 1
  | .iface _ d => uptoBulk d + 1
  | .map entries => uptoBulkEntries entries + 1
  | .held _ => 1
def uptoBulkAll {H : Type} : List (DataW H) → Nat
  | [] => 0
  | d :: r => uptoBulk d + uptoBulkAll r
def uptoBulkEntries {H : Type} : List (Lit × DataW H) → Nat
  | [] => 0
  | x :: r => uptoBulkEntry x + uptoBulkEntries r
def uptoBulkEntry {H : Type} : Lit × DataW H → Nat
  | (.string bytes, d) => bytes.length + uptoBulk d + 1
  | (_, d) => uptoBulk d + 1
 end
def uptoSmall : (H : Type) → List (DataW H) → Bool := fun _ ds => decide (uptoBulkAll ds ≤ 1048576)
def OpenSpec.upto (s : _root_.Go.ChangeSpec) : _root_.Go.OpenSpec := { _root_.Go.OpenSpec.ofChange s with cond := some uptoSmall }

/-- 'boundstonelaw05.StoneExtentsAsSpecified', WHERE WHAT IT READS IS OF BULK AT MOST 1048576: true; the input reads as it did. -/
def stoneExtentsAsSpecifiedUptoRow : OpenClaim := { program := "ytnomliioadjdgaagreat", sum := "77e5f3103efc33880c137b0a46806b60bd808f448089c069a5470b6870a04cbc", func := "boundstone/boundstonelaw05.StoneExtentsAsSpecified", spec := "stoneExtentsAsSpecified", unfollowed := true, recurses := true, apart := false, narrowed := true }
def StoneExtentsAsSpecifiedUptoSaid : Prop := stoneExtentsAsSpecifiedUptoRow.holds Tryz.pinned (OpenSpec.upto stoneExtentsAsSpecifiedSpec)

/-- 'boundstonelaw05.StoneExtentsHold', WHERE WHAT IT READS IS OF BULK AT MOST 1048576: true; the input reads as it did. -/
def stoneExtentsHoldUptoRow : OpenClaim := { program := "ytnomliioadjdgaagreat", sum := "77e5f3103efc33880c137b0a46806b60bd808f448089c069a5470b6870a04cbc", func := "boundstone/boundstonelaw05.StoneExtentsHold", spec := "stoneExtentsHold", unfollowed := true, recurses := true, apart := false, narrowed := true }
def StoneExtentsHoldUptoSaid : Prop := stoneExtentsHoldUptoRow.holds Tryz.pinned (OpenSpec.upto stoneExtentsHoldSpec)

/-- 'boundstonelaw05.StoneTruthsAsSpecified', WHERE WHAT IT READS IS OF BULK AT MOST 1048576: true; the input reads as it did. -/
def stoneTruthsAsSpecifiedUptoRow : OpenClaim := { program := "ytnomliioadjdgaagreat", sum := "77e5f3103efc33880c137b0a46806b60bd808f448089c069a5470b6870a04cbc", func := "boundstone/boundstonelaw05.StoneTruthsAsSpecified", spec := "stoneTruthsAsSpecified", unfollowed := true, recurses := true, apart := false, narrowed := true }
def StoneTruthsAsSpecifiedUptoSaid : Prop := stoneTruthsAsSpecifiedUptoRow.holds Tryz.pinned (OpenSpec.upto stoneTruthsAsSpecifiedSpec)

/-- 'boundstonelaw05.StoneTruthsFit', WHERE WHAT IT READS IS OF BULK AT MOST 1048576: true; the input reads as it did. -/
def stoneTruthsFitUptoRow : OpenClaim := { program := "ytnomliioadjdgaagreat", sum := "77e5f3103efc33880c137b0a46806b60bd808f448089c069a5470b6870a04cbc", func := "boundstone/boundstonelaw05.StoneTruthsFit", spec := "stoneTruthsFit", unfollowed := true, recurses := true, apart := false, narrowed := true }
def StoneTruthsFitUptoSaid : Prop := stoneTruthsFitUptoRow.holds Tryz.pinned (OpenSpec.upto stoneTruthsFitSpec)

/-- 'boundstonelaw05.StoneMatchesAsSpecified', WHERE WHAT IT READS IS OF BULK AT MOST 1048576: true; the input reads as it did. -/
def stoneMatchesAsSpecifiedUptoRow : OpenClaim := { program := "ytnomliioadjdgaagreat", sum := "77e5f3103efc33880c137b0a46806b60bd808f448089c069a5470b6870a04cbc", func := "boundstone/boundstonelaw05.StoneMatchesAsSpecified", spec := "stoneMatchesAsSpecified", unfollowed := true, recurses := true, apart := false, narrowed := true }
def StoneMatchesAsSpecifiedUptoSaid : Prop := stoneMatchesAsSpecifiedUptoRow.holds Tryz.pinned (OpenSpec.upto stoneMatchesAsSpecifiedSpec)

end Rows
end Go.Proofs.YtnomliioadjdgaaGreat
