/-
  DERIVED. GIVEN WITH THE SEED: THE CARDS: each row of YtifmedfpnnfmoaaGreatDoorRows.lean that lists a variable, with what it lists TIED to the program's text (the seventh form; the later family's looks); each row that meets fmt, with fmt's text TOLD by the authors' own Lean function (tested against real Go, not proved from fmt's source: count such statements apart). THE CARD IS WHAT COUNTS. Prove the row's statement (the work); the ties are given (YtifmedfpnnfmoaaGreatDoorTie.lean); close each card by the builder's one call (the guide's Derived/Test/ToyasCard.lean, 'card_holds'). Laid BY PROGRAM, IN A SANDBOX (cutbox-door.mjs). By AI agents, Wed Nov 11 2026. No macro, syntax, notation, axiom, sorry.
-/
import Derived.Test.YtifmedfpnnfmoaaGreatDoorRows
import GoSem.ClaimSeven
namespace Go.Proofs.YtifmedfpnnfmoaaGreatDoor
namespace Rows

/-- THE TIED CARD OF 'boundstonelaw05.StoneExamplesAsSpecified'. -/
def stoneExamplesAsSpecifiedCard : Claim7 := { stood := { row := stoneExamplesAsSpecifiedRow, standIns := [], harness := (true, "e5166ea6b3f1bb5abedf01c366376d1194e8d76fd3f829d729be1600cd22aa72"), looks := false }, kinds := [], alts := [], laidByText := true, laidKinds := [.data, .pinned], laidTests := true, laidLooks := .later }
def StoneExamplesAsSpecifiedCardSaid : Prop := Claim7.holds Tryz.pinned (.plain (OpenSpec.ofChange stoneExamplesAsSpecifiedSpec)) stoneExamplesAsSpecifiedCard

/-- THE TIED CARD OF 'boundstonelaw05.StoneExamplesAreTrue'. -/
def stoneExamplesAreTrueCard : Claim7 := { stood := { row := stoneExamplesAreTrueRow, standIns := [], harness := (true, "e5166ea6b3f1bb5abedf01c366376d1194e8d76fd3f829d729be1600cd22aa72"), looks := false }, kinds := [], alts := [], laidByText := true, laidKinds := [.data, .pinned], laidTests := true, laidLooks := .later }
def StoneExamplesAreTrueCardSaid : Prop := Claim7.holds Tryz.pinned (.plain (OpenSpec.ofChange stoneExamplesAreTrueSpec)) stoneExamplesAreTrueCard

/-- THE SECOND FORM's CARD OF 'boundstonelaw05.StoneExamplesAsSpecified'. -/
def stoneExamplesAsSpecifiedUptoCard : Claim7 := { stood := { row := stoneExamplesAsSpecifiedUptoRow, standIns := [], harness := (true, "e5166ea6b3f1bb5abedf01c366376d1194e8d76fd3f829d729be1600cd22aa72"), looks := false }, kinds := [], alts := [], laidByText := true, laidKinds := [.data, .pinned], laidTests := true, laidLooks := .later }
def StoneExamplesAsSpecifiedUptoCardSaid : Prop := Claim7.holds Tryz.pinned (.plain (OpenSpec.upto stoneExamplesAsSpecifiedSpec)) stoneExamplesAsSpecifiedUptoCard

/-- THE SECOND FORM's CARD OF 'boundstonelaw05.StoneExamplesAreTrue'. -/
def stoneExamplesAreTrueUptoCard : Claim7 := { stood := { row := stoneExamplesAreTrueUptoRow, standIns := [], harness := (true, "e5166ea6b3f1bb5abedf01c366376d1194e8d76fd3f829d729be1600cd22aa72"), looks := false }, kinds := [], alts := [], laidByText := true, laidKinds := [.data, .pinned], laidTests := true, laidLooks := .later }
def StoneExamplesAreTrueUptoCardSaid : Prop := Claim7.holds Tryz.pinned (.plain (OpenSpec.upto stoneExamplesAreTrueSpec)) stoneExamplesAreTrueUptoCard
end Rows
end Go.Proofs.YtifmedfpnnfmoaaGreatDoor
