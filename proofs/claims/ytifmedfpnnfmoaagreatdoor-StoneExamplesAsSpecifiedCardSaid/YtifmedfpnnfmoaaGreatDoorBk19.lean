/- Appending in a chain: onto an empty literal, and rows of more than one. -/
import Derived.Test.YtifmedfpnnfmoaaGreatDoorBk16
namespace Go.Proofs.YtifmedfpnnfmoaaGreatDoor.Vm
open Go
set_option linter.unusedSimpArgs false
set_option linter.unusedVariables false
section
variable {α:Type} {f:α->List PV} {sz:Nat} {H:Heap} {v:AV} {l:List α}
end
end Go.Proofs.YtifmedfpnnfmoaaGreatDoor.Vm
