/- The chapter's examples: sanity() returns true, by the machine's own run in the kernel. -/
import Derived.Test.YtnomliioadjdgaaGreatPk15
import Derived.KernelRfl
namespace Go.Proofs.YtnomliioadjdgaaGreat.Vm
open Go
theorem sanity_run : callP G 60 9 [] = some (.bool true) := by kernel_rfl
end Go.Proofs.YtnomliioadjdgaaGreat.Vm
