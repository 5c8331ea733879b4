/- The chapter's examples: sanity() returns true, by the machine's own run in the kernel. -/
import Derived.Test.YtjjkgamklbgnlaaGreatVmG
import Derived.KernelRfl
namespace Go.Proofs.YtjjkgamklbgnlaaGreat.Vm
open Go
theorem sanity_run : callP G 60 8 [] = some (.bool true) := by kernel_rfl
end Go.Proofs.YtjjkgamklbgnlaaGreat.Vm
