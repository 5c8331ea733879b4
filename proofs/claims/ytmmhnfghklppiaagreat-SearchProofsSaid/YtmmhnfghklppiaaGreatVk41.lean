/- The specification's Count, walked. -/
import Derived.Test.YtmmhnfghklppiaaGreatVk37
import Derived.Test.YtmmhnfghklppiaaGreatVk25
namespace Go.Proofs.YtmmhnfghklppiaaGreat.Vm
open Go
set_option linter.unusedSimpArgs false
set_option linter.unusedVariables false
set_option maxHeartbeats 4000000
set_option maxRecDepth 4000
end Go.Proofs.YtmmhnfghklppiaaGreat.Vm
