/- The specification's bare, hold and about, walked. -/
import Derived.Test.YtmmhnfghklppiaaGreatWk27
import Derived.Test.YtmmhnfghklppiaaGreatWk33
import Derived.Test.YtmmhnfghklppiaaGreatWk26
namespace Go.Proofs.YtmmhnfghklppiaaGreat.Vm
open Go
set_option linter.unusedSimpArgs false
set_option linter.unusedVariables false
set_option maxHeartbeats 4000000
set_option maxRecDepth 4000
end Go.Proofs.YtmmhnfghklppiaaGreat.Vm
