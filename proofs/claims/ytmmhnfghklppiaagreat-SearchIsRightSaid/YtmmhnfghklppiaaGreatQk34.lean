/- What facts say of boxes, as the specification computes it. (*ref3.walk).fits: walked. -/
import Derived.Test.YtmmhnfghklppiaaGreatQk17
import Derived.Test.YtmmhnfghklppiaaGreatQk18
import Derived.Test.YtmmhnfghklppiaaGreatQk26
import Derived.Test.YtmmhnfghklppiaaGreatQk30
import Derived.Test.YtmmhnfghklppiaaGreatQk32
import Derived.Test.YtmmhnfghklppiaaGreatQk31
namespace Go.Proofs.YtmmhnfghklppiaaGreat.Vm
open Go
set_option linter.unusedSimpArgs false
set_option linter.unusedVariables false
set_option maxHeartbeats 1000000
set_option maxHeartbeats 8000000
set_option maxRecDepth 4000
end Go.Proofs.YtmmhnfghklppiaaGreat.Vm
