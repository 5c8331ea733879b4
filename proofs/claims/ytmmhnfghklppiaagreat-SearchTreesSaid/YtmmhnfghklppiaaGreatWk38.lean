/- The specification's about, join and next, walked. -/
import Derived.Test.YtmmhnfghklppiaaGreatWk34
import Derived.Test.YtmmhnfghklppiaaGreatWk36
import Derived.Test.YtmmhnfghklppiaaGreatWk37
namespace Go.Proofs.YtmmhnfghklppiaaGreat.Vm
open Go
set_option linter.unusedSimpArgs false
set_option linter.unusedVariables false
set_option maxHeartbeats 4000000
set_option maxRecDepth 4000
def inL (l:List Nat) (x:Int):Bool:=l.any fun k=>decide (x=(k:Int))
def zug (fs:List Fact) (l:List Nat):List Fact:=fs.filter fun f=>inL l f.a
end Go.Proofs.YtmmhnfghklppiaaGreat.Vm
