/- The specification's Count, walked. -/
import Derived.Test.YtmmhnfghklppiaaGreatUk37
import Derived.Test.YtmmhnfghklppiaaGreatUk25
namespace Go.Proofs.YtmmhnfghklppiaaGreat.Vm
open Go
set_option linter.unusedSimpArgs false
set_option linter.unusedVariables false
set_option maxHeartbeats 4000000
set_option maxRecDepth 4000
def Xm (E:Int) (ns:List Nat):Int×Int:=if E=9 then (0,0) else if E≠0 then (0,E) else match Zb ns 1 with
 | none=>(0,3)
 | some n=>(n,0)
end Go.Proofs.YtmmhnfghklppiaaGreat.Vm
