/- The parts divide the points; how great they are: plain Lean. -/
import Derived.Test.YtmghcpdpilgplaaGreatQk8
namespace Go.Proofs.YtmghcpdpilgplaaGreat.Vm
open Go
set_option linter.unusedSimpArgs false
set_option linter.unusedVariables false
def areaB (b:Box):Int:=(b.x.hi - b.x.lo+1)*(b.y.hi - b.y.lo+1)
def volG (l:List Box) (n:Int):List Nat→Int
 | []=>n
 | i::rest=>volG l (min (n*areaB l[i]!) 65537) rest
theorem min_area {n a M:Int} (hn:1≤n) (ha:1≤a) (hM:1≤M):min (n*min M a) M=min (n*a) M:=by
 rcases Int.le_total a M with h|h
 ·rw [show min M a=a by omega]
 ·rw [show min M a=M by omega];have h1:M≤n*M:=by have:=Int.mul_le_mul_of_nonneg_right hn (show (0:Int)≤M by omega);omega
  have h2:n*M≤n*a:=Int.mul_le_mul_of_nonneg_left h (by omega);omega
theorem area_pos {b:Box} (h:wfB b):1≤areaB b:=by
 have h1:1≤b.x.hi - b.x.lo+1:=by have:=h.1;omega
 have h2:1≤b.y.hi - b.y.lo+1:=by have:=h.2;omega
 have:=Int.mul_le_mul h1 h2 (by omega) (by omega);unfold areaB;omega
end Go.Proofs.YtmghcpdpilgplaaGreat.Vm
