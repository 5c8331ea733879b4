/- A call that looks at memory of one's own. -/
import Derived.Test.YtmmhnfghklppiaaGreatVk14
import Derived.Test.YtmmhnfghklppiaaGreatVk8
namespace Go.Proofs.YtmmhnfghklppiaaGreat.Vm
open Go
set_option linter.unusedSimpArgs false
set_option linter.unusedVariables false
theorem GL {n f:Nat} {H:Heap} {args:List AV} {ps:List PV} {r:PV} (hs:G.shared f=false) (ha:FrzL H true nZ args ps) (h:zF G n f ps=some r) (hc:r.cold=true) :
  zD (zn G n) H (.pure (.func f [])) args=some (.val (.pure r)):=by
 obtain ⟨ids,ha⟩:=ha;have nQ:(zn G n).shared f=false:=hs;have h':(zn G n).pure f ps=some r:=h;simp only [zD,List.map_nil,List.append_nil,nQ,Bool.false_eq_true,if_false,ha,h',hc,Bool.or_true,if_true]
end Go.Proofs.YtmmhnfghklppiaaGreat.Vm
