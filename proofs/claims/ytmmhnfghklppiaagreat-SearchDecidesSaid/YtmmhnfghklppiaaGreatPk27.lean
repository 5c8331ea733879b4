/- A call that looks at memory of one's own. -/
import Derived.Test.YtmmhnfghklppiaaGreatPk15
import Derived.Test.YtmmhnfghklppiaaGreatPk9
namespace Go.Proofs.YtmmhnfghklppiaaGreat.Vm
open Go
set_option linter.unusedSimpArgs false
set_option linter.unusedVariables false
theorem zb6 {n f:Nat} {H:Heap} {args:List AV} {ps:List PV} {r:PV} (hs:G.shared f=false) (ha:FrzL H true zaJ args ps) (h:zH G n f ps=some r) (hc:r.cold=true) :
  zG (zt G n) H (.pure (.func f [])) args=some (.val (.pure r)):=by
 obtain ⟨ids,ha⟩:=ha;have hs':(zt G n).shared f=false:=hs;have h':(zt G n).pure f ps=some r:=h;simp only [zG,List.map_nil,List.append_nil,hs',Bool.false_eq_true,if_false,ha,h',hc,Bool.or_true,if_true]
end Go.Proofs.YtmmhnfghklppiaaGreat.Vm
