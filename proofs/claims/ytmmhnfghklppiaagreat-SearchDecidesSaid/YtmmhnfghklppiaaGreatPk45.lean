/- The chapter's examples: head() returns true, with more fuel; by the machine's own runs in the kernel. The law SearchDecides, on the machine. -/
import Derived.Test.YtmmhnfghklppiaaGreatPk15
import Derived.Test.YtmmhnfghklppiaaGreatPk44
import Derived.Test.YtmmhnfghklppiaaGreatPk9
import Derived.KernelRfl
import Derived.Test.YtmmhnfghklppiaaGreatPk43
namespace Go.Proofs.YtmmhnfghklppiaaGreat.Vm
open Go
set_option linter.unusedSimpArgs false
set_option linter.unusedVariables false
set_option maxHeartbeats 4000000
def iP (n:Int):PV:=.int .i64 n
def pP (a b c d:Int):PV:=.slice false 2 [[iP a,iP b],[iP c,iP d]]
def exB (a b c d:Int):List PV:=[.int .i64 a,.int .i64 b,.int .i64 c,.int .i64 d]
def exF (id kind lo hi:Int):List PV:=[.int .i64 id,.int .i64 kind,.bool false,.int .i64 0,.int .i64 1,.int .i64 0,.int .i64 lo,.int .i64 hi,.int .i64 0]
def exN:List PV:=[.int .i64 0,.int .i64 6,.bool true,.int .i64 0,.int .i64 1,.int .i64 0,.int .i64 1,.int .i64 5,.int .i64 0]
def exPr (fs:List (List PV)):PV:=.agg [.slice false 4 [exB 0 0 0 0,exB (-5) 5 (-5) 5],.slice false 9 fs]
def exP:PV:=exPr [exF 4 1 25 25,exF 7 3 0 0]
def exQ:PV:=exPr [exF 4 1 25 25,exF 7 3 0 0,exF 9 5 2 2]
theorem zug:zH G 2059 32 []=some exP:=by kernel_rfl
theorem znf:zH G 2059 31 [exP]=some (.tup [.slice false 4 [exB 0 0 0 0,exB 3 5 (-4) 4],.int .i64 0]):=by kernel_rfl
theorem zp9:zH G 2059 33 [exP]=some (.tup [.int .i64 3,.int .i64 0]):=by kernel_rfl
theorem zqM:zH G 2059 24 [exP]=some (.tup [.slice false 4 [exB 0 0 0 0,exB 4 5 (-3) 3],.int .i64 0]):=by kernel_rfl
theorem zrH:zH G 2059 15 [exP,.agg (exF 0 1 20 30)]=some (.tup [.int .i64 2,.int .i64 0]):=by kernel_rfl
theorem zrf:zH G 2059 35 [exP,.agg (exF 9 5 2 2)]=some exQ:=by kernel_rfl
def fr0:PV:=(.tup [(.agg [(.bool false),(.slice false 1 [[(.ptr false [(.slice false 1 [[(iP 0)],[(iP 1)]]),(iP 3),(.slice false 4 [[(pP 0 0 4 (-3)),(pP 0 0 4 (-3)),(pP 0 0 4 (-3)),(pP 0 0 4 (-3))],[(pP 0 0 4 (-3)),(pP 0 0 5 0),(pP 0 0 4 (-3)),(pP 0 0 4 3)]]),(pP 0 0 4 (-3))] 0)]])]),(iP 0)])
theorem zqt:zH G 2058 48 [exP]=some fr0:=by kernel_rfl
def fr1:PV:=(.tup [(.agg [(.bool false),(.slice false 1 [[(.ptr false [(.slice false 1 [[(iP 0)],[(iP 1)]]),(iP 1),(.slice false 4 [[(pP 0 0 4 3),(pP 0 0 4 3),(pP 0 0 4 3),(pP 0 0 4 3)],[(pP 0 0 4 3),(pP 0 0 4 3),(pP 0 0 4 3),(pP 0 0 4 3)]]),(pP 0 0 4 3)] 0)]])]),(iP 0)])
theorem zp7:zH G 2058 48 [exPr [exF 4 1 25 25,exF 7 3 0 0,exF 0 6 1 5]]=some fr1:=by kernel_rfl
def fr2:PV:=(.tup [(.agg [(.bool false),(.slice false 1 [[(.ptr false [(.slice false 1 [[(iP 0)],[(iP 1)]]),(iP 2),(.slice false 4 [[(pP 0 0 4 (-3)),(pP 0 0 4 (-3)),(pP 0 0 4 (-3)),(pP 0 0 4 (-3))],[(pP 0 0 4 (-3)),(pP 0 0 5 0),(pP 0 0 4 (-3)),(pP 0 0 5 0)]]),(pP 0 0 4 (-3))] 0)]])]),(iP 0)])
theorem zqm:zH G 2058 48 [exPr [exF 4 1 25 25,exF 7 3 0 0,exN]]=some fr2:=by kernel_rfl
def fr3:PV:=(.tup [(.agg [(.bool true),.nils]),(iP 0)])
theorem zpr:zH G 2058 38 [exQ]=some fr3:=by kernel_rfl
def fr4:PV:=(.tup [(.agg [(.bool false),(.slice false 1 [[(.ptr false [(.slice false 1 [[(iP 0)],[(iP 1)]]),(iP 5),(.slice false 4 [[(pP 0 0 2 (-2)),(pP 0 0 2 (-2)),(pP 0 0 2 (-2)),(pP 0 0 2 (-2))],[(pP 0 0 2 (-2)),(pP 0 0 2 (-2)),(pP 0 0 2 (-2)),(pP 0 0 2 2)]]),(pP 0 0 2 (-2))] 0)]])]),(iP 0)])
theorem zqd:zH G 2058 48 [exPr [exF 7 3 0 0,exF 9 5 2 2]]=some fr4:=by kernel_rfl
def fr5:PV:=(.tup [(.agg [(.bool true),.nils]),(iP 0)])
theorem zpB:zH G 2058 48 [exPr [exF 4 1 25 25,exF 9 5 2 2]]=some fr5:=by kernel_rfl
def fr6:PV:=(.tup [(.agg [(.bool false),(.slice false 1 [[(.ptr false [(.slice false 1 [[(iP 0)],[(iP 1)]]),(iP 12),(.slice false 4 [[(pP 0 0 (-5) 0),(pP 0 0 (-5) 0),(pP 0 0 (-5) 0),(pP 0 0 (-5) 0)],[(pP 0 0 (-5) 0),(pP 0 0 5 0),(pP 0 0 0 (-5)),(pP 0 0 0 5)]]),(pP 0 0 (-5) 0)] 0)]])]),(iP 0)])
theorem zpn:zH G 2058 48 [exPr [exF 4 1 25 25]]=some fr6:=by kernel_rfl
def tabD:Tab:=[(48,[exP],fr0),(48,[exPr [exF 4 1 25 25,exF 7 3 0 0,exF 0 6 1 5]],fr1),(48,[exPr [exF 4 1 25 25,exF 7 3 0 0,exN]],fr2)]
theorem zsw:∀ e∈tabD,zH G 2058 e.1 e.2.1=some e.2.2:=all_cons zqt <| all_cons zp7 <| all_cons zqm all_nil
theorem zr0:zH G 2059 15 [exP,.agg (exF 0 6 1 5)]=some (.tup [.int .i64 3,.int .i64 0]):=zgL (n:=2058) (fs:=[48]) rfl rfl zsw (by kernel_rfl)
def tabC:Tab:=[(38,[exQ],fr3),(48,[exPr [exF 7 3 0 0,exF 9 5 2 2]],fr4),(48,[exPr [exF 4 1 25 25,exF 9 5 2 2]],fr5),(48,[exPr [exF 4 1 25 25]],fr6)]
theorem zsu:∀ e∈tabC,zH G 2058 e.1 e.2.1=some e.2.2:=all_cons zpr <| all_cons zqd <| all_cons zpB <| all_cons zpn all_nil
theorem zqD:zH G 2059 34 [exQ]=some (.tup [.slice false 1 [[.int .i64 4],[.int .i64 9]],.int .i64 0]):=zgL (n:=2058) (fs:=[48,38]) rfl rfl zsu (by kernel_rfl)
def tabH:Tab:=[(32,[],exP),(31,[exP],.tup [.slice false 4 [exB 0 0 0 0,exB 3 5 (-4) 4],.int .i64 0]),(33,[exP],.tup [.int .i64 3,.int .i64 0]),(24,[exP],.tup [.slice false 4 [exB 0 0 0 0,exB 4 5 (-3) 3],.int .i64 0]),
 (15,[exP,.agg (exF 0 6 1 5)],.tup [.int .i64 3,.int .i64 0]),(15,[exP,.agg (exF 0 1 20 30)],.tup [.int .i64 2,.int .i64 0]),(35,[exP,.agg (exF 9 5 2 2)],exQ),(34,[exQ],.tup [.slice false 1 [[.int .i64 4],[.int .i64 9]],.int .i64 0])]
theorem zsC:∀ e∈tabH,zH G 2059 e.1 e.2.1=some e.2.2:=all_cons zug <| all_cons znf <| all_cons zp9 <| all_cons zqM <| all_cons zr0 <| all_cons zrH <| all_cons zrf <| all_cons zqD all_nil
theorem zpQ:zH G 2060 9 []=some (.bool true):=zgL (n:=2059) (fs:=[32,31,33,24,15,35,34]) rfl rfl zsC (by kernel_rfl)
set_option maxRecDepth 4000
theorem zqZ:G.shared 9=false:=by decide
theorem zsH (H:Heap):zG (zt G 2060) H (.pure (.func 9 [])) []=some (.val (.pure (.bool true))):=zpY (ps:=[]) zqZ zpQ
theorem zmk (p:Problem) (f:Fact):zH G 2061 4 [.agg p.cells,.agg f.cells]=some (.bool true):=by
 refine zy (n:=2060) (zx _) rfl g4 rfl ?_
 have hh:=zsH;have hs:=fun H=>zf (G:=G) (n:=2060) (H:=H) (caps:=[]) (ps:=[.agg p.cells]) sh10 (e10 2057 p);simp only [Problem.cells,List.map_cons,List.map_nil] at hs
 cases hsp:fewB p with
 | false =>
  rw [hsp] at hs;clear hsp;(repeat' first|simp [*,za,c4,Problem.cells,Fact.cells,Span.cells]|(apply zb<;>intro _ h<;>try simp [-Nat.le_zero_eq] at h))
 | true =>
  rw [hsp] at hs
  by_cases n1:(4:Int) < p.boxes.xs.length
  ·clear hsp;(repeat' first|simp [*,za,c4,Problem.cells,Fact.cells,Span.cells]|(apply zb<;>intro _ h<;>try simp [-Nat.le_zero_eq] at h))
  by_cases n2:(15:Int) < p.facts.xs.length
  ·clear hsp;(repeat' first|simp [*,za,c4,Problem.cells,Fact.cells,Span.cells]|(apply zb<;>intro _ h<;>try simp [-Nat.le_zero_eq] at h))
  obtain ⟨D1,e1,D2,e2,D3,e3,h⟩:=zpD p f;obtain ⟨E1,E2,E3,hdi,hsame⟩:=zlt h;obtain ⟨gs,k,hpi⟩:=zra hsp h;have a1:=fun H=>zf (G:=G) (n:=2060) (H:=H) (caps:=[]) (ps:=[.agg p.cells,.agg f.cells]) sh15 (e15 2008 p f D1 D2 D3 e1 e2 e3 h);have a2:=fun H=>zf (G:=G) (n:=2060) (H:=H) (caps:=[]) (ps:=[.agg p.cells,.agg f.cells]) sh16 (e16 2049 p f E1 E2 E3 hdi);have a3:=fun H=>zf (G:=G) (n:=2060) (H:=H) (caps:=[]) (ps:=[.agg p.cells,.agg f.cells]) sh17 (e17 1360 p f D1 D2 D3 e1 e2 e3 h gs k hpi);rw [hsame] at a2;have hmu:zD p f=0->muL p.boxes.xs<=600:=fun h0=>zt8 hsp (zcb (t:=true) h0).1;obtain ⟨⟨a,e⟩,hr⟩:∃ r,za9 (zD p f) D1 e1 D2 e2 D3 e3=r:=⟨_,rfl⟩
  rw [hr] at a1 a2 a3 hpi;simp only [Problem.cells,Fact.cells,Span.cells,List.map_cons,List.map_nil] at a1 a2 a3;clear hr hsame hdi h hsp
  by_cases he:e=0
  case neg =>
   have hp:zcq (a,e) (zbx p f gs k)=([],e):=by unfold zcq;rw [if_pos he]
   rw [hp] at a3;have hnl:(Sl.of ([]:List Node)).pv Node.cells 4=.nils:=rfl;simp only [hnl] at a3;clear hp hpi hmu hnl;(repeat' first|simp [*,za,c4,Problem.cells,Fact.cells,Span.cells]|(apply zb<;>intro _ h<;>try simp [-Nat.le_zero_eq] at h))
  subst he
  by_cases ha:a=2
  case neg =>
   have hp:zcq (a,0) (zbx p f gs k)=([],5):=by unfold zcq;simp [ha]
   rw [hp] at a3;have hnl:(Sl.of ([]:List Node)).pv Node.cells 4=.nils:=rfl;simp only [hnl] at a3;clear hp hpi hmu hnl;(repeat' first|simp [*,za,c4,Problem.cells,Fact.cells,Span.cells]|(apply zb<;>intro _ h<;>try simp [-Nat.le_zero_eq] at h))
  subst ha;have hp:zcq (2,0) (zbx p f gs k)=(zbx p f gs k,0):=by unfold zcq;simp
  rw [hp] at a3;have hi:=hpi rfl;have hz:=zn4 hi;have htl:=hi.tr.2;have c1:=fun H=>zf (G:=G) (n:=2060) (H:=H) (caps:=[]) (ps:=[.agg p.cells,.agg f.cells,(Sl.of (zbx p f gs k)).pv Node.cells 4]) sh19 (e19 1360 p f (Sl.of (zbx p f gs k)) (by rw [Sl.xs_of];omega) hmu);have c2:=fun H=>zf (G:=G) (n:=2060) (H:=H) (caps:=[]) (ps:=[.agg p.cells,.agg f.cells,(Sl.of (zbx p f gs k)).pv Node.cells 4]) sh18 (e18 1360 p f (Sl.of (zbx p f gs k)) (by rw [Sl.xs_of];omega) hmu);rw [Sl.xs_of,hz] at c1 c2;generalize (Sl.of (zbx p f gs k)).pv Node.cells 4=T at *;simp only [Problem.cells,Fact.cells,Span.cells,List.map_cons,List.map_nil] at c1 c2;clear hp hpi hmu hi hz htl;(repeat' first|simp [*,za,c4,Problem.cells,Fact.cells,Span.cells]|(apply zb<;>intro _ h<;>try simp [-Nat.le_zero_eq] at h))
end Go.Proofs.YtmmhnfghklppiaaGreat.Vm
