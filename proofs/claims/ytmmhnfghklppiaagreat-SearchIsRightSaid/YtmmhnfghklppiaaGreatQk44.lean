/- The chapter's examples: head() returns true, with more fuel; by the machine's own runs in the kernel. The law SearchIsRight, on the machine. -/
import Derived.Test.YtmmhnfghklppiaaGreatQk15
import Derived.Test.YtmmhnfghklppiaaGreatQk43
import Derived.Test.YtmmhnfghklppiaaGreatQk9
import Derived.KernelRfl
import Derived.Test.YtmmhnfghklppiaaGreatQk42
namespace Go.Proofs.YtmmhnfghklppiaaGreat.Vm
open Go
set_option linter.unusedSimpArgs false
set_option linter.unusedVariables false
set_option maxHeartbeats 4000000
def iP (n:Int):PV:=.int .i64 n
def pP (a b c d:Int):PV:=.slice false 2 [[iP a,iP b],[iP c,iP d]]
def exB (a b c d:Int):List PV:=[.int .i64 a,.int .i64 b,.int .i64 c,.int .i64 d]
def exF (id kind lo hi:Int):List PV:=[.int .i64 id,.int .i64 kind,.bool false,.int .i64 0,.int .i64 1,.int .i64 0,.int .i64 lo,.int .i64 hi,.int .i64 0]
def exN:List PV:=[.int .i64 0,.int .i64 6,.bool true,.int .i64 0,.int .i64 1,.int .i64 0,.int .i64 1,.int .i64 5,.int .i64 0]
def exPr (fs:List (List PV)):PV:=.agg [.slice false 4 [exB 0 0 0 0,exB (-5) 5 (-5) 5],.slice false 9 fs]
def exP:PV:=exPr [exF 4 1 25 25,exF 7 3 0 0]
def exQ:PV:=exPr [exF 4 1 25 25,exF 7 3 0 0,exF 9 5 2 2]
theorem ztS:zH G 2059 32 []=some exP:=by kernel_rfl
theorem znk:zH G 2059 31 [exP]=some (.tup [.slice false 4 [exB 0 0 0 0,exB 3 5 (-4) 4],.int .i64 0]):=by kernel_rfl
theorem zo9:zH G 2059 33 [exP]=some (.tup [.int .i64 3,.int .i64 0]):=by kernel_rfl
theorem zqh:zH G 2059 24 [exP]=some (.tup [.slice false 4 [exB 0 0 0 0,exB 4 5 (-3) 3],.int .i64 0]):=by kernel_rfl
theorem zqO:zH G 2059 15 [exP,.agg (exF 0 1 20 30)]=some (.tup [.int .i64 2,.int .i64 0]):=by kernel_rfl
theorem zqo:zH G 2059 35 [exP,.agg (exF 9 5 2 2)]=some exQ:=by kernel_rfl
def fr0:PV:=(.tup [(.agg [(.bool false),(.slice false 1 [[(.ptr false [(.slice false 1 [[(iP 0)],[(iP 1)]]),(iP 3),(.slice false 4 [[(pP 0 0 4 (-3)),(pP 0 0 4 (-3)),(pP 0 0 4 (-3)),(pP 0 0 4 (-3))],[(pP 0 0 4 (-3)),(pP 0 0 5 0),(pP 0 0 4 (-3)),(pP 0 0 4 3)]]),(pP 0 0 4 (-3))] 0)]])]),(iP 0)])
theorem zpz:zH G 2058 48 [exP]=some fr0:=by kernel_rfl
def fr1:PV:=(.tup [(.agg [(.bool false),(.slice false 1 [[(.ptr false [(.slice false 1 [[(iP 0)],[(iP 1)]]),(iP 1),(.slice false 4 [[(pP 0 0 4 3),(pP 0 0 4 3),(pP 0 0 4 3),(pP 0 0 4 3)],[(pP 0 0 4 3),(pP 0 0 4 3),(pP 0 0 4 3),(pP 0 0 4 3)]]),(pP 0 0 4 3)] 0)]])]),(iP 0)])
theorem zpd:zH G 2058 48 [exPr [exF 4 1 25 25,exF 7 3 0 0,exF 0 6 1 5]]=some fr1:=by kernel_rfl
def fr2:PV:=(.tup [(.agg [(.bool false),(.slice false 1 [[(.ptr false [(.slice false 1 [[(iP 0)],[(iP 1)]]),(iP 2),(.slice false 4 [[(pP 0 0 4 (-3)),(pP 0 0 4 (-3)),(pP 0 0 4 (-3)),(pP 0 0 4 (-3))],[(pP 0 0 4 (-3)),(pP 0 0 5 0),(pP 0 0 4 (-3)),(pP 0 0 5 0)]]),(pP 0 0 4 (-3))] 0)]])]),(iP 0)])
theorem zpI:zH G 2058 48 [exPr [exF 4 1 25 25,exF 7 3 0 0,exN]]=some fr2:=by kernel_rfl
def fr3:PV:=(.tup [(.agg [(.bool true),.nils]),(iP 0)])
theorem zpK:zH G 2058 38 [exQ]=some fr3:=by kernel_rfl
def fr4:PV:=(.tup [(.agg [(.bool false),(.slice false 1 [[(.ptr false [(.slice false 1 [[(iP 0)],[(iP 1)]]),(iP 5),(.slice false 4 [[(pP 0 0 2 (-2)),(pP 0 0 2 (-2)),(pP 0 0 2 (-2)),(pP 0 0 2 (-2))],[(pP 0 0 2 (-2)),(pP 0 0 2 (-2)),(pP 0 0 2 (-2)),(pP 0 0 2 2)]]),(pP 0 0 2 (-2))] 0)]])]),(iP 0)])
theorem zoO:zH G 2058 48 [exPr [exF 7 3 0 0,exF 9 5 2 2]]=some fr4:=by kernel_rfl
def fr5:PV:=(.tup [(.agg [(.bool true),.nils]),(iP 0)])
theorem zpm:zH G 2058 48 [exPr [exF 4 1 25 25,exF 9 5 2 2]]=some fr5:=by kernel_rfl
def fr6:PV:=(.tup [(.agg [(.bool false),(.slice false 1 [[(.ptr false [(.slice false 1 [[(iP 0)],[(iP 1)]]),(iP 12),(.slice false 4 [[(pP 0 0 (-5) 0),(pP 0 0 (-5) 0),(pP 0 0 (-5) 0),(pP 0 0 (-5) 0)],[(pP 0 0 (-5) 0),(pP 0 0 5 0),(pP 0 0 0 (-5)),(pP 0 0 0 5)]]),(pP 0 0 (-5) 0)] 0)]])]),(iP 0)])
theorem zpT:zH G 2058 48 [exPr [exF 4 1 25 25]]=some fr6:=by kernel_rfl
def tabD:Tab:=[(48,[exP],fr0),(48,[exPr [exF 4 1 25 25,exF 7 3 0 0,exF 0 6 1 5]],fr1),(48,[exPr [exF 4 1 25 25,exF 7 3 0 0,exN]],fr2)]
theorem zsd:∀ e∈tabD,zH G 2058 e.1 e.2.1=some e.2.2:=all_cons zpz <| all_cons zpd <| all_cons zpI all_nil
theorem zrd:zH G 2059 15 [exP,.agg (exF 0 6 1 5)]=some (.tup [.int .i64 3,.int .i64 0]):=zgI (n:=2058) (fs:=[48]) rfl rfl zsd (by kernel_rfl)
def tabC:Tab:=[(38,[exQ],fr3),(48,[exPr [exF 7 3 0 0,exF 9 5 2 2]],fr4),(48,[exPr [exF 4 1 25 25,exF 9 5 2 2]],fr5),(48,[exPr [exF 4 1 25 25]],fr6)]
theorem zsE:∀ e∈tabC,zH G 2058 e.1 e.2.1=some e.2.2:=all_cons zpK <| all_cons zoO <| all_cons zpm <| all_cons zpT all_nil
theorem zrA:zH G 2059 34 [exQ]=some (.tup [.slice false 1 [[.int .i64 4],[.int .i64 9]],.int .i64 0]):=zgI (n:=2058) (fs:=[48,38]) rfl rfl zsE (by kernel_rfl)
def tabH:Tab:=[(32,[],exP),(31,[exP],.tup [.slice false 4 [exB 0 0 0 0,exB 3 5 (-4) 4],.int .i64 0]),(33,[exP],.tup [.int .i64 3,.int .i64 0]),(24,[exP],.tup [.slice false 4 [exB 0 0 0 0,exB 4 5 (-3) 3],.int .i64 0]),
 (15,[exP,.agg (exF 0 6 1 5)],.tup [.int .i64 3,.int .i64 0]),(15,[exP,.agg (exF 0 1 20 30)],.tup [.int .i64 2,.int .i64 0]),(35,[exP,.agg (exF 9 5 2 2)],exQ),(34,[exQ],.tup [.slice false 1 [[.int .i64 4],[.int .i64 9]],.int .i64 0])]
theorem zr9:∀ e∈tabH,zH G 2059 e.1 e.2.1=some e.2.2:=all_cons ztS <| all_cons znk <| all_cons zo9 <| all_cons zqh <| all_cons zrd <| all_cons zqO <| all_cons zqo <| all_cons zrA all_nil
theorem zp0:zH G 2060 9 []=some (.bool true):=zgI (n:=2059) (fs:=[32,31,33,24,15,35,34]) rfl rfl zr9 (by kernel_rfl)
set_option maxRecDepth 4000
theorem zql:G.shared 9=false:=by decide
theorem zso (H:Heap):zG (zm G 2060) H (.pure (.func 9 [])) []=some (.val (.pure (.bool true))):=zpf (ps:=[]) zql zp0
theorem zpG (p:Problem) (f:Fact) (at_:Sl Pt) (tree:Sl Node) (point:Int):zH G 2061 8 [.agg p.cells,.agg f.cells,at_.pv Pt.cells 2,tree.pv Node.cells 4,.int .i64 point]=some (.bool true):=by
 refine zy (n:=2060) (zw _) rfl g8 rfl ?_
 have hh:=zso;have hs:=fun H=>ze (G:=G) (n:=2060) (H:=H) (caps:=[]) (ps:=[.agg p.cells]) sh10 (e10 2057 p);simp only [Problem.cells,List.map_cons,List.map_nil] at hs
 cases hsp:fewB p with
 | false =>
  rw [hsp] at hs;clear hsp;(repeat' first|simp [*,za,c8,Problem.cells,Fact.cells,Span.cells]|(apply zb<;>intro _ h<;>try simp [-Nat.le_zero_eq] at h))
 | true =>
  rw [hsp] at hs
  by_cases n1:(40:Int) < at_.xs.length
  ·clear hsp;(repeat' first|simp [*,za,c8,Problem.cells,Fact.cells,Span.cells]|(apply zb<;>intro _ h<;>try simp [-Nat.le_zero_eq] at h))
  by_cases n2:(2000:Int) < tree.xs.length
  ·clear hsp;(repeat' first|simp [*,za,c8,Problem.cells,Fact.cells,Span.cells]|(apply zb<;>intro _ h<;>try simp [-Nat.le_zero_eq] at h))
  have n3:at_.xs.length < 1000:=by omega
  have n4:tree.xs.length < 4000000000000000000:=by omega
  have a1:=fun H=>ze (G:=G) (n:=2060) (H:=H) (caps:=[]) (ps:=[.agg p.cells,at_.pv Pt.cells 2]) sh28 (e28 2053 p at_ n3);obtain ⟨⟨av,ab⟩,hav⟩:∃ r,allowsS p at_.xs=r:=⟨_,rfl⟩
  rw [hav] at a1;simp only [Problem.cells,Fact.cells,Span.cells,List.map_cons,List.map_nil] at a1
  cases ab with
  | false =>
   clear hsp hav n3 n4;(repeat' first|simp [*,za,c8,Problem.cells,Fact.cells,Span.cells]|(apply zb<;>intro _ h<;>try simp [-Nat.le_zero_eq] at h))
  | true =>
   obtain ⟨c0,sol⟩:=zlf (p:=p) (pts:=at_.xs) (by rw [hav]);have ok:=check_ok.1 c0;have hmu:muL p.boxes.xs<=600:=zte hsp ok;have a2:=fun H=>ze (G:=G) (n:=2060) (H:=H) (caps:=[]) (ps:=[.agg p.cells,tree.pv Node.cells 4]) sh14 (e14 1360 p tree n4 (fun _=>hmu));have b2:=znl c0 sol tree.xs;obtain ⟨D0,e0,so⟩:=zo7 p;have a3:=fun H=>ze (G:=G) (n:=2060) (H:=H) (caps:=[]) (ps:=[.agg p.cells]) sh11 (e11 1360 p D0 e0 so (zkB c0 sol so));have b3:(if e0≠0 then e0 else 5)≠0:=by split<;>omega
   obtain ⟨x,ex,hx,hgood⟩:=zpC p hsp point;have a4:=fun H=>ze (G:=G) (n:=2060) (H:=H) (caps:=[]) (ps:=[.agg p.cells,.int .i64 point]) sh21 (e21 1360 p point x ex hx);obtain ⟨D1,e1,D2,e2,D3,e3,h⟩:=zpi p f;obtain ⟨gs,k,hpi⟩:=zrD hsp h;have a5:=fun H=>ze (G:=G) (n:=2060) (H:=H) (caps:=[]) (ps:=[.agg p.cells,.agg f.cells]) sh17 (e17 1360 p f D1 D2 D3 e1 e2 e3 h gs k hpi);have a6:=fun H=>ze (G:=G) (n:=2060) (H:=H) (caps:=[]) (ps:=[.agg p.cells,.agg f.cells,tree.pv Node.cells 4]) sh19 (e19 1360 p f tree n4 (fun _=>hmu));have a7:=fun H=>ze (G:=G) (n:=2060) (H:=H) (caps:=[]) (ps:=[.agg f.cells,at_.pv Pt.cells 2]) sh30 (e30 2054 f at_ n3);have b6:zcA p f tree.xs=0->zeg f at_.xs=true:=fun hz=>zls hz sol;obtain ⟨L,hno,hLl,hLi⟩:=zpM c0 sol;have a8:=fun H=>ze (G:=G) (n:=2060) (H:=H) (caps:=[]) (ps:=[.agg p.cells]) sh31 (e31 2052 p (L.pv Box.cells 4) 0 hno);have hins:Hide (∀ i (h:i < at_.xs.length) (h':i < L.xs.length) H,zG (zm G 2060) H (.pure (.func 29 [])) [.pure (.agg at_.xs[i].cells),.pure (.agg L.xs[i].cells)]=some (.val (.pure (.bool true)))):=⟨fun i h h' H=>ze (G:=G) (n:=2060) (H:=H) (caps:=[]) (ps:=[.agg at_.xs[i].cells,.agg L.xs[i].cells]) sh29 (e29 2059 at_.xs[i] L.xs[i] (hLi i h h'))⟩
   have hLlI:(L.xs.length:Int)=at_.xs.length:=by omega
   have b5:zaS (zM p f) D1 e1 D2 e2 D3 e3=(2,0)->zeg f at_.xs=true:=fun hd=>zlF h hd sol;have hpc:p.cells=[p.boxes.pv Box.cells 4,p.facts.pv Fact.cells 9]:=rfl;have hxc:x.cells=[.int .i64 x.box.x.lo,.int .i64 x.box.x.hi,.int .i64 x.box.y.lo,.int .i64 x.box.y.hi,(x.ends 0).pv Pt.cells 2,(x.ends 1).pv Pt.cells 2,(x.ends 2).pv Pt.cells 2,(x.ends 3).pv Pt.cells 2,(x.trees 0).pv Node.cells 4,(x.trees 1).pv Node.cells 4,(x.trees 2).pv Node.cells 4,(x.trees 3).pv Node.cells 4]:=rfl;rw [hxc] at a4;simp only [Problem.cells,Fact.cells,Span.cells,List.map_cons,List.map_nil] at a2 a3 a4 a5 a6 a7 a8;generalize zfe p tree.xs=tf at *;generalize (if e0≠0 then e0 else 5)=rf at *;obtain ⟨z,hz⟩:∃ z,zcA p f tree.xs=z:=⟨_,rfl⟩
   rw [hz] at a6 b6;obtain ⟨hb,hhb⟩:∃ b,zeg f at_.xs=b:=⟨_,rfl⟩
   rw [hhb] at a7 b6 b5;obtain ⟨⟨da,de⟩,hr⟩:∃ r,zaS (zM p f) D1 e1 D2 e2 D3 e3=r:=⟨_,rfl⟩
   rw [hr] at a5 hpi b5;clear hr hz hhb h so hno hx hav n3
   by_cases hx0:ex=0
   ·obtain ⟨D,_,hp0,hxo⟩:=hgood hx0;obtain ⟨q,rfl⟩:∃ q:Nat,point=q:=⟨point.toNat,by omega⟩
    rw [Int.toNat_natCast] at hxo;have hck:=zr8 c0 hxo;have hq:=hxo.lt;have hqa:q < at_.xs.length:=by rw [sol.len];exact hq
    have hqaI:(q:Int) < at_.xs.length:=by omega
    have hib:inB' at_.xs[q] x.box:=by
     have h1:=hxo.hull.all _ sol;rw [getElem!_pos at_.xs q hqa] at h1;obtain ⟨_,_,_,_,_,_,_,_,rfl⟩:=hxo.ex;exact h1
    have ack:=fun H=>ze (G:=G) (n:=2060) (H:=H) (caps:=[]) (ps:=[.agg p.cells,.int .i64 (q:Nat),.agg x.cells]) sh22 (e22 1360 p q x hck);have ain:=fun H=>ze (G:=G) (n:=2060) (H:=H) (caps:=[]) (ps:=[.agg at_.xs[q].cells,.agg x.box.cells]) sh29 (e29 2059 at_.xs[q] x.box hib);rw [hxc,hpc] at ack;have hadq:=zax (k:=.i64) (f:=Pt.cells) (sz:=2) (s:=at_) hqa;simp only [Pt.cells,Box.cells,Span.cells,List.map_cons,List.map_nil] at ack ain hadq;subst hx0;clear hgood hxo hck hp0 hib
    by_cases hd:de=0/\da=2
    ·obtain ⟨rfl,rfl⟩:=hd;have hi:=hpi rfl;have hb1:=b5 rfl;have hp:zbR (2,0) (za3 p f gs k)=(za3 p f gs k,0):=by unfold zbR;simp
     rw [hp] at a5;have hzz:=zic hi;have htl:=hi.tr.2;have ac:=fun H=>ze (G:=G) (n:=2060) (H:=H) (caps:=[]) (ps:=[.agg p.cells,.agg f.cells,(Sl.of (za3 p f gs k)).pv Node.cells 4]) sh19 (e19 1360 p f (Sl.of (za3 p f gs k)) (by rw [Sl.xs_of];omega) (fun _=>hmu));rw [Sl.xs_of,hzz] at ac;generalize (Sl.of (za3 p f gs k)).pv Node.cells 4=T at *;simp only [Problem.cells,Fact.cells,Span.cells,List.map_cons,List.map_nil] at ac;clear hp hpi hi hzz htl c0 sol ok hmu hsp hpc hxc
     by_cases hz:z=0
     ·have hb1:=b6 hz;subst hz;subst hb1;clear b6 b5;(repeat' first|simp [*,za,c8,Problem.cells,Fact.cells,Span.cells,Pt.cells,Box.cells]|(apply zb<;>intro _ h<;>try simp [-Nat.le_zero_eq] at h))
      refine zF [(10,10),(22,23),(135,151)] (fun (i:Nat) env H=>env 22=.pure (.int .i64 i)/\i<=L.xs.length) (fun i=>L.xs.length - i) 0 ?_ ?_ ?_ ?_
      ·decide
      ·exact ⟨by simp,by omega⟩
      ·simp only [zA];omega
      rintro i env H ⟨g22,hi⟩
      by_cases hlt:i < L.xs.length
      ·have w1:IntKind.i64.wrap ((i:Int)+1)=(i+1:Nat):=by rw [wrap64 (by omega) (by omega)];omega
       have hltI:(i:Int) < L.xs.length:=by omega
       have hla:i < at_.xs.length:=by omega
       have hlaI:(i:Int) < at_.xs.length:=by omega
       have hii:=hins.h i hla hlt;simp only [Pt.cells,Box.cells,Span.cells] at hii;(repeat' first|simp [*,za,Pt.cells,Box.cells,Span.cells]|(apply zb<;>intro _ h<;>try simp [-Nat.le_zero_eq] at h));exact ⟨i+1,by omega,by omega,by omega⟩
      ·have hiN:i=L.xs.length:=by omega
       subst hiN;(repeat' first|simp [*,za]|(apply zb<;>intro _ h<;>try simp [-Nat.le_zero_eq] at h))
     ·clear b6 b5;(repeat' first|simp [*,za,c8,Problem.cells,Fact.cells,Span.cells,Pt.cells,Box.cells]|(apply zb<;>intro _ h<;>try simp [-Nat.le_zero_eq] at h))
      refine zF [(10,10),(22,23),(135,151)] (fun (i:Nat) env H=>env 22=.pure (.int .i64 i)/\i<=L.xs.length) (fun i=>L.xs.length - i) 0 ?_ ?_ ?_ ?_
      ·decide
      ·exact ⟨by simp,by omega⟩
      ·simp only [zA];omega
      rintro i env H ⟨g22,hi⟩
      by_cases hlt:i < L.xs.length
      ·have w1:IntKind.i64.wrap ((i:Int)+1)=(i+1:Nat):=by rw [wrap64 (by omega) (by omega)];omega
       have hltI:(i:Int) < L.xs.length:=by omega
       have hla:i < at_.xs.length:=by omega
       have hlaI:(i:Int) < at_.xs.length:=by omega
       have hii:=hins.h i hla hlt;simp only [Pt.cells,Box.cells,Span.cells] at hii;(repeat' first|simp [*,za,Pt.cells,Box.cells,Span.cells]|(apply zb<;>intro _ h<;>try simp [-Nat.le_zero_eq] at h));exact ⟨i+1,by omega,by omega,by omega⟩
      ·have hiN:i=L.xs.length:=by omega
       subst hiN;(repeat' first|simp [*,za]|(apply zb<;>intro _ h<;>try simp [-Nat.le_zero_eq] at h))
    ·have hp:zbR (da,de) (za3 p f gs k)=([],if de≠0 then de else 5):=by
      unfold zbR;simp only
      by_cases h1:de=0
      ·have h2:da≠2:=fun h=>hd ⟨h1,h⟩;simp [h1,h2]
      ·simp [h1]
     rw [hp] at a5;have hne:(if de≠0 then de else 5)≠0:=by split<;>omega
     have hnl:(Sl.of ([]:List Node)).pv Node.cells 4=.nils:=rfl;simp only [hnl] at a5;generalize (if de≠0 then de else 5)=pe at *;clear hp hpi hnl c0 sol ok hmu hsp hpc hxc hd
     by_cases hz:z=0
     ·have hb1:=b6 hz;subst hz;subst hb1;clear b6 b5;(repeat' first|simp [*,za,c8,Problem.cells,Fact.cells,Span.cells,Pt.cells,Box.cells]|(apply zb<;>intro _ h<;>try simp [-Nat.le_zero_eq] at h))
      refine zF [(10,10),(22,23),(135,151)] (fun (i:Nat) env H=>env 22=.pure (.int .i64 i)/\i<=L.xs.length) (fun i=>L.xs.length - i) 0 ?_ ?_ ?_ ?_
      ·decide
      ·exact ⟨by simp,by omega⟩
      ·simp only [zA];omega
      rintro i env H ⟨g22,hi⟩
      by_cases hlt:i < L.xs.length
      ·have w1:IntKind.i64.wrap ((i:Int)+1)=(i+1:Nat):=by rw [wrap64 (by omega) (by omega)];omega
       have hltI:(i:Int) < L.xs.length:=by omega
       have hla:i < at_.xs.length:=by omega
       have hlaI:(i:Int) < at_.xs.length:=by omega
       have hii:=hins.h i hla hlt;simp only [Pt.cells,Box.cells,Span.cells] at hii;(repeat' first|simp [*,za,Pt.cells,Box.cells,Span.cells]|(apply zb<;>intro _ h<;>try simp [-Nat.le_zero_eq] at h));exact ⟨i+1,by omega,by omega,by omega⟩
      ·have hiN:i=L.xs.length:=by omega
       subst hiN;(repeat' first|simp [*,za]|(apply zb<;>intro _ h<;>try simp [-Nat.le_zero_eq] at h))
     ·clear b6 b5;(repeat' first|simp [*,za,c8,Problem.cells,Fact.cells,Span.cells,Pt.cells,Box.cells]|(apply zb<;>intro _ h<;>try simp [-Nat.le_zero_eq] at h))
      refine zF [(10,10),(22,23),(135,151)] (fun (i:Nat) env H=>env 22=.pure (.int .i64 i)/\i<=L.xs.length) (fun i=>L.xs.length - i) 0 ?_ ?_ ?_ ?_
      ·decide
      ·exact ⟨by simp,by omega⟩
      ·simp only [zA];omega
      rintro i env H ⟨g22,hi⟩
      by_cases hlt:i < L.xs.length
      ·have w1:IntKind.i64.wrap ((i:Int)+1)=(i+1:Nat):=by rw [wrap64 (by omega) (by omega)];omega
       have hltI:(i:Int) < L.xs.length:=by omega
       have hla:i < at_.xs.length:=by omega
       have hlaI:(i:Int) < at_.xs.length:=by omega
       have hii:=hins.h i hla hlt;simp only [Pt.cells,Box.cells,Span.cells] at hii;(repeat' first|simp [*,za,Pt.cells,Box.cells,Span.cells]|(apply zb<;>intro _ h<;>try simp [-Nat.le_zero_eq] at h));exact ⟨i+1,by omega,by omega,by omega⟩
      ·have hiN:i=L.xs.length:=by omega
       subst hiN;(repeat' first|simp [*,za]|(apply zb<;>intro _ h<;>try simp [-Nat.le_zero_eq] at h))
   ·clear hgood
    by_cases hd:de=0/\da=2
    ·obtain ⟨rfl,rfl⟩:=hd;have hi:=hpi rfl;have hb1:=b5 rfl;have hp:zbR (2,0) (za3 p f gs k)=(za3 p f gs k,0):=by unfold zbR;simp
     rw [hp] at a5;have hzz:=zic hi;have htl:=hi.tr.2;have ac:=fun H=>ze (G:=G) (n:=2060) (H:=H) (caps:=[]) (ps:=[.agg p.cells,.agg f.cells,(Sl.of (za3 p f gs k)).pv Node.cells 4]) sh19 (e19 1360 p f (Sl.of (za3 p f gs k)) (by rw [Sl.xs_of];omega) (fun _=>hmu));rw [Sl.xs_of,hzz] at ac;generalize (Sl.of (za3 p f gs k)).pv Node.cells 4=T at *;simp only [Problem.cells,Fact.cells,Span.cells,List.map_cons,List.map_nil] at ac;clear hp hpi hi hzz htl c0 sol ok hmu hsp hpc hxc
     by_cases hz:z=0
     ·have hb1:=b6 hz;subst hz;subst hb1;clear b6 b5;(repeat' first|simp [*,za,c8,Problem.cells,Fact.cells,Span.cells,Pt.cells,Box.cells]|(apply zb<;>intro _ h<;>try simp [-Nat.le_zero_eq] at h))
      refine zF [(10,10),(22,23),(135,151)] (fun (i:Nat) env H=>env 22=.pure (.int .i64 i)/\i<=L.xs.length) (fun i=>L.xs.length - i) 0 ?_ ?_ ?_ ?_
      ·decide
      ·exact ⟨by simp,by omega⟩
      ·simp only [zA];omega
      rintro i env H ⟨g22,hi⟩
      by_cases hlt:i < L.xs.length
      ·have w1:IntKind.i64.wrap ((i:Int)+1)=(i+1:Nat):=by rw [wrap64 (by omega) (by omega)];omega
       have hltI:(i:Int) < L.xs.length:=by omega
       have hla:i < at_.xs.length:=by omega
       have hlaI:(i:Int) < at_.xs.length:=by omega
       have hii:=hins.h i hla hlt;simp only [Pt.cells,Box.cells,Span.cells] at hii;(repeat' first|simp [*,za,Pt.cells,Box.cells,Span.cells]|(apply zb<;>intro _ h<;>try simp [-Nat.le_zero_eq] at h));exact ⟨i+1,by omega,by omega,by omega⟩
      ·have hiN:i=L.xs.length:=by omega
       subst hiN;(repeat' first|simp [*,za]|(apply zb<;>intro _ h<;>try simp [-Nat.le_zero_eq] at h))
     ·clear b6 b5;(repeat' first|simp [*,za,c8,Problem.cells,Fact.cells,Span.cells,Pt.cells,Box.cells]|(apply zb<;>intro _ h<;>try simp [-Nat.le_zero_eq] at h))
      refine zF [(10,10),(22,23),(135,151)] (fun (i:Nat) env H=>env 22=.pure (.int .i64 i)/\i<=L.xs.length) (fun i=>L.xs.length - i) 0 ?_ ?_ ?_ ?_
      ·decide
      ·exact ⟨by simp,by omega⟩
      ·simp only [zA];omega
      rintro i env H ⟨g22,hi⟩
      by_cases hlt:i < L.xs.length
      ·have w1:IntKind.i64.wrap ((i:Int)+1)=(i+1:Nat):=by rw [wrap64 (by omega) (by omega)];omega
       have hltI:(i:Int) < L.xs.length:=by omega
       have hla:i < at_.xs.length:=by omega
       have hlaI:(i:Int) < at_.xs.length:=by omega
       have hii:=hins.h i hla hlt;simp only [Pt.cells,Box.cells,Span.cells] at hii;(repeat' first|simp [*,za,Pt.cells,Box.cells,Span.cells]|(apply zb<;>intro _ h<;>try simp [-Nat.le_zero_eq] at h));exact ⟨i+1,by omega,by omega,by omega⟩
      ·have hiN:i=L.xs.length:=by omega
       subst hiN;(repeat' first|simp [*,za]|(apply zb<;>intro _ h<;>try simp [-Nat.le_zero_eq] at h))
    ·have hp:zbR (da,de) (za3 p f gs k)=([],if de≠0 then de else 5):=by
      unfold zbR;simp only
      by_cases h1:de=0
      ·have h2:da≠2:=fun h=>hd ⟨h1,h⟩;simp [h1,h2]
      ·simp [h1]
     rw [hp] at a5;have hne:(if de≠0 then de else 5)≠0:=by split<;>omega
     have hnl:(Sl.of ([]:List Node)).pv Node.cells 4=.nils:=rfl;simp only [hnl] at a5;generalize (if de≠0 then de else 5)=pe at *;clear hp hpi hnl c0 sol ok hmu hsp hpc hxc hd
     by_cases hz:z=0
     ·have hb1:=b6 hz;subst hz;subst hb1;clear b6 b5;(repeat' first|simp [*,za,c8,Problem.cells,Fact.cells,Span.cells,Pt.cells,Box.cells]|(apply zb<;>intro _ h<;>try simp [-Nat.le_zero_eq] at h))
      refine zF [(10,10),(22,23),(135,151)] (fun (i:Nat) env H=>env 22=.pure (.int .i64 i)/\i<=L.xs.length) (fun i=>L.xs.length - i) 0 ?_ ?_ ?_ ?_
      ·decide
      ·exact ⟨by simp,by omega⟩
      ·simp only [zA];omega
      rintro i env H ⟨g22,hi⟩
      by_cases hlt:i < L.xs.length
      ·have w1:IntKind.i64.wrap ((i:Int)+1)=(i+1:Nat):=by rw [wrap64 (by omega) (by omega)];omega
       have hltI:(i:Int) < L.xs.length:=by omega
       have hla:i < at_.xs.length:=by omega
       have hlaI:(i:Int) < at_.xs.length:=by omega
       have hii:=hins.h i hla hlt;simp only [Pt.cells,Box.cells,Span.cells] at hii;(repeat' first|simp [*,za,Pt.cells,Box.cells,Span.cells]|(apply zb<;>intro _ h<;>try simp [-Nat.le_zero_eq] at h));exact ⟨i+1,by omega,by omega,by omega⟩
      ·have hiN:i=L.xs.length:=by omega
       subst hiN;(repeat' first|simp [*,za]|(apply zb<;>intro _ h<;>try simp [-Nat.le_zero_eq] at h))
     ·clear b6 b5;(repeat' first|simp [*,za,c8,Problem.cells,Fact.cells,Span.cells,Pt.cells,Box.cells]|(apply zb<;>intro _ h<;>try simp [-Nat.le_zero_eq] at h))
      refine zF [(10,10),(22,23),(135,151)] (fun (i:Nat) env H=>env 22=.pure (.int .i64 i)/\i<=L.xs.length) (fun i=>L.xs.length - i) 0 ?_ ?_ ?_ ?_
      ·decide
      ·exact ⟨by simp,by omega⟩
      ·simp only [zA];omega
      rintro i env H ⟨g22,hi⟩
      by_cases hlt:i < L.xs.length
      ·have w1:IntKind.i64.wrap ((i:Int)+1)=(i+1:Nat):=by rw [wrap64 (by omega) (by omega)];omega
       have hltI:(i:Int) < L.xs.length:=by omega
       have hla:i < at_.xs.length:=by omega
       have hlaI:(i:Int) < at_.xs.length:=by omega
       have hii:=hins.h i hla hlt;simp only [Pt.cells,Box.cells,Span.cells] at hii;(repeat' first|simp [*,za,Pt.cells,Box.cells,Span.cells]|(apply zb<;>intro _ h<;>try simp [-Nat.le_zero_eq] at h));exact ⟨i+1,by omega,by omega,by omega⟩
      ·have hiN:i=L.xs.length:=by omega
       subst hiN;(repeat' first|simp [*,za]|(apply zb<;>intro _ h<;>try simp [-Nat.le_zero_eq] at h))
end Go.Proofs.YtmmhnfghklppiaaGreat.Vm
