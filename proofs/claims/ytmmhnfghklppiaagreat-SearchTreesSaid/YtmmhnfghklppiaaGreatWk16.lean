/- What the program reads of facts on boxes: vectors, distances, quarters, triangles. What facts say of boxes, as the program computes it. The triangle of a fact: three loops over corners; what a fact says of boxes. What facts say of boxes and points: bare, fails, Can, Must, Fails, Holds of the program. -/
import Derived.Test.YtmmhnfghklppiaaGreatWk14
import Derived.Test.YtmmhnfghklppiaaGreatWk15
namespace Go.Proofs.YtmmhnfghklppiaaGreat.Vm
open Go
set_option linter.unusedSimpArgs false
set_option linter.unusedVariables false
set_option maxHeartbeats 4000000
structure Reader where
 f:Fact
 l:Sl Box
 deriving Inhabited
@[simp] def Reader.cells (s:Reader):List PV:=[.int .i64 s.f.id,.int .i64 s.f.kind,.bool s.f.nt,.int .i64 s.f.a,.int .i64 s.f.b,.int .i64 s.f.c,.int .i64 s.f.span.lo,.int .i64 s.f.span.hi,.int .i64 s.f.quarter,(s.l).pv Box.cells 4]
@[simp] theorem Reader.eta (s:Reader):(⟨s.f,s.l⟩:Reader)=s:=rfl
structure ui (f:Fact) (l:List Box):Prop where
 a:0<=f.a/\f.a < l.length
 b:0<=f.b/\f.b < l.length
 c:f.kind=2->0<=f.c/\f.c < l.length
 v:∀ b∈l,o7 b=true
theorem aF {b:Box}:o7 b=true↔(-1048576<=b.x.lo/\b.x.lo<=b.x.hi/\b.x.hi<=1048576)/\(-1048576<=b.y.lo/\b.y.lo<=b.y.hi/\b.y.hi<=1048576):=by
 simp only [o7,E9,Bool.and_eq_true,decide_eq_true_eq];omega
theorem wm {l:List Box} {i:Int} (h0:0<=i) (h:i < l.length):∃ n:Nat,∃ hn:n < l.length,i=n/\l[i.toNat]! = l[n]:=by
 obtain ⟨n,rfl⟩:=Int.eq_ofNat_of_zero_le h0;have hn:n < l.length:=by omega
 exact ⟨n,hn,rfl,by simp [hn]⟩
def fT (s:Span) (M:Int):Prop:=-M<=s.lo/\s.lo<=s.hi/\s.hi<=M
theorem ztP:G.shared 155=false:=by decide
theorem e155 (n:Nat) (a b:Span) (ha:fT a 1048576) (hb:fT b 1048576):zK G (n+1) 155 [.agg a.cells,.agg b.cells]=some (.agg (sw a b).cells):=by
 refine zz (zy _) rfl g155 rfl ?_
 have w1:IntKind.i64.wrap (a.lo - b.hi)=a.lo - b.hi:=wrap64 (by unfold fT at *;omega) (by unfold fT at *;omega);have w2:IntKind.i64.wrap (a.hi - b.lo)=a.hi - b.lo:=wrap64 (by unfold fT at *;omega) (by unfold fT at *;omega);simp [*,zb,c155,Span.cells,sw]
theorem ztO:G.shared 141=false:=by decide
theorem e141 (n:Nat) (a b:Span) (ha:fT a 1048576) (hb:fT b 1048576):zK G (n+1) 141 [.agg a.cells,.agg b.cells]=some (.agg (sw a b).cells):=by
 refine zz (zy _) rfl g141 rfl ?_
 have w1:IntKind.i64.wrap (a.lo - b.hi)=a.lo - b.hi:=wrap64 (by unfold fT at *;omega) (by unfold fT at *;omega);have w2:IntKind.i64.wrap (a.hi - b.lo)=a.hi - b.lo:=wrap64 (by unfold fT at *;omega) (by unfold fT at *;omega);simp [*,zb,c141,Span.cells,sw]
theorem QN:G.shared 144=false:=by decide
theorem e144 (n:Nat) (s:Span) (hs:fT s 4194304):zK G (n+1) 144 [.agg s.cells]=some (.agg (zB s).cells):=by
 refine zz (zy _) rfl g144 rfl ?_
 have w1:IntKind.i64.wrap (0 - s.lo)=- s.lo:=by rw [wrap64 (by unfold fT at *;omega) (by unfold fT at *;omega)];omega
 have w2:IntKind.i64.wrap (0 - s.hi)=- s.hi:=by rw [wrap64 (by unfold fT at *;omega) (by unfold fT at *;omega)];omega
 have w3:IntKind.i64.wrap (- s.lo)=- s.lo:=wrap64 (by unfold fT at *;omega) (by unfold fT at *;omega);have w4:IntKind.i64.wrap (- s.hi)=- s.hi:=wrap64 (by unfold fT at *;omega) (by unfold fT at *;omega);(repeat' first|simp [*,zb,c144,Span.cells,zB]|(apply za<;>intro _ h<;>try simp [-Nat.le_zero_eq] at h))
 all_goals (try (refine ⟨?_,?_⟩<;>(repeat' split)<;>first|rfl|omega|(simp only;omega)))
theorem WT:G.shared 140=false:=by decide
theorem e140 (n:Nat) (s:Span) (hs:fT s 4194304):zK G (n+1) 140 [.agg s.cells]=some (.agg (zB s).cells):=by
 refine zz (zy _) rfl g140 rfl ?_
 have w1:IntKind.i64.wrap (0 - s.lo)=- s.lo:=by rw [wrap64 (by unfold fT at *;omega) (by unfold fT at *;omega)];omega
 have w2:IntKind.i64.wrap (0 - s.hi)=- s.hi:=by rw [wrap64 (by unfold fT at *;omega) (by unfold fT at *;omega)];omega
 have w3:IntKind.i64.wrap (- s.lo)=- s.lo:=wrap64 (by unfold fT at *;omega) (by unfold fT at *;omega);have w4:IntKind.i64.wrap (- s.hi)=- s.hi:=wrap64 (by unfold fT at *;omega) (by unfold fT at *;omega);rw [<- zmq hs.2.1];(repeat' first|simp [*,zb,c140,Span.cells]|(apply za<;>intro _ h<;>try simp [-Nat.le_zero_eq] at h))
 all_goals (try (refine ⟨?_,?_⟩<;>(repeat' split)<;>first|rfl|omega|(simp only;omega)))
theorem zon {a b M N:Int} (ha:-M<=a/\a<=M) (hb:-N<=b/\b<=N):-(M*N)<=a*b/\a*b<=M*N:=by
 have h1:a.natAbs<=M.natAbs:=by omega
 have h2:b.natAbs<=N.natAbs:=by omega
 have h3:(a*b).natAbs<=(M*N).natAbs:=by rw [Int.natAbs_mul,Int.natAbs_mul];exact Nat.mul_le_mul h1 h2
 have h4:0<=M*N:=Int.mul_nonneg (by omega) (by omega);omega
def vH (p:Pt):Prop:=(-1048576<=p.x/\p.x<=1048576)/\(-1048576<=p.y/\p.y<=1048576)
theorem zpb {a b c:Pt} (ha:vH a) (hb:vH b) (hc:vH c):(-4398046511104<=(b.x - a.x)*(c.y - a.y)/\(b.x - a.x)*(c.y - a.y)<=4398046511104)/\(-4398046511104<=(b.y - a.y)*(c.x - a.x)/\(b.y - a.y)*(c.x - a.x)<=4398046511104):=by
 unfold vH at *;exact ⟨zon (M:=2097152) (N:=2097152) (by omega) (by omega),zon (M:=2097152) (N:=2097152) (by omega) (by omega)⟩
theorem zvM:G.shared 147=false:=by decide
theorem e147 (n:Nat) (a b c:Pt) (ha:vH a) (hb:vH b) (hc:vH c):zK G (n+1) 147 [.agg a.cells,.agg b.cells,.agg c.cells]=some (.int .i64 (qC a b c)):=by
 refine zz (zy _) rfl g147 rfl ?_
 obtain ⟨q1,q2⟩:=zpb ha hb hc;unfold vH at *;have w1:IntKind.i64.wrap (b.x - a.x)=b.x - a.x:=wrap64 (by omega) (by omega);have w2:IntKind.i64.wrap (b.y - a.y)=b.y - a.y:=wrap64 (by omega) (by omega);have w3:IntKind.i64.wrap (c.x - a.x)=c.x - a.x:=wrap64 (by omega) (by omega);have w4:IntKind.i64.wrap (c.y - a.y)=c.y - a.y:=wrap64 (by omega) (by omega);have w5:IntKind.i64.wrap ((b.x - a.x)*(c.y - a.y))=(b.x - a.x)*(c.y - a.y):=wrap64 (by omega) (by omega);have w6:IntKind.i64.wrap ((b.y - a.y)*(c.x - a.x))=(b.y - a.y)*(c.x - a.x):=wrap64 (by omega) (by omega);have w7:IntKind.i64.wrap ((b.x - a.x)*(c.y - a.y) - (b.y - a.y)*(c.x - a.x))=(b.x - a.x)*(c.y - a.y) - (b.y - a.y)*(c.x - a.x):=wrap64 (by omega) (by omega);clear ha hb hc q1 q2;simp [*,zb,c147,Pt.cells,qC]
theorem zv2:G.shared 157=false:=by decide
theorem e157 (n:Nat) (ax ay bx by' cx cy:Int) (ha:vH ⟨ax,ay⟩) (hb:vH ⟨bx,by'⟩) (hc:vH ⟨cx,cy⟩):zK G (n+1) 157 [.int .i64 ax,.int .i64 ay,.int .i64 bx,.int .i64 by',.int .i64 cx,.int .i64 cy]=some (.int .i64 (qC ⟨ax,ay⟩ ⟨bx,by'⟩ ⟨cx,cy⟩)):=by
 refine zz (zy _) rfl g157 rfl ?_
 obtain ⟨q1,q2⟩:=zpb ha hb hc;unfold vH at *;simp only at *;have w1:IntKind.i64.wrap (bx - ax)=bx - ax:=wrap64 (by omega) (by omega);have w2:IntKind.i64.wrap (by' - ay)=by' - ay:=wrap64 (by omega) (by omega);have w3:IntKind.i64.wrap (cx - ax)=cx - ax:=wrap64 (by omega) (by omega);have w4:IntKind.i64.wrap (cy - ay)=cy - ay:=wrap64 (by omega) (by omega);have w5:IntKind.i64.wrap ((bx - ax)*(cy - ay))=(bx - ax)*(cy - ay):=wrap64 (by omega) (by omega);have w6:IntKind.i64.wrap ((by' - ay)*(cx - ax))=(by' - ay)*(cx - ax):=wrap64 (by omega) (by omega);have w7:IntKind.i64.wrap ((bx - ax)*(cy - ay) - (by' - ay)*(cx - ax))=(bx - ax)*(cy - ay) - (by' - ay)*(cx - ax):=wrap64 (by omega) (by omega);clear ha hb hc q1 q2;simp [*,zb,c157,qC]
theorem ui.box {f:Fact} {l:List Box} (h:ui f l) {i:Nat} (hi:i < l.length):fT l[i].x 1048576/\fT l[i].y 1048576:=by
 have:=aF.1 (h.v _ (List.getElem_mem hi));unfold fT;omega
def az (f:Fact) (l:List Box):Span×Span:=(sw l[f.b.toNat]!.x l[f.a.toNat]!.x,sw l[f.b.toNat]!.y l[f.a.toNat]!.y)
theorem ztK:G.shared 103=false:=by decide
theorem e103 (n:Nat) (p:Pt):zK G (n+1) 103 [.agg p.cells]=some (.agg (bT p).cells):=by
 refine zz (zy _) rfl g103 rfl ?_
 simp [*,zb,c103,Pt.cells,Box.cells,bT]
theorem TM:G.shared 143=false:=by decide
theorem e143 (n:Nat) (r:Reader) (hr:ui r.f r.l.xs):zK G (n+2) 143 [.agg r.cells]=some (.aQ [.agg (az r.f r.l.xs).1.cells,.agg (az r.f r.l.xs).2.cells]):=by
 refine zz (zy _) rfl g143 rfl ?_
 obtain ⟨f,l⟩:=r;simp only at hr;obtain ⟨i,hi,ea,ga⟩:=wm hr.a.1 hr.a.2;obtain ⟨j,hj,eb,gb⟩:=wm hr.b.1 hr.b.2;obtain ⟨h1,h2⟩:=hr.box hi;obtain ⟨h3,h4⟩:=hr.box hj;have hx:∀ H,zH (zu G (n+1)) H (.pure (.func 155 [])) [.pure (.agg (l.xs[j]).x.cells),.pure (.agg (l.xs[i]).x.cells)]=some (.val (.pure (.agg (sw (l.xs[j]).x (l.xs[i]).x).cells))):=fun H=>ze (caps:=[]) (ps:=[_,_]) ztP (e155 n _ _ h3 h1);have hy:∀ H,zH (zu G (n+1)) H (.pure (.func 155 [])) [.pure (.agg (l.xs[j]).y.cells),.pure (.agg (l.xs[i]).y.cells)]=some (.val (.pure (.agg (sw (l.xs[j]).y (l.xs[i]).y).cells))):=fun H=>ze (caps:=[]) (ps:=[_,_]) ztP (e155 n _ _ h4 h2);simp only [Span.cells] at hx hy;clear h1 h2 h3 h4 hr;unfold az;rw [ga,gb];clear ga gb;simp [*,zb,c143,Reader.cells,Fact.cells,Box.cells,Span.cells]
theorem zv6:G.shared 145=false:=by decide
theorem e145 (n:Nat) (r:Reader) (v:Span):zK G (n+1) 145 [.agg r.cells,.agg v.cells]=some (.aQ [.bool (ng r.f.span v).1,.bool (ng r.f.span v).2]):=by
 refine zz (zy _) rfl g145 rfl ?_
 (repeat' first|simp [*,zb,c145,Reader.cells,Fact.cells,Span.cells,ng]|(apply za<;>intro _ h<;>try simp [-Nat.le_zero_eq] at h))
@[simp] theorem d145 (n:Nat) (H:Heap) (CX:Int) (uW:Int) (CY:Bool) (Ie:Int) (Ig:Int) (Ih:Int) (oH:Int) (oI:Int) (oJ:Int) (r_l:Sl Box) (OD:Int) (OE:Int):zH (zu G (n+1)) H (.pure (.func 145 [])) [.pure (.agg [.int .i64 CX,.int .i64 uW,.bool CY,.int .i64 Ie,.int .i64 Ig,.int .i64 Ih,.int .i64 oH,.int .i64 oI,.int .i64 oJ,(r_l).pv Box.cells 4]),.pure (.agg [.int .i64 OD,.int .i64 OE])]=some (.val (.pure ((fun (r:Reader)=>(fun (v:Span)=>.aQ [.bool (ng r.f.span v).1,.bool (ng r.f.span v).2]) (⟨OD,OE⟩:Span)) (⟨⟨CX,uW,CY,Ie,Ig,Ih,⟨oH,oI⟩,oJ⟩,r_l⟩:Reader)))) :=
 ze (ps:=[_,_]) (caps:=[]) zv6 (e145 n (⟨⟨CX,uW,CY,Ie,Ig,Ih,⟨oH,oI⟩,oJ⟩,r_l⟩:Reader) (⟨OD,OE⟩:Span))
theorem zmB {a b:Span} (ha:fT a 1048576) (hb:fT b 1048576):fT (sw a b) 2097152:=by unfold fT sw at *;simp only;omega
theorem Gn {s:Span} {M N:Int} (h:fT s M) (hMN:M<=N):fT s N:=by unfold fT at *;omega
theorem Jr {f:Fact} {l:List Box} (h:ui f l):fT (az f l).1 2097152/\fT (az f l).2 2097152:=by
 obtain ⟨i,hi,ea,ga⟩:=wm h.a.1 h.a.2;obtain ⟨j,hj,eb,gb⟩:=wm h.b.1 h.b.2;unfold az;rw [ga,gb];obtain ⟨h1,h2⟩:=h.box hi;obtain ⟨h3,h4⟩:=h.box hj;exact ⟨zmB h3 h1,zmB h4 h2⟩
theorem WU {s:Span} (h:fT s 2097152):0<=(zB s).lo/\(zB s).lo<=(zB s).hi/\(zB s).hi<=2097152:=by
 unfold fT at h
 by_cases h1:0<=s.lo
 .simp only [zB,if_pos h1];omega
 .by_cases h2:s.hi<=0
  .simp only [zB,if_neg h1,if_pos h2];omega
  .simp only [zB,if_neg h1,if_neg h2];omega
theorem MO {a:Int} (h0:0<=a) (h:a<=2097152):0<=a*a/\a*a<=4398046511104:=by
 have:=zon (a:=a) (b:=a) (M:=2097152) (N:=2097152) (by omega) (by omega);exact ⟨Int.mul_nonneg h0 h0,by omega⟩
theorem zvQ:G.shared 120=false:=by decide
theorem e120 (n:Nat) (r:Reader) (hr:ui r.f r.l.xs):zK G (n+3) 120 [.agg r.cells]=some (.aQ [.bool (ng r.f.span (CW (zB (az r.f r.l.xs).1) (zB (az r.f r.l.xs).2))).1,.bool (ng r.f.span (CW (zB (az r.f r.l.xs).1) (zB (az r.f r.l.xs).2))).2]):=by
 refine zz (zy _) rfl g120 rfl ?_
 obtain ⟨v1,v2⟩:=Jr hr;have hv:∀ H,zH (zu G (n+2)) H (.pure (.func 143 [])) [.pure (.agg r.cells)]=some (.val (.pure (.aQ [.agg (az r.f r.l.xs).1.cells,.agg (az r.f r.l.xs).2.cells]))):=fun H=>ze (caps:=[]) (ps:=[_]) TM (e143 n r hr);have ha:∀ H,zH (zu G (n+2)) H (.pure (.func 144 [])) [.pure (.agg (az r.f r.l.xs).1.cells)]=some (.val (.pure (.agg (zB (az r.f r.l.xs).1).cells))):=fun H=>ze (caps:=[]) (ps:=[_]) QN (e144 (n+1) _ (Gn v1 (by omega)));have hb:∀ H,zH (zu G (n+2)) H (.pure (.func 144 [])) [.pure (.agg (az r.f r.l.xs).2.cells)]=some (.val (.pure (.agg (zB (az r.f r.l.xs).2).cells))):=fun H=>ze (caps:=[]) (ps:=[_]) QN (e144 (n+1) _ (Gn v2 (by omega)));obtain ⟨a1,a2,a3⟩:=WU v1;obtain ⟨b1,b2,b3⟩:=WU v2;clear v1 v2 hr;generalize (az r.f r.l.xs).1=x at *;generalize (az r.f r.l.xs).2=y at *;generalize zB x=ax at *;generalize zB y=ay at *;have s1:=MO a1 (by omega);have s2:=MO (a:=ax.hi) (by omega) a3;have s3:=MO b1 (by omega);have s4:=MO (a:=ay.hi) (by omega) b3;have w1:IntKind.i64.wrap (ax.lo*ax.lo)=ax.lo*ax.lo:=wrap64 (by omega) (by omega);have w2:IntKind.i64.wrap (ax.hi*ax.hi)=ax.hi*ax.hi:=wrap64 (by omega) (by omega);have w3:IntKind.i64.wrap (ay.lo*ay.lo)=ay.lo*ay.lo:=wrap64 (by omega) (by omega);have w4:IntKind.i64.wrap (ay.hi*ay.hi)=ay.hi*ay.hi:=wrap64 (by omega) (by omega);have w5:IntKind.i64.wrap (ax.lo*ax.lo+ay.lo*ay.lo)=ax.lo*ax.lo+ay.lo*ay.lo:=wrap64 (by omega) (by omega);have w6:IntKind.i64.wrap (ax.hi*ax.hi+ay.hi*ay.hi)=ax.hi*ax.hi+ay.hi*ay.hi:=wrap64 (by omega) (by omega);clear a1 a2 a3 b1 b2 b3 s1 s2 s3 s4;simp only [Span.cells,Reader.cells,Fact.cells] at hv ha hb;simp [*,zb,c120,Reader.cells,Fact.cells,Span.cells,CW]
theorem zvs:G.shared 123=false:=by decide
theorem e123 (n:Nat) (r:Reader) (hr:ui r.f r.l.xs):zK G (n+3) 123 [.agg r.cells]=some (.aQ [.bool (Ib r.f.span (zB (az r.f r.l.xs).1) (zB (az r.f r.l.xs).2)).1,.bool (Ib r.f.span (zB (az r.f r.l.xs).1) (zB (az r.f r.l.xs).2)).2]):=by
 refine zz (zy _) rfl g123 rfl ?_
 obtain ⟨v1,v2⟩:=Jr hr;have hv:∀ H,zH (zu G (n+2)) H (.pure (.func 143 [])) [.pure (.agg r.cells)]=some (.val (.pure (.aQ [.agg (az r.f r.l.xs).1.cells,.agg (az r.f r.l.xs).2.cells]))):=fun H=>ze (caps:=[]) (ps:=[_]) TM (e143 n r hr);have ha:∀ H,zH (zu G (n+2)) H (.pure (.func 144 [])) [.pure (.agg (az r.f r.l.xs).1.cells)]=some (.val (.pure (.agg (zB (az r.f r.l.xs).1).cells))):=fun H=>ze (caps:=[]) (ps:=[_]) QN (e144 (n+1) _ (Gn v1 (by omega)));have hb:∀ H,zH (zu G (n+2)) H (.pure (.func 144 [])) [.pure (.agg (az r.f r.l.xs).2.cells)]=some (.val (.pure (.agg (zB (az r.f r.l.xs).2).cells))):=fun H=>ze (caps:=[]) (ps:=[_]) QN (e144 (n+1) _ (Gn v2 (by omega)));clear v1 v2 hr;generalize (az r.f r.l.xs).1=x at *;generalize (az r.f r.l.xs).2=y at *;generalize zB x=ax at *;generalize zB y=ay at *;simp only [Span.cells,Reader.cells,Fact.cells] at hv ha hb;simp [*,zb,c123,Reader.cells,Fact.cells,Span.cells,Ib]
theorem zvN:G.shared 124=false:=by decide
theorem e124 (n:Nat) (r:Reader) (hr:ui r.f r.l.xs):zK G (n+3) 124 [.agg r.cells]=some (.aQ [.bool (ng r.f.span (az r.f r.l.xs).1).1,.bool (ng r.f.span (az r.f r.l.xs).1).2]):=by
 refine zz (zy _) rfl g124 rfl ?_
 obtain ⟨v1,v2⟩:=Jr hr;have hv:∀ H,zH (zu G (n+2)) H (.pure (.func 143 [])) [.pure (.agg r.cells)]=some (.val (.pure (.aQ [.agg (az r.f r.l.xs).1.cells,.agg (az r.f r.l.xs).2.cells]))):=fun H=>ze (caps:=[]) (ps:=[_]) TM (e143 n r hr);clear v1 v2 hr;generalize (az r.f r.l.xs).1=x at *;generalize (az r.f r.l.xs).2=y at *;simp only [Span.cells,Reader.cells,Fact.cells] at hv;simp [*,zb,c124,Reader.cells,Fact.cells,Span.cells]
theorem zvb:G.shared 125=false:=by decide
theorem e125 (n:Nat) (r:Reader) (hr:ui r.f r.l.xs):zK G (n+3) 125 [.agg r.cells]=some (.aQ [.bool (ng r.f.span (az r.f r.l.xs).2).1,.bool (ng r.f.span (az r.f r.l.xs).2).2]):=by
 refine zz (zy _) rfl g125 rfl ?_
 obtain ⟨v1,v2⟩:=Jr hr;have hv:∀ H,zH (zu G (n+2)) H (.pure (.func 143 [])) [.pure (.agg r.cells)]=some (.val (.pure (.aQ [.agg (az r.f r.l.xs).1.cells,.agg (az r.f r.l.xs).2.cells]))):=fun H=>ze (caps:=[]) (ps:=[_]) TM (e143 n r hr);clear v1 v2 hr;generalize (az r.f r.l.xs).1=x at *;generalize (az r.f r.l.xs).2=y at *;simp only [Span.cells,Reader.cells,Fact.cells] at hv;simp [*,zb,c125,Reader.cells,Fact.cells,Span.cells]
theorem zvl:G.shared 122=false:=by decide
theorem e122 (n:Nat) (r:Reader) (hr:ui r.f r.l.xs):zK G (n+3) 122 [.agg r.cells]=some (.aQ [.bool (Ia (nA r.f.quarter (az r.f r.l.xs).1 (az r.f r.l.xs).2).1 (nA r.f.quarter (az r.f r.l.xs).1 (az r.f r.l.xs).2).2).1,.bool (Ia (nA r.f.quarter (az r.f r.l.xs).1 (az r.f r.l.xs).2).1 (nA r.f.quarter (az r.f r.l.xs).1 (az r.f r.l.xs).2).2).2]):=by
 refine zz (zy _) rfl g122 rfl ?_
 obtain ⟨v1,v2⟩:=Jr hr;have hv:∀ H,zH (zu G (n+2)) H (.pure (.func 143 [])) [.pure (.agg r.cells)]=some (.val (.pure (.aQ [.agg (az r.f r.l.xs).1.cells,.agg (az r.f r.l.xs).2.cells]))):=fun H=>ze (caps:=[]) (ps:=[_]) TM (e143 n r hr);have ha:∀ H,zH (zu G (n+2)) H (.pure (.func 144 [])) [.pure (.agg (az r.f r.l.xs).1.cells)]=some (.val (.pure (.agg (zB (az r.f r.l.xs).1).cells))):=fun H=>ze (caps:=[]) (ps:=[_]) QN (e144 (n+1) _ (Gn v1 (by omega)));have hb:∀ H,zH (zu G (n+2)) H (.pure (.func 144 [])) [.pure (.agg (az r.f r.l.xs).2.cells)]=some (.val (.pure (.agg (zB (az r.f r.l.xs).2).cells))):=fun H=>ze (caps:=[]) (ps:=[_]) QN (e144 (n+1) _ (Gn v2 (by omega)));have hx:fT (az r.f r.l.xs).1 2097152:=v1;have hy:fT (az r.f r.l.xs).2 2097152:=v2;clear v1 v2 hr;generalize (az r.f r.l.xs).1=x at *;generalize (az r.f r.l.xs).2=y at *;have w1:IntKind.i64.wrap (0 - x.lo)=- x.lo:=by rw [wrap64 (by unfold fT at *;omega) (by unfold fT at *;omega)];omega
 have w2:IntKind.i64.wrap (0 - x.hi)=- x.hi:=by rw [wrap64 (by unfold fT at *;omega) (by unfold fT at *;omega)];omega
 have w3:IntKind.i64.wrap (- x.lo)=- x.lo:=wrap64 (by unfold fT at *;omega) (by unfold fT at *;omega);have w4:IntKind.i64.wrap (- x.hi)=- x.hi:=wrap64 (by unfold fT at *;omega) (by unfold fT at *;omega);have w5:IntKind.i64.wrap (0 - y.lo)=- y.lo:=by rw [wrap64 (by unfold fT at *;omega) (by unfold fT at *;omega)];omega
 have w6:IntKind.i64.wrap (0 - y.hi)=- y.hi:=by rw [wrap64 (by unfold fT at *;omega) (by unfold fT at *;omega)];omega
 have w7:IntKind.i64.wrap (- y.lo)=- y.lo:=wrap64 (by unfold fT at *;omega) (by unfold fT at *;omega);have w8:IntKind.i64.wrap (- y.hi)=- y.hi:=wrap64 (by unfold fT at *;omega) (by unfold fT at *;omega);clear hx hy;generalize Cj:zB x=ax at *;generalize hay:zB y=ay at *;simp only [Span.cells,Reader.cells,Fact.cells] at hv ha hb;(repeat' first|simp [*,zb,c122,Reader.cells,Fact.cells,Span.cells]|(apply za<;>intro _ h<;>try simp [-Nat.le_zero_eq] at h))
 all_goals (simp [*,Ia,nA];done)
def QO (b:Box):List PV:=(zP b).flatMap Pt.cells
theorem WV:G.shared 146=false:=by decide
theorem e146 (n:Nat) (b:Box):zK G (n+1) 146 [.agg b.cells]=some (.agg (QO b)):=by
 refine zz (zy _) rfl g146 rfl ?_
 simp [*,zb,c146,Box.cells,Span.cells,zP,QO,Pt.cells]
theorem zee (b:Box) (i:Nat) (hi:i < 4) (k:IntKind):WB 2 4 true (.pure (.agg (QO b))) (.pure (.int k i))=some (.val (.pure (.agg ((zP b)[i]'hi).cells))):=by
 have:i=0\/i=1\/i=2\/i=3:=by omega
 rcases this with rfl|rfl|rfl|rfl<;>rfl
theorem zg1 {b:Box} (h:o7 b=true) (i:Nat) (hi:i < 4):vH ((zP b)[i]'hi):=by
 have hv:=aF.1 h;have:i=0\/i=1\/i=2\/i=3:=by omega
 rcases this with rfl|rfl|rfl|rfl<;>(simp only [zP,vH,List.getElem_cons_zero,List.getElem_cons_succ];omega)
structure w9 (L:List Int) (cnt:Nat) (env:Env) (H:Heap):Prop where
 nx:0 < H.nx
 ex:∃ (fst:Bool) (v:Span),env 4=.pure (.bool fst)/\H.get 0=.cells true [.pure (.int .i64 v.lo),.pure (.int .i64 v.hi)]/\Hide (if fst=true then cnt=0 else Jq L cnt v)
theorem w9.cast {L:List Int} {c c':Nat} {env:Env} {H:Heap} (h:w9 L c env H) (e:c=c'):w9 L c' env H:=e ▸ h
theorem zrs (a b c:Box) (i j k:Nat) (hi:i < 4) (hj:j < 4) (hk:k < 4):∃ h:16*i+4*j+k < (qg a b c).length,(qg a b c)[16*i+4*j+k]=qC ((zP a)[i]'hi) ((zP b)[j]'hj) ((zP c)[k]'hk):=by
 have h1:=zqH a b c i j k hi hj hk;obtain ⟨h,e⟩:=List.getElem?_eq_some_iff.1 h1;exact ⟨h,e⟩
theorem zvU:G.shared 121=false:=by decide
theorem e121 (n:Nat) (r:Reader) (hr:ui r.f r.l.xs) (hk:r.f.kind=2):zK G (n+3) 121 [.agg r.cells]=some (.aQ [.bool (ng r.f.span (sP r.l.xs[r.f.a.toNat]! r.l.xs[r.f.b.toNat]! r.l.xs[r.f.c.toNat]!)).1,.bool (ng r.f.span (sP r.l.xs[r.f.a.toNat]! r.l.xs[r.f.b.toNat]! r.l.xs[r.f.c.toNat]!)).2]):=by
 refine zz (zy _) rfl g121 rfl ?_
 obtain ⟨f,l⟩:=r;simp only at hr hk;obtain ⟨i,hi,ea,ga⟩:=wm hr.a.1 hr.a.2;obtain ⟨j,hj,eb,gb⟩:=wm hr.b.1 hr.b.2;obtain ⟨k,hk,ec,gc⟩:=wm (hr.c hk).1 (hr.c hk).2;have va:o7 l.xs[i]=true:=hr.v _ (List.getElem_mem hi);have vb:o7 l.xs[j]=true:=hr.v _ (List.getElem_mem hj);have vc:o7 l.xs[k]=true:=hr.v _ (List.getElem_mem hk);have ca:=ze (G:=G) (n:=n+2) (H:=Heap.empty) (caps:=[]) (ps:=[.agg (l.xs[i]).cells]) WV (e146 (n+1) l.xs[i]);have qa:∀ H,zH (zu G (n+2)) H (.pure (.func 146 [])) [.pure (.agg (l.xs[i]).cells)]=some (.val (.pure (.agg (QO l.xs[i])))):=fun H=>ze (caps:=[]) (ps:=[_]) WV (e146 (n+1) _);have qb:∀ H,zH (zu G (n+2)) H (.pure (.func 146 [])) [.pure (.agg (l.xs[j]).cells)]=some (.val (.pure (.agg (QO l.xs[j])))):=fun H=>ze (caps:=[]) (ps:=[_]) WV (e146 (n+1) _);have qc:∀ H,zH (zu G (n+2)) H (.pure (.func 146 [])) [.pure (.agg (l.xs[k]).cells)]=some (.val (.pure (.agg (QO l.xs[k])))):=fun H=>ze (caps:=[]) (ps:=[_]) WV (e146 (n+1) _);clear ca;have hT:∀ (x y z:Nat) (hx:x < 4) (hy:y < 4) (hz:z < 4) H,zH (zu G (n+2)) H (.pure (.func 147 [])) [.pure (.agg ((zP l.xs[i])[x]'hx).cells),.pure (.agg ((zP l.xs[j])[y]'hy).cells),.pure (.agg ((zP l.xs[k])[z]'hz).cells)]=some (.val (.pure (.int .i64 (qC ((zP l.xs[i])[x]'hx) ((zP l.xs[j])[y]'hy) ((zP l.xs[k])[z]'hz))))):=fun x y z hx hy hz H =>
  ze (caps:=[]) (ps:=[_,_,_]) zvM (e147 (n+1) _ _ _ (zg1 va x hx) (zg1 vb y hy) (zg1 vc z hz))
 have hT':=Hide.mk hT;have ta:=Hide.mk (zrs l.xs[i] l.xs[j] l.xs[k]);have lJ:Hide (∀ v,Jq (qg l.xs[i] l.xs[j] l.xs[k]) 64 v->v=sP l.xs[i] l.xs[j] l.xs[k]):=⟨fun v h=>znI (by rw [zkM];exact h)⟩
 have fA:Hide (∀ v cnt (h:cnt < (qg l.xs[i] l.xs[j] l.xs[k]).length),Jq (qg l.xs[i] l.xs[j] l.xs[k]) cnt v->Jq (qg l.xs[i] l.xs[j] l.xs[k]) (cnt+1) ⟨min v.lo (qg l.xs[i] l.xs[j] l.xs[k])[cnt],max v.hi (qg l.xs[i] l.xs[j] l.xs[k])[cnt]⟩):=⟨fun v cnt h h2=>zlG h h2⟩
 have pM:Hide (∀ (h:0 < (qg l.xs[i] l.xs[j] l.xs[k]).length),Jq (qg l.xs[i] l.xs[j] l.xs[k]) 1 ⟨(qg l.xs[i] l.xs[j] l.xs[k])[0],(qg l.xs[i] l.xs[j] l.xs[k])[0]⟩):=⟨fun h=>zkW h⟩
 rw [ga,gb,gc];clear ga gb gc hr hT;have ia:=Hide.mk (zee l.xs[i]);have ib:=Hide.mk (zee l.xs[j]);have ic:=Hide.mk (zee l.xs[k]);generalize sP l.xs[i] l.xs[j] l.xs[k]=T at *;generalize qg l.xs[i] l.xs[j] l.xs[k]=L at *;clear va vb vc;simp only [Box.cells,Span.cells] at qa qb qc;(repeat' first|simp [*,zb,c121,Reader.cells,Fact.cells,Box.cells,Span.cells]|(apply za<;>intro _ h<;>try simp [-Nat.le_zero_eq] at h))
 refine zL [(4,4),(7,7),(9,9),(11,12),(22,66)] (fun (x:Nat) env H=>env 22=.pure (.int .i64 x)/\x<=4/\w9 L (16*x) env H) (fun x=>4 - x) 0 ?_ ?_ ?_ ?_
 .decide
 .refine ⟨by simp,by omega,⟨by simp,true,⟨0,0⟩,by simp,by simp,⟨by simp⟩⟩⟩
 .simp only [zF];omega
 rintro x env H ⟨g0,hx,⟨bX,fst,v,g4,gv,xc⟩⟩
 by_cases aO:x < 4
 .have ix:=ia.h x aO .i64;have Ii:(x:Int) < 4:=by omega
  have Kw:=Hide.mk (fun y z (hy:y < 4) (hz:z < 4) H=>hT'.h x y z aO hy hz H);have tax:=Hide.mk (fun y z (hy:y < 4) (hz:z < 4)=>ta.h x y z aO hy hz);clear hT' ta ia;generalize (zP l.xs[i])[x]=px at *;simp only [Pt.cells] at ix;(repeat' first|simp [*,zb]|(apply za<;>intro _ h<;>try simp [-Nat.le_zero_eq] at h))
  refine zL [(4,4),(9,9),(11,12),(33,65)] (fun (y:Nat) env H1=>env 33=.pure (.int .i64 y)/\y<=4/\w9 L (16*x+4*y) env H1/\H.nx < H1.nx/\H1.get H.nx=.cells true [.pure (.int .i64 px.x),.pure (.int .i64 px.y)]) (fun y=>4 - y) 0 ?_ ?_ ?_ ?_
  .decide
  .refine ⟨by simp,by omega,⟨by simp,fst,v,by simp [g4],?_,xc⟩,by simp,by simp⟩
   rw [zf (by omega),zg bX];exact gv
  .simp only [zF];omega
  have hH0:H.nx≠0:=by omega
  have g22:=g0;clear bX g4 gv xc g0;rintro y env H1 ⟨g0,hy,⟨bX,fst,v,g4,gv,xc⟩,Ad,gp⟩
  by_cases oK:y < 4
  .have iy:=ib.h y oK .i64;have hlI2:(y:Int) < 4:=by omega
   have hTy:=Hide.mk (fun z (hz:z < 4) H=>Kw.h y z oK hz H);have tay:=Hide.mk (fun z (hz:z < 4)=>tax.h y z oK hz);clear Kw tax ib;generalize (zP l.xs[j])[y]=py at *;simp only [Pt.cells] at iy;(repeat' first|simp [*,zb]|(apply za<;>intro _ h<;>try simp [-Nat.le_zero_eq] at h))
   refine zL [(4,4),(11,12),(44,64)] (fun (z:Nat) env H2=>env 44=.pure (.int .i64 z)/\z<=4/\w9 L (16*x+4*y+z) env H2/\H1.nx < H2.nx/\H2.get H.nx=.cells true [.pure (.int .i64 px.x),.pure (.int .i64 px.y)]/\H2.get H1.nx=.cells true [.pure (.int .i64 py.x),.pure (.int .i64 py.y)]) (fun z=>4 - z) 0 ?_ ?_ ?_ ?_
   .decide
   .refine ⟨by simp,by omega,⟨by simp,fst,v,by simp [g4],?_,xc⟩,by simp,?_,by simp⟩
    .rw [zf (by omega),zg bX];exact gv
    .rw [zf (by omega),zg Ad];exact gp
   .simp only [zF];omega
   have Om:H1.nx≠0:=by omega
   have g33:=g0;clear bX g4 gv xc g0 gp;rintro z env H2 ⟨g0,hz,⟨bX,fst,v,g4,gv,xc⟩,SV,gp,gq⟩
   by_cases Ij:z < 4
   .have iz:=ic.h z Ij .i64;have hlI3:(z:Int) < 4:=by omega
    have hTz:=fun H=>hTy.h z Ij H;obtain ⟨hlen,fe⟩:=tay.h z Ij;clear hTy tay ic;have sM:=Hide.mk (fun v=>fA.h v _ hlen);rw [fe] at sM;have Ag:Hide (16*x+4*y+z=0->Jq L 1 ⟨qC px py (zP l.xs[k])[z],qC px py (zP l.xs[k])[z]⟩):=⟨fun h0=>by
     have h1:L[0]'(by omega)=qC px py (zP l.xs[k])[z]:=by rw [<- fe];congr 1;omega
     have:=pM.h (by omega);rw [h1] at this;exact this⟩
    clear fe hlen fA pM lJ;generalize qC px py (zP l.xs[k])[z]=tv at *;generalize (zP l.xs[k])[z]=pz at *;have ne1:H.nx≠H2.nx:=by omega
    have ne2:H1.nx≠H2.nx:=by omega
    have ne3:(0:Nat)≠H2.nx:=by omega
    have lt1:H.nx < H2.nx:=by omega
    simp only [Pt.cells] at iz hTz
    cases fst with
    | true =>
     have jB:16*x+4*y+z=0:=by simpa using xc.h
     (repeat' first|simp [*,zb]|(apply za<;>intro _ h<;>try simp [-Nat.le_zero_eq] at h))
     refine ⟨z+1,by omega,by rw [wrap64 (by omega) (by omega)];omega,by omega,⟨by simp;try omega,false,⟨tv,tv⟩,by simp [g4],?_,⟨?_⟩⟩,by omega⟩
     .simp [bX]
     .simp only [Bool.false_eq_true,if_false];rw [show 16*x+4*y+(z+1)=1 by omega];exact Ag.h jB
    | false =>
     (repeat' first|simp [*,zb]|(apply za<;>intro _ h<;>try simp [-Nat.le_zero_eq] at h))
     refine ⟨z+1,by omega,by rw [wrap64 (by omega) (by omega)];omega,by omega,⟨by simp;try omega,false,⟨min v.lo tv,max v.hi tv⟩,by simp [g4],?_,⟨?_⟩⟩,by omega⟩
     .simp [bX]
     .have:=sM.h v (by simpa using xc.h);simp only [Bool.false_eq_true,if_false];rw [<- Nat.add_assoc];exact this
   .have hz4:z=4:=by omega
    subst hz4;clear fA pM lJ hTy tay ic;have w1:IntKind.i64.wrap ((y:Int)+1)=(y+1:Nat):=by rw [wrap64 (by omega) (by omega)];omega
    (repeat' first|simp [*,zb]|(apply za<;>intro _ h<;>try simp [-Nat.le_zero_eq] at h))
    refine ⟨y+1,by omega,rfl,by omega,⟨bX,fst,v,by simp [g4],gv,?_⟩,by omega⟩
    rw [show 16*x+4*(y+1)=16*x+4*y+4 by omega];exact xc
  .have hy4:y=4:=by omega
   subst hy4;clear fA pM lJ Kw tax ic ib;have w1:IntKind.i64.wrap ((x:Int)+1)=(x+1:Nat):=by rw [wrap64 (by omega) (by omega)];omega
   (repeat' first|simp [*,zb]|(apply za<;>intro _ h<;>try simp [-Nat.le_zero_eq] at h))
   refine ⟨x+1,by omega,rfl,by omega,⟨bX,fst,v,by simp [g4],gv,?_⟩⟩
   rw [show 16*(x+1)=16*x+4*4 by omega];exact xc
 .have WW:x=4:=by omega
  subst WW;have hT2:v=T/\fst=false:=by
   have h1:=xc.h
   cases fst with
   | true=>simp at h1
   | false=>exact ⟨lJ.h v (by simpa using h1),rfl⟩
  obtain ⟨rfl,rfl⟩:=hT2;clear fA pM lJ hT' ta ic ib ia xc;simp [*,zb]
set_option maxHeartbeats 400000
theorem zhc (f:Fact) (l:List Box):Es f l=if f.kind=2 then ng f.span (sP l[f.a.toNat]! l[f.b.toNat]! l[f.c.toNat]!) else if f.kind=3 then Ia (nA f.quarter (az f l).1 (az f l).2).1 (nA f.quarter (az f l).1 (az f l).2).2
 else if f.kind=4 then Ib f.span (zB (az f l).1) (zB (az f l).2) else if f.kind=5 then ng f.span (az f l).1 else if f.kind=6 then ng f.span (az f l).2 else ng f.span (CW (zB (az f l).1) (zB (az f l).2)):=rfl
theorem zvL:G.shared 104=false:=by decide
theorem e104 (n:Nat) (f:Fact) (l:Sl Box) (hr:ui f l.xs):zK G (n+4) 104 [.agg f.cells,l.pv Box.cells 4]=some (.aQ [.bool (Es f l.xs).1,.bool (Es f l.xs).2]):=by
 refine zz (zy _) rfl g104 rfl ?_
 let r:Reader:=⟨f,l⟩
 have h1:=fun H=>ze (G:=G) (n:=n+3) (H:=H) (caps:=[]) (ps:=[.agg r.cells]) zvQ (e120 n r hr);have h2:f.kind=2->_:=fun hk H=>ze (G:=G) (n:=n+3) (H:=H) (caps:=[]) (ps:=[.agg r.cells]) zvU (e121 n r hr hk);have h3:=fun H=>ze (G:=G) (n:=n+3) (H:=H) (caps:=[]) (ps:=[.agg r.cells]) zvl (e122 n r hr);have h4:=fun H=>ze (G:=G) (n:=n+3) (H:=H) (caps:=[]) (ps:=[.agg r.cells]) zvs (e123 n r hr);have h5:=fun H=>ze (G:=G) (n:=n+3) (H:=H) (caps:=[]) (ps:=[.agg r.cells]) zvN (e124 n r hr);have h6:=fun H=>ze (G:=G) (n:=n+3) (H:=H) (caps:=[]) (ps:=[.agg r.cells]) zvb (e125 n r hr);have En:r.f=f/\r.l=l:=⟨rfl,rfl⟩
 have rc:r.cells=[.int .i64 f.id,.int .i64 f.kind,.bool f.nt,.int .i64 f.a,.int .i64 f.b,.int .i64 f.c,.int .i64 f.span.lo,.int .i64 f.span.hi,.int .i64 f.quarter,l.pv Box.cells 4]:=rfl;simp only [rc,List.map] at h1 h2 h3 h4 h5 h6;rw [En.1,En.2] at h1 h2 h3 h4 h5 h6;clear rc En hr;clear r;rw [zhc];generalize az f l.xs=v at *;generalize ng f.span (sP l.xs[f.a.toNat]! l.xs[f.b.toNat]! l.xs[f.c.toNat]!)=t at *
 by_cases k2:f.kind=2
 .have h2:=h2 k2;rw [if_pos k2];simp only [k2] at h2;clear h1 h3 h4 h5 h6;simp [*,zb,c104,Fact.cells]
 rw [if_neg k2];clear h2
 by_cases k3:f.kind=3
 .rw [if_pos k3];generalize Ia (nA f.quarter v.1 v.2).1 (nA f.quarter v.1 v.2).2=q at *;simp only [k3] at h3;clear h1 h4 h5 h6;simp [*,zb,c104,Fact.cells]
 rw [if_neg k3];clear h3
 by_cases k4:f.kind=4
 .rw [if_pos k4];generalize Ib f.span (zB v.1) (zB v.2)=q at *;simp only [k4] at h4;clear h1 h5 h6;simp [*,zb,c104,Fact.cells]
 rw [if_neg k4];clear h4
 by_cases k5:f.kind=5
 .rw [if_pos k5];generalize ng f.span v.1=q at *;simp only [k5] at h5;clear h1 h6;simp [*,zb,c104,Fact.cells]
 rw [if_neg k5];clear h5
 by_cases k6:f.kind=6
 .rw [if_pos k6];generalize ng f.span v.2=q at *;simp only [k6] at h6;clear h1;simp [*,zb,c104,Fact.cells]
 rw [if_neg k6];clear h6;generalize ng f.span (CW (zB v.1) (zB v.2))=q at *;simp [*,zb,c104,Fact.cells]
theorem sh60:G.shared 60=false:=by decide
theorem e60 (n:Nat) (f:Fact) (l:Sl Box) (hr:ui f l.xs):zK G (n+5) 60 [.agg f.cells,l.pv Box.cells 4]=some (.bool (zJ f l.xs)):=by
 refine zz (zy _) rfl g60 rfl ?_
 have h1:=fun H=>ze (G:=G) (n:=n+4) (H:=H) (caps:=[]) (ps:=[.agg f.cells,l.pv Box.cells 4]) zvL (e104 n f l hr);simp only [Fact.cells,List.map] at h1;clear hr;unfold zJ;generalize Es f l.xs=b at *
 cases hn:f.nt
 .simp only [hn] at h1;simp [*,zb,c60,Fact.cells]
 .simp only [hn] at h1;simp [*,zb,c60,Fact.cells]
def QP (f:Fact) (l:List Box):Bool:=l.all o7&&qX f l.length
theorem zkY {f:Fact} {l:List Box} (h:QP f l=true):ui f l:=by
 unfold QP qX mZ at h;simp only [Bool.and_eq_true,List.all_eq_true,decide_eq_true_eq] at h;obtain ⟨hv,⟨⟨⟨⟨_,ha⟩,hb⟩,_⟩,_⟩,hc⟩:=h
 refine ⟨by omega,by omega,fun hk=>?_,hv⟩
 rw [if_pos hk] at hc;simp only [Bool.and_eq_true,decide_eq_true_eq] at hc;omega
theorem sh59:G.shared 59=false:=by decide
theorem e59 (n:Nat) (l:Sl Pt) (hl:l.xs.length < 1000):zK G (n+2) 59 [l.pv Pt.cells 2]=some ((Sl.of (l.xs.map bT)).pv Box.cells 4):=by
 refine zz (zy _) rfl g59 rfl ?_
 have hv:=Hide.mk fun (p:Pt) H=>ze (G:=G) (n:=n+1) (H:=H) (caps:=[]) (ps:=[.agg p.cells]) ztK (e103 n p);(repeat' first|simp [*,zb,c59]|(apply za<;>intro _ h<;>try simp [-Nat.le_zero_eq] at h)|(show wpE 0 (zm ..) ..;refine zA ?_)|(refine zt fun v2 H2 fD aY aJ aK aL aM=>?_))
 refine zL [(3,3),(5,5),(8,17)] (fun (i:Nat) env H=>env 8=.pure (.int .i64 i)/\i<=l.xs.length/\aD Box.cells 4 H (env 3) ((l.xs.map bT).take i)) (fun i=>l.xs.length - i) 0 ?_ ?_ ?_ ?_
 .decide
 .exact ⟨by simp,by omega,by simpa using aD.nil⟩
 .simp only [zF];omega
 rintro i env H ⟨g0,hi,vC⟩;generalize g3:env 3=v at *
 by_cases aO:i < l.xs.length
 .have lU:=hv.h l.xs[i];simp only [Pt.cells,Box.cells,Span.cells,List.map] at lU;have w1:IntKind.i64.wrap ((i:Int)+1)=(i+1:Nat):=by rw [wrap64 (by omega) (by omega)];omega
  have wu:((l.xs.map bT).take i).length=i:=by simp;omega
  have fA:=Hide.mk (zfM (f:=bT) aO);clear hv;(repeat' first|simp [*,zb]|(apply za<;>intro _ h<;>try simp [-Nat.le_zero_eq] at h)|(show wpE 0 (zm ..) ..;refine zA ?_)|(refine zt fun v2 H2 fD aY aJ aK aL aM=>?_));exact ⟨i+1,by omega,by omega,by omega,(by assumption:aD _ _ _ _ _).cast fA.h⟩
 .have aX:i=l.xs.length:=by omega
  subst aX;have h1:=(aD.cast (m:=l.xs.map bT) vC (List.take_of_length_le (by rw [List.length_map];exact Nat.le_refl _))).res (n:=10) (fun _=>rfl);(repeat' first|simp [*,zb]|(apply za<;>intro _ h<;>try simp [-Nat.le_zero_eq] at h)|(show wpE 0 (zm ..) ..;refine zA ?_)|(refine zt fun v2 H2 fD aY aJ aK aL aM=>?_));exact h1
end Go.Proofs.YtmmhnfghklppiaaGreat.Vm
