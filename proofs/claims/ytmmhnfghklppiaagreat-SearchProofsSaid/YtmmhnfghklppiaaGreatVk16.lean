/- What the program reads of facts on boxes: vectors, distances, quarters, triangles. What facts say of boxes, as the program computes it. The triangle of a fact: three loops over corners; what a fact says of boxes. What facts say of boxes and points: bare, fails, Can, Must, Fails, Holds of the program. -/
import Derived.Test.YtmmhnfghklppiaaGreatVk14
import Derived.Test.YtmmhnfghklppiaaGreatVk15
namespace Go.Proofs.YtmmhnfghklppiaaGreat.Vm
open Go
set_option linter.unusedSimpArgs false
set_option linter.unusedVariables false
set_option maxHeartbeats 4000000
structure Reader where
 f:Fact
 l:Sl Box
 deriving Inhabited
@[simp] def Reader.cells (s:Reader):List PV:=[.int .i64 s.f.id,.int .i64 s.f.kind,.bool s.f.nt,.int .i64 s.f.a,.int .i64 s.f.b,.int .i64 s.f.c,.int .i64 s.f.span.lo,.int .i64 s.f.span.hi,.int .i64 s.f.quarter,(s.l).pv Box.cells 4]
@[simp] theorem Reader.eta (s:Reader):(⟨s.f,s.l⟩:Reader)=s:=rfl
structure rq (f:Fact) (l:List Box):Prop where
 a:0<=f.a/\f.a < l.length
 b:0<=f.b/\f.b < l.length
 c:f.kind=2->0<=f.c/\f.c < l.length
 v:∀ b∈l,ny b=true
theorem aJ {b:Box}:ny b=true↔(-1048576<=b.x.lo/\b.x.lo<=b.x.hi/\b.x.hi<=1048576)/\(-1048576<=b.y.lo/\b.y.lo<=b.y.hi/\b.y.hi<=1048576):=by
 simp only [ny,CV,Bool.and_eq_true,decide_eq_true_eq];omega
theorem tN {l:List Box} {i:Int} (h0:0<=i) (h:i < l.length):∃ n:Nat,∃ hn:n < l.length,i=n/\l[i.toNat]! = l[n]:=by
 obtain ⟨n,rfl⟩:=Int.eq_ofNat_of_zero_le h0;have hn:n < l.length:=by omega
 exact ⟨n,hn,rfl,by simp [hn]⟩
def bU (s:Span) (M:Int):Prop:=-M<=s.lo/\s.lo<=s.hi/\s.hi<=M
theorem zsy:G.shared 155=false:=by decide
theorem e155 (n:Nat) (a b:Span) (ha:bU a 1048576) (hb:bU b 1048576):zF G (n+1) 155 [.agg a.cells,.agg b.cells]=some (.agg (qi a b).cells):=by
 refine zx (zw _) rfl g155 rfl ?_
 have w1:IntKind.i64.wrap (a.lo - b.hi)=a.lo - b.hi:=wrap64 (by unfold bU at *;omega) (by unfold bU at *;omega);have w2:IntKind.i64.wrap (a.hi - b.lo)=a.hi - b.lo:=wrap64 (by unfold bU at *;omega) (by unfold bU at *;omega);simp [*,za,c155,Span.cells,qi]
theorem zsr:G.shared 141=false:=by decide
theorem e141 (n:Nat) (a b:Span) (ha:bU a 1048576) (hb:bU b 1048576):zF G (n+1) 141 [.agg a.cells,.agg b.cells]=some (.agg (qi a b).cells):=by
 refine zx (zw _) rfl g141 rfl ?_
 have w1:IntKind.i64.wrap (a.lo - b.hi)=a.lo - b.hi:=wrap64 (by unfold bU at *;omega) (by unfold bU at *;omega);have w2:IntKind.i64.wrap (a.hi - b.lo)=a.hi - b.lo:=wrap64 (by unfold bU at *;omega) (by unfold bU at *;omega);simp [*,za,c141,Span.cells,qi]
theorem Ox:G.shared 144=false:=by decide
theorem e144 (n:Nat) (s:Span) (hs:bU s 4194304):zF G (n+1) 144 [.agg s.cells]=some (.agg (zy s).cells):=by
 refine zx (zw _) rfl g144 rfl ?_
 have w1:IntKind.i64.wrap (0 - s.lo)=- s.lo:=by rw [wrap64 (by unfold bU at *;omega) (by unfold bU at *;omega)];omega
 have w2:IntKind.i64.wrap (0 - s.hi)=- s.hi:=by rw [wrap64 (by unfold bU at *;omega) (by unfold bU at *;omega)];omega
 have w3:IntKind.i64.wrap (- s.lo)=- s.lo:=wrap64 (by unfold bU at *;omega) (by unfold bU at *;omega);have w4:IntKind.i64.wrap (- s.hi)=- s.hi:=wrap64 (by unfold bU at *;omega) (by unfold bU at *;omega);(repeat' first|simp [*,za,c144,Span.cells,zy]|(apply zb<;>intro _ h<;>try simp [-Nat.le_zero_eq] at h))
 all_goals (try (refine ⟨?_,?_⟩<;>(repeat' split)<;>first|rfl|omega|(simp only;omega)))
theorem UC:G.shared 140=false:=by decide
theorem e140 (n:Nat) (s:Span) (hs:bU s 4194304):zF G (n+1) 140 [.agg s.cells]=some (.agg (zy s).cells):=by
 refine zx (zw _) rfl g140 rfl ?_
 have w1:IntKind.i64.wrap (0 - s.lo)=- s.lo:=by rw [wrap64 (by unfold bU at *;omega) (by unfold bU at *;omega)];omega
 have w2:IntKind.i64.wrap (0 - s.hi)=- s.hi:=by rw [wrap64 (by unfold bU at *;omega) (by unfold bU at *;omega)];omega
 have w3:IntKind.i64.wrap (- s.lo)=- s.lo:=wrap64 (by unfold bU at *;omega) (by unfold bU at *;omega);have w4:IntKind.i64.wrap (- s.hi)=- s.hi:=wrap64 (by unfold bU at *;omega) (by unfold bU at *;omega);rw [<- zkW hs.2.1];(repeat' first|simp [*,za,c140,Span.cells]|(apply zb<;>intro _ h<;>try simp [-Nat.le_zero_eq] at h))
 all_goals (try (refine ⟨?_,?_⟩<;>(repeat' split)<;>first|rfl|omega|(simp only;omega)))
theorem Yi {a b M N:Int} (ha:-M<=a/\a<=M) (hb:-N<=b/\b<=N):-(M*N)<=a*b/\a*b<=M*N:=by
 have h1:a.natAbs<=M.natAbs:=by omega
 have h2:b.natAbs<=N.natAbs:=by omega
 have h3:(a*b).natAbs<=(M*N).natAbs:=by rw [Int.natAbs_mul,Int.natAbs_mul];exact Nat.mul_le_mul h1 h2
 have h4:0<=M*N:=Int.mul_nonneg (by omega) (by omega);omega
def sO (p:Pt):Prop:=(-1048576<=p.x/\p.x<=1048576)/\(-1048576<=p.y/\p.y<=1048576)
theorem znY {a b c:Pt} (ha:sO a) (hb:sO b) (hc:sO c):(-4398046511104<=(b.x - a.x)*(c.y - a.y)/\(b.x - a.x)*(c.y - a.y)<=4398046511104)/\(-4398046511104<=(b.y - a.y)*(c.x - a.x)/\(b.y - a.y)*(c.x - a.x)<=4398046511104):=by
 unfold sO at *;exact ⟨Yi (M:=2097152) (N:=2097152) (by omega) (by omega),Yi (M:=2097152) (N:=2097152) (by omega) (by omega)⟩
theorem zu3:G.shared 147=false:=by decide
theorem e147 (n:Nat) (a b c:Pt) (ha:sO a) (hb:sO b) (hc:sO c):zF G (n+1) 147 [.agg a.cells,.agg b.cells,.agg c.cells]=some (.int .i64 (om a b c)):=by
 refine zx (zw _) rfl g147 rfl ?_
 obtain ⟨q1,q2⟩:=znY ha hb hc;unfold sO at *;have w1:IntKind.i64.wrap (b.x - a.x)=b.x - a.x:=wrap64 (by omega) (by omega);have w2:IntKind.i64.wrap (b.y - a.y)=b.y - a.y:=wrap64 (by omega) (by omega);have w3:IntKind.i64.wrap (c.x - a.x)=c.x - a.x:=wrap64 (by omega) (by omega);have w4:IntKind.i64.wrap (c.y - a.y)=c.y - a.y:=wrap64 (by omega) (by omega);have w5:IntKind.i64.wrap ((b.x - a.x)*(c.y - a.y))=(b.x - a.x)*(c.y - a.y):=wrap64 (by omega) (by omega);have w6:IntKind.i64.wrap ((b.y - a.y)*(c.x - a.x))=(b.y - a.y)*(c.x - a.x):=wrap64 (by omega) (by omega);have w7:IntKind.i64.wrap ((b.x - a.x)*(c.y - a.y) - (b.y - a.y)*(c.x - a.x))=(b.x - a.x)*(c.y - a.y) - (b.y - a.y)*(c.x - a.x):=wrap64 (by omega) (by omega);clear ha hb hc q1 q2;simp [*,za,c147,Pt.cells,om]
theorem zu7:G.shared 157=false:=by decide
theorem e157 (n:Nat) (ax ay bx by' cx cy:Int) (ha:sO ⟨ax,ay⟩) (hb:sO ⟨bx,by'⟩) (hc:sO ⟨cx,cy⟩):zF G (n+1) 157 [.int .i64 ax,.int .i64 ay,.int .i64 bx,.int .i64 by',.int .i64 cx,.int .i64 cy]=some (.int .i64 (om ⟨ax,ay⟩ ⟨bx,by'⟩ ⟨cx,cy⟩)):=by
 refine zx (zw _) rfl g157 rfl ?_
 obtain ⟨q1,q2⟩:=znY ha hb hc;unfold sO at *;simp only at *;have w1:IntKind.i64.wrap (bx - ax)=bx - ax:=wrap64 (by omega) (by omega);have w2:IntKind.i64.wrap (by' - ay)=by' - ay:=wrap64 (by omega) (by omega);have w3:IntKind.i64.wrap (cx - ax)=cx - ax:=wrap64 (by omega) (by omega);have w4:IntKind.i64.wrap (cy - ay)=cy - ay:=wrap64 (by omega) (by omega);have w5:IntKind.i64.wrap ((bx - ax)*(cy - ay))=(bx - ax)*(cy - ay):=wrap64 (by omega) (by omega);have w6:IntKind.i64.wrap ((by' - ay)*(cx - ax))=(by' - ay)*(cx - ax):=wrap64 (by omega) (by omega);have w7:IntKind.i64.wrap ((bx - ax)*(cy - ay) - (by' - ay)*(cx - ax))=(bx - ax)*(cy - ay) - (by' - ay)*(cx - ax):=wrap64 (by omega) (by omega);clear ha hb hc q1 q2;simp [*,za,c157,om]
theorem rq.box {f:Fact} {l:List Box} (h:rq f l) {i:Nat} (hi:i < l.length):bU l[i].x 1048576/\bU l[i].y 1048576:=by
 have:=aJ.1 (h.v _ (List.getElem_mem hi));unfold bU;omega
def ak (f:Fact) (l:List Box):Span×Span:=(qi l[f.b.toNat]!.x l[f.a.toNat]!.x,qi l[f.b.toNat]!.y l[f.a.toNat]!.y)
theorem zu9:G.shared 103=false:=by decide
theorem e103 (n:Nat) (p:Pt):zF G (n+1) 103 [.agg p.cells]=some (.agg (fT p).cells):=by
 refine zx (zw _) rfl g103 rfl ?_
 simp [*,za,c103,Pt.cells,Box.cells,fT]
theorem QO:G.shared 143=false:=by decide
theorem e143 (n:Nat) (r:Reader) (hr:rq r.f r.l.xs):zF G (n+2) 143 [.agg r.cells]=some (.aM [.agg (ak r.f r.l.xs).1.cells,.agg (ak r.f r.l.xs).2.cells]):=by
 refine zx (zw _) rfl g143 rfl ?_
 obtain ⟨f,l⟩:=r;simp only at hr;obtain ⟨i,hi,ea,ga⟩:=tN hr.a.1 hr.a.2;obtain ⟨j,hj,eb,gb⟩:=tN hr.b.1 hr.b.2;obtain ⟨h1,h2⟩:=hr.box hi;obtain ⟨h3,h4⟩:=hr.box hj;have hx:∀ H,zD (zn G (n+1)) H (.pure (.func 155 [])) [.pure (.agg (l.xs[j]).x.cells),.pure (.agg (l.xs[i]).x.cells)]=some (.val (.pure (.agg (qi (l.xs[j]).x (l.xs[i]).x).cells))):=fun H=>zg (caps:=[]) (ps:=[_,_]) zsy (e155 n _ _ h3 h1);have hy:∀ H,zD (zn G (n+1)) H (.pure (.func 155 [])) [.pure (.agg (l.xs[j]).y.cells),.pure (.agg (l.xs[i]).y.cells)]=some (.val (.pure (.agg (qi (l.xs[j]).y (l.xs[i]).y).cells))):=fun H=>zg (caps:=[]) (ps:=[_,_]) zsy (e155 n _ _ h4 h2);simp only [Span.cells] at hx hy;clear h1 h2 h3 h4 hr;unfold ak;rw [ga,gb];clear ga gb;simp [*,za,c143,Reader.cells,Fact.cells,Box.cells,Span.cells]
theorem zuh:G.shared 145=false:=by decide
theorem e145 (n:Nat) (r:Reader) (v:Span):zF G (n+1) 145 [.agg r.cells,.agg v.cells]=some (.aM [.bool (zT r.f.span v).1,.bool (zT r.f.span v).2]):=by
 refine zx (zw _) rfl g145 rfl ?_
 (repeat' first|simp [*,za,c145,Reader.cells,Fact.cells,Span.cells,zT]|(apply zb<;>intro _ h<;>try simp [-Nat.le_zero_eq] at h))
@[simp] theorem d145 (n:Nat) (H:Heap) (Aq:Int) (rW:Int) (Ar:Bool) (E9:Int) (Fa:Int) (Fb:Int) (mQ:Int) (mR:Int) (mU:Int) (Yj:Sl Box) (LV:Int) (LW:Int):zD (zn G (n+1)) H (.pure (.func 145 [])) [.pure (.agg [.int .i64 Aq,.int .i64 rW,.bool Ar,.int .i64 E9,.int .i64 Fa,.int .i64 Fb,.int .i64 mQ,.int .i64 mR,.int .i64 mU,(Yj).pv Box.cells 4]),.pure (.agg [.int .i64 LV,.int .i64 LW])]=some (.val (.pure ((fun (r:Reader)=>(fun (v:Span)=>.aM [.bool (zT r.f.span v).1,.bool (zT r.f.span v).2]) (⟨LV,LW⟩:Span)) (⟨⟨Aq,rW,Ar,E9,Fa,Fb,⟨mQ,mR⟩,mU⟩,Yj⟩:Reader)))) :=
 zg (ps:=[_,_]) (caps:=[]) zuh (e145 n (⟨⟨Aq,rW,Ar,E9,Fa,Fb,⟨mQ,mR⟩,mU⟩,Yj⟩:Reader) (⟨LV,LW⟩:Span))
theorem zlH {a b:Span} (ha:bU a 1048576) (hb:bU b 1048576):bU (qi a b) 2097152:=by unfold bU qi at *;simp only;omega
theorem D6 {s:Span} {M N:Int} (h:bU s M) (hMN:M<=N):bU s N:=by unfold bU at *;omega
theorem Gw {f:Fact} {l:List Box} (h:rq f l):bU (ak f l).1 2097152/\bU (ak f l).2 2097152:=by
 obtain ⟨i,hi,ea,ga⟩:=tN h.a.1 h.a.2;obtain ⟨j,hj,eb,gb⟩:=tN h.b.1 h.b.2;unfold ak;rw [ga,gb];obtain ⟨h1,h2⟩:=h.box hi;obtain ⟨h3,h4⟩:=h.box hj;exact ⟨zlH h3 h1,zlH h4 h2⟩
theorem UD {s:Span} (h:bU s 2097152):0<=(zy s).lo/\(zy s).lo<=(zy s).hi/\(zy s).hi<=2097152:=by
 unfold bU at h
 by_cases h1:0<=s.lo
 .simp only [zy,if_pos h1];omega
 .by_cases h2:s.hi<=0
  .simp only [zy,if_neg h1,if_pos h2];omega
  .simp only [zy,if_neg h1,if_neg h2];omega
theorem JZ {a:Int} (h0:0<=a) (h:a<=2097152):0<=a*a/\a*a<=4398046511104:=by
 have:=Yi (a:=a) (b:=a) (M:=2097152) (N:=2097152) (by omega) (by omega);exact ⟨Int.mul_nonneg h0 h0,by omega⟩
theorem zuw:G.shared 120=false:=by decide
theorem e120 (n:Nat) (r:Reader) (hr:rq r.f r.l.xs):zF G (n+3) 120 [.agg r.cells]=some (.aM [.bool (zT r.f.span (Ap (zy (ak r.f r.l.xs).1) (zy (ak r.f r.l.xs).2))).1,.bool (zT r.f.span (Ap (zy (ak r.f r.l.xs).1) (zy (ak r.f r.l.xs).2))).2]):=by
 refine zx (zw _) rfl g120 rfl ?_
 obtain ⟨v1,v2⟩:=Gw hr;have hv:∀ H,zD (zn G (n+2)) H (.pure (.func 143 [])) [.pure (.agg r.cells)]=some (.val (.pure (.aM [.agg (ak r.f r.l.xs).1.cells,.agg (ak r.f r.l.xs).2.cells]))):=fun H=>zg (caps:=[]) (ps:=[_]) QO (e143 n r hr);have ha:∀ H,zD (zn G (n+2)) H (.pure (.func 144 [])) [.pure (.agg (ak r.f r.l.xs).1.cells)]=some (.val (.pure (.agg (zy (ak r.f r.l.xs).1).cells))):=fun H=>zg (caps:=[]) (ps:=[_]) Ox (e144 (n+1) _ (D6 v1 (by omega)));have hb:∀ H,zD (zn G (n+2)) H (.pure (.func 144 [])) [.pure (.agg (ak r.f r.l.xs).2.cells)]=some (.val (.pure (.agg (zy (ak r.f r.l.xs).2).cells))):=fun H=>zg (caps:=[]) (ps:=[_]) Ox (e144 (n+1) _ (D6 v2 (by omega)));obtain ⟨a1,a2,a3⟩:=UD v1;obtain ⟨b1,b2,b3⟩:=UD v2;clear v1 v2 hr;generalize (ak r.f r.l.xs).1=x at *;generalize (ak r.f r.l.xs).2=y at *;generalize zy x=ax at *;generalize zy y=ay at *;have s1:=JZ a1 (by omega);have s2:=JZ (a:=ax.hi) (by omega) a3;have s3:=JZ b1 (by omega);have s4:=JZ (a:=ay.hi) (by omega) b3;have w1:IntKind.i64.wrap (ax.lo*ax.lo)=ax.lo*ax.lo:=wrap64 (by omega) (by omega);have w2:IntKind.i64.wrap (ax.hi*ax.hi)=ax.hi*ax.hi:=wrap64 (by omega) (by omega);have w3:IntKind.i64.wrap (ay.lo*ay.lo)=ay.lo*ay.lo:=wrap64 (by omega) (by omega);have w4:IntKind.i64.wrap (ay.hi*ay.hi)=ay.hi*ay.hi:=wrap64 (by omega) (by omega);have w5:IntKind.i64.wrap (ax.lo*ax.lo+ay.lo*ay.lo)=ax.lo*ax.lo+ay.lo*ay.lo:=wrap64 (by omega) (by omega);have w6:IntKind.i64.wrap (ax.hi*ax.hi+ay.hi*ay.hi)=ax.hi*ax.hi+ay.hi*ay.hi:=wrap64 (by omega) (by omega);clear a1 a2 a3 b1 b2 b3 s1 s2 s3 s4;simp only [Span.cells,Reader.cells,Fact.cells] at hv ha hb;simp [*,za,c120,Reader.cells,Fact.cells,Span.cells,Ap]
theorem zu1:G.shared 123=false:=by decide
theorem e123 (n:Nat) (r:Reader) (hr:rq r.f r.l.xs):zF G (n+3) 123 [.agg r.cells]=some (.aM [.bool (E5 r.f.span (zy (ak r.f r.l.xs).1) (zy (ak r.f r.l.xs).2)).1,.bool (E5 r.f.span (zy (ak r.f r.l.xs).1) (zy (ak r.f r.l.xs).2)).2]):=by
 refine zx (zw _) rfl g123 rfl ?_
 obtain ⟨v1,v2⟩:=Gw hr;have hv:∀ H,zD (zn G (n+2)) H (.pure (.func 143 [])) [.pure (.agg r.cells)]=some (.val (.pure (.aM [.agg (ak r.f r.l.xs).1.cells,.agg (ak r.f r.l.xs).2.cells]))):=fun H=>zg (caps:=[]) (ps:=[_]) QO (e143 n r hr);have ha:∀ H,zD (zn G (n+2)) H (.pure (.func 144 [])) [.pure (.agg (ak r.f r.l.xs).1.cells)]=some (.val (.pure (.agg (zy (ak r.f r.l.xs).1).cells))):=fun H=>zg (caps:=[]) (ps:=[_]) Ox (e144 (n+1) _ (D6 v1 (by omega)));have hb:∀ H,zD (zn G (n+2)) H (.pure (.func 144 [])) [.pure (.agg (ak r.f r.l.xs).2.cells)]=some (.val (.pure (.agg (zy (ak r.f r.l.xs).2).cells))):=fun H=>zg (caps:=[]) (ps:=[_]) Ox (e144 (n+1) _ (D6 v2 (by omega)));clear v1 v2 hr;generalize (ak r.f r.l.xs).1=x at *;generalize (ak r.f r.l.xs).2=y at *;generalize zy x=ax at *;generalize zy y=ay at *;simp only [Span.cells,Reader.cells,Fact.cells] at hv ha hb;simp [*,za,c123,Reader.cells,Fact.cells,Span.cells,E5]
theorem zuf:G.shared 124=false:=by decide
theorem e124 (n:Nat) (r:Reader) (hr:rq r.f r.l.xs):zF G (n+3) 124 [.agg r.cells]=some (.aM [.bool (zT r.f.span (ak r.f r.l.xs).1).1,.bool (zT r.f.span (ak r.f r.l.xs).1).2]):=by
 refine zx (zw _) rfl g124 rfl ?_
 obtain ⟨v1,v2⟩:=Gw hr;have hv:∀ H,zD (zn G (n+2)) H (.pure (.func 143 [])) [.pure (.agg r.cells)]=some (.val (.pure (.aM [.agg (ak r.f r.l.xs).1.cells,.agg (ak r.f r.l.xs).2.cells]))):=fun H=>zg (caps:=[]) (ps:=[_]) QO (e143 n r hr);clear v1 v2 hr;generalize (ak r.f r.l.xs).1=x at *;generalize (ak r.f r.l.xs).2=y at *;simp only [Span.cells,Reader.cells,Fact.cells] at hv;simp [*,za,c124,Reader.cells,Fact.cells,Span.cells]
theorem zuz:G.shared 125=false:=by decide
theorem e125 (n:Nat) (r:Reader) (hr:rq r.f r.l.xs):zF G (n+3) 125 [.agg r.cells]=some (.aM [.bool (zT r.f.span (ak r.f r.l.xs).2).1,.bool (zT r.f.span (ak r.f r.l.xs).2).2]):=by
 refine zx (zw _) rfl g125 rfl ?_
 obtain ⟨v1,v2⟩:=Gw hr;have hv:∀ H,zD (zn G (n+2)) H (.pure (.func 143 [])) [.pure (.agg r.cells)]=some (.val (.pure (.aM [.agg (ak r.f r.l.xs).1.cells,.agg (ak r.f r.l.xs).2.cells]))):=fun H=>zg (caps:=[]) (ps:=[_]) QO (e143 n r hr);clear v1 v2 hr;generalize (ak r.f r.l.xs).1=x at *;generalize (ak r.f r.l.xs).2=y at *;simp only [Span.cells,Reader.cells,Fact.cells] at hv;simp [*,za,c125,Reader.cells,Fact.cells,Span.cells]
theorem zup:G.shared 122=false:=by decide
theorem e122 (n:Nat) (r:Reader) (hr:rq r.f r.l.xs):zF G (n+3) 122 [.agg r.cells]=some (.aM [.bool (EZ (lV r.f.quarter (ak r.f r.l.xs).1 (ak r.f r.l.xs).2).1 (lV r.f.quarter (ak r.f r.l.xs).1 (ak r.f r.l.xs).2).2).1,.bool (EZ (lV r.f.quarter (ak r.f r.l.xs).1 (ak r.f r.l.xs).2).1 (lV r.f.quarter (ak r.f r.l.xs).1 (ak r.f r.l.xs).2).2).2]):=by
 refine zx (zw _) rfl g122 rfl ?_
 obtain ⟨v1,v2⟩:=Gw hr;have hv:∀ H,zD (zn G (n+2)) H (.pure (.func 143 [])) [.pure (.agg r.cells)]=some (.val (.pure (.aM [.agg (ak r.f r.l.xs).1.cells,.agg (ak r.f r.l.xs).2.cells]))):=fun H=>zg (caps:=[]) (ps:=[_]) QO (e143 n r hr);have ha:∀ H,zD (zn G (n+2)) H (.pure (.func 144 [])) [.pure (.agg (ak r.f r.l.xs).1.cells)]=some (.val (.pure (.agg (zy (ak r.f r.l.xs).1).cells))):=fun H=>zg (caps:=[]) (ps:=[_]) Ox (e144 (n+1) _ (D6 v1 (by omega)));have hb:∀ H,zD (zn G (n+2)) H (.pure (.func 144 [])) [.pure (.agg (ak r.f r.l.xs).2.cells)]=some (.val (.pure (.agg (zy (ak r.f r.l.xs).2).cells))):=fun H=>zg (caps:=[]) (ps:=[_]) Ox (e144 (n+1) _ (D6 v2 (by omega)));have hx:bU (ak r.f r.l.xs).1 2097152:=v1;have hy:bU (ak r.f r.l.xs).2 2097152:=v2;clear v1 v2 hr;generalize (ak r.f r.l.xs).1=x at *;generalize (ak r.f r.l.xs).2=y at *;have w1:IntKind.i64.wrap (0 - x.lo)=- x.lo:=by rw [wrap64 (by unfold bU at *;omega) (by unfold bU at *;omega)];omega
 have w2:IntKind.i64.wrap (0 - x.hi)=- x.hi:=by rw [wrap64 (by unfold bU at *;omega) (by unfold bU at *;omega)];omega
 have w3:IntKind.i64.wrap (- x.lo)=- x.lo:=wrap64 (by unfold bU at *;omega) (by unfold bU at *;omega);have w4:IntKind.i64.wrap (- x.hi)=- x.hi:=wrap64 (by unfold bU at *;omega) (by unfold bU at *;omega);have w5:IntKind.i64.wrap (0 - y.lo)=- y.lo:=by rw [wrap64 (by unfold bU at *;omega) (by unfold bU at *;omega)];omega
 have w6:IntKind.i64.wrap (0 - y.hi)=- y.hi:=by rw [wrap64 (by unfold bU at *;omega) (by unfold bU at *;omega)];omega
 have w7:IntKind.i64.wrap (- y.lo)=- y.lo:=wrap64 (by unfold bU at *;omega) (by unfold bU at *;omega);have w8:IntKind.i64.wrap (- y.hi)=- y.hi:=wrap64 (by unfold bU at *;omega) (by unfold bU at *;omega);clear hx hy;generalize y8:zy x=ax at *;generalize hay:zy y=ay at *;simp only [Span.cells,Reader.cells,Fact.cells] at hv ha hb;(repeat' first|simp [*,za,c122,Reader.cells,Fact.cells,Span.cells]|(apply zb<;>intro _ h<;>try simp [-Nat.le_zero_eq] at h))
 all_goals (simp [*,EZ,lV];done)
def Oy (b:Box):List PV:=(zL b).flatMap Pt.cells
theorem UE:G.shared 146=false:=by decide
theorem e146 (n:Nat) (b:Box):zF G (n+1) 146 [.agg b.cells]=some (.agg (Oy b)):=by
 refine zx (zw _) rfl g146 rfl ?_
 simp [*,za,c146,Box.cells,Span.cells,zL,Oy,Pt.cells]
theorem Yk (b:Box) (i:Nat) (hi:i < 4) (k:IntKind):Uk 2 4 true (.pure (.agg (Oy b))) (.pure (.int k i))=some (.val (.pure (.agg ((zL b)[i]'hi).cells))):=by
 have:i=0\/i=1\/i=2\/i=3:=by omega
 rcases this with rfl|rfl|rfl|rfl<;>rfl
theorem Yl {b:Box} (h:ny b=true) (i:Nat) (hi:i < 4):sO ((zL b)[i]'hi):=by
 have hv:=aJ.1 h;have:i=0\/i=1\/i=2\/i=3:=by omega
 rcases this with rfl|rfl|rfl|rfl<;>(simp only [zL,sO,List.getElem_cons_zero,List.getElem_cons_succ];omega)
structure uC (L:List Int) (cnt:Nat) (env:Env) (H:Heap):Prop where
 nx:0 < H.nx
 ex:∃ (fst:Bool) (v:Span),env 4=.pure (.bool fst)/\H.get 0=.cells true [.pure (.int .i64 v.lo),.pure (.int .i64 v.hi)]/\Hide (if fst=true then cnt=0 else Gv L cnt v)
theorem uC.cast {L:List Int} {c c':Nat} {env:Env} {H:Heap} (h:uC L c env H) (e:c=c'):uC L c' env H:=e ▸ h
theorem zp1 (a b c:Box) (i j k:Nat) (hi:i < 4) (hj:j < 4) (hk:k < 4):∃ h:16*i+4*j+k < (nS a b c).length,(nS a b c)[16*i+4*j+k]=om ((zL a)[i]'hi) ((zL b)[j]'hj) ((zL c)[k]'hk):=by
 have h1:=zqs a b c i j k hi hj hk;obtain ⟨h,e⟩:=List.getElem?_eq_some_iff.1 h1;exact ⟨h,e⟩
theorem zuC:G.shared 121=false:=by decide
theorem e121 (n:Nat) (r:Reader) (hr:rq r.f r.l.xs) (hk:r.f.kind=2):zF G (n+3) 121 [.agg r.cells]=some (.aM [.bool (zT r.f.span (qC r.l.xs[r.f.a.toNat]! r.l.xs[r.f.b.toNat]! r.l.xs[r.f.c.toNat]!)).1,.bool (zT r.f.span (qC r.l.xs[r.f.a.toNat]! r.l.xs[r.f.b.toNat]! r.l.xs[r.f.c.toNat]!)).2]):=by
 refine zx (zw _) rfl g121 rfl ?_
 obtain ⟨f,l⟩:=r;simp only at hr hk;obtain ⟨i,hi,ea,ga⟩:=tN hr.a.1 hr.a.2;obtain ⟨j,hj,eb,gb⟩:=tN hr.b.1 hr.b.2;obtain ⟨k,hk,ec,gc⟩:=tN (hr.c hk).1 (hr.c hk).2;have va:ny l.xs[i]=true:=hr.v _ (List.getElem_mem hi);have vb:ny l.xs[j]=true:=hr.v _ (List.getElem_mem hj);have vc:ny l.xs[k]=true:=hr.v _ (List.getElem_mem hk);have ca:=zg (G:=G) (n:=n+2) (H:=Heap.empty) (caps:=[]) (ps:=[.agg (l.xs[i]).cells]) UE (e146 (n+1) l.xs[i]);have qa:∀ H,zD (zn G (n+2)) H (.pure (.func 146 [])) [.pure (.agg (l.xs[i]).cells)]=some (.val (.pure (.agg (Oy l.xs[i])))):=fun H=>zg (caps:=[]) (ps:=[_]) UE (e146 (n+1) _);have qb:∀ H,zD (zn G (n+2)) H (.pure (.func 146 [])) [.pure (.agg (l.xs[j]).cells)]=some (.val (.pure (.agg (Oy l.xs[j])))):=fun H=>zg (caps:=[]) (ps:=[_]) UE (e146 (n+1) _);have qc:∀ H,zD (zn G (n+2)) H (.pure (.func 146 [])) [.pure (.agg (l.xs[k]).cells)]=some (.val (.pure (.agg (Oy l.xs[k])))):=fun H=>zg (caps:=[]) (ps:=[_]) UE (e146 (n+1) _);clear ca;have hT:∀ (x y z:Nat) (hx:x < 4) (hy:y < 4) (hz:z < 4) H,zD (zn G (n+2)) H (.pure (.func 147 [])) [.pure (.agg ((zL l.xs[i])[x]'hx).cells),.pure (.agg ((zL l.xs[j])[y]'hy).cells),.pure (.agg ((zL l.xs[k])[z]'hz).cells)]=some (.val (.pure (.int .i64 (om ((zL l.xs[i])[x]'hx) ((zL l.xs[j])[y]'hy) ((zL l.xs[k])[z]'hz))))):=fun x y z hx hy hz H =>
  zg (caps:=[]) (ps:=[_,_,_]) zu3 (e147 (n+1) _ _ _ (Yl va x hx) (Yl vb y hy) (Yl vc z hz))
 have Ym:=Hide.mk hT;have ta:=Hide.mk (zp1 l.xs[i] l.xs[j] l.xs[k]);have QP:Hide (∀ v,Gv (nS l.xs[i] l.xs[j] l.xs[k]) 64 v->v=qC l.xs[i] l.xs[j] l.xs[k]):=⟨fun v h=>zmW (by rw [zj4];exact h)⟩
 have fF:Hide (∀ v cnt (h:cnt < (nS l.xs[i] l.xs[j] l.xs[k]).length),Gv (nS l.xs[i] l.xs[j] l.xs[k]) cnt v->Gv (nS l.xs[i] l.xs[j] l.xs[k]) (cnt+1) ⟨min v.lo (nS l.xs[i] l.xs[j] l.xs[k])[cnt],max v.hi (nS l.xs[i] l.xs[j] l.xs[k])[cnt]⟩):=⟨fun v cnt h h2=>zln h h2⟩
 have nE:Hide (∀ (h:0 < (nS l.xs[i] l.xs[j] l.xs[k]).length),Gv (nS l.xs[i] l.xs[j] l.xs[k]) 1 ⟨(nS l.xs[i] l.xs[j] l.xs[k])[0],(nS l.xs[i] l.xs[j] l.xs[k])[0]⟩):=⟨fun h=>zke h⟩
 rw [ga,gb,gc];clear ga gb gc hr hT;have ia:=Hide.mk (Yk l.xs[i]);have ib:=Hide.mk (Yk l.xs[j]);have ic:=Hide.mk (Yk l.xs[k]);generalize qC l.xs[i] l.xs[j] l.xs[k]=T at *;generalize nS l.xs[i] l.xs[j] l.xs[k]=L at *;clear va vb vc;simp only [Box.cells,Span.cells] at qa qb qc;(repeat' first|simp [*,za,c121,Reader.cells,Fact.cells,Box.cells,Span.cells]|(apply zb<;>intro _ h<;>try simp [-Nat.le_zero_eq] at h))
 refine zN [(4,4),(7,7),(9,9),(11,12),(22,66)] (fun (x:Nat) env H=>env 22=.pure (.int .i64 x)/\x<=4/\uC L (16*x) env H) (fun x=>4 - x) 0 ?_ ?_ ?_ ?_
 .decide
 .refine ⟨by simp,by omega,⟨by simp,true,⟨0,0⟩,by simp,by simp,⟨by simp⟩⟩⟩
 .simp only [zI];omega
 rintro x env H ⟨g0,hx,⟨fD,fst,v,g4,gv,tO⟩⟩
 by_cases aK:x < 4
 .have ix:=ia.h x aK .i64;have hlI:(x:Int) < 4:=by omega
  have Ig:=Hide.mk (fun y z (hy:y < 4) (hz:z < 4) H=>Ym.h x y z aK hy hz H);have Yn:=Hide.mk (fun y z (hy:y < 4) (hz:z < 4)=>ta.h x y z aK hy hz);clear Ym ta ia;generalize (zL l.xs[i])[x]=px at *;simp only [Pt.cells] at ix;(repeat' first|simp [*,za]|(apply zb<;>intro _ h<;>try simp [-Nat.le_zero_eq] at h))
  refine zN [(4,4),(9,9),(11,12),(33,65)] (fun (y:Nat) env H1=>env 33=.pure (.int .i64 y)/\y<=4/\uC L (16*x+4*y) env H1/\H.nx < H1.nx/\H1.get H.nx=.cells true [.pure (.int .i64 px.x),.pure (.int .i64 px.y)]) (fun y=>4 - y) 0 ?_ ?_ ?_ ?_
  .decide
  .refine ⟨by simp,by omega,⟨by simp,fst,v,by simp [g4],?_,tO⟩,by simp,by simp⟩
   rw [zh (by omega),ze fD];exact gv
  .simp only [zI];omega
  have hH0:H.nx≠0:=by omega
  have g22:=g0;clear fD g4 gv tO g0;rintro y env H1 ⟨g0,hy,⟨fD,fst,v,g4,gv,tO⟩,Hy,gp⟩
  by_cases pM:y < 4
  .have iy:=ib.h y pM .i64;have hlI2:(y:Int) < 4:=by omega
   have Yo:=Hide.mk (fun z (hz:z < 4) H=>Ig.h y z pM hz H);have Yp:=Hide.mk (fun z (hz:z < 4)=>Yn.h y z pM hz);clear Ig Yn ib;generalize (zL l.xs[j])[y]=py at *;simp only [Pt.cells] at iy;(repeat' first|simp [*,za]|(apply zb<;>intro _ h<;>try simp [-Nat.le_zero_eq] at h))
   refine zN [(4,4),(11,12),(44,64)] (fun (z:Nat) env H2=>env 44=.pure (.int .i64 z)/\z<=4/\uC L (16*x+4*y+z) env H2/\H1.nx < H2.nx/\H2.get H.nx=.cells true [.pure (.int .i64 px.x),.pure (.int .i64 px.y)]/\H2.get H1.nx=.cells true [.pure (.int .i64 py.x),.pure (.int .i64 py.y)]) (fun z=>4 - z) 0 ?_ ?_ ?_ ?_
   .decide
   .refine ⟨by simp,by omega,⟨by simp,fst,v,by simp [g4],?_,tO⟩,by simp,?_,by simp⟩
    .rw [zh (by omega),ze fD];exact gv
    .rw [zh (by omega),ze Hy];exact gp
   .simp only [zI];omega
   have Lx:H1.nx≠0:=by omega
   have g33:=g0;clear fD g4 gv tO g0 gp;rintro z env H2 ⟨g0,hz,⟨fD,fst,v,g4,gv,tO⟩,Qm,gp,gq⟩
   by_cases Fe:z < 4
   .have iz:=ic.h z Fe .i64;have hlI3:(z:Int) < 4:=by omega
    have hTz:=fun H=>Yo.h z Fe H;obtain ⟨hlen,bI⟩:=Yp.h z Fe;clear Yo Yp ic;have qx:=Hide.mk (fun v=>fF.h v _ hlen);rw [bI] at qx;have wK:Hide (16*x+4*y+z=0->Gv L 1 ⟨om px py (zL l.xs[k])[z],om px py (zL l.xs[k])[z]⟩):=⟨fun h0=>by
     have h1:L[0]'(by omega)=om px py (zL l.xs[k])[z]:=by rw [<- bI];congr 1;omega
     have:=nE.h (by omega);rw [h1] at this;exact this⟩
    clear bI hlen fF nE QP;generalize om px py (zL l.xs[k])[z]=tv at *;generalize (zL l.xs[k])[z]=pz at *;have ne1:H.nx≠H2.nx:=by omega
    have ne2:H1.nx≠H2.nx:=by omega
    have ne3:(0:Nat)≠H2.nx:=by omega
    have Yq:H.nx < H2.nx:=by omega
    simp only [Pt.cells] at iz hTz
    cases fst with
    | true =>
     have iK:16*x+4*y+z=0:=by simpa using tO.h
     (repeat' first|simp [*,za]|(apply zb<;>intro _ h<;>try simp [-Nat.le_zero_eq] at h))
     refine ⟨z+1,by omega,by rw [wrap64 (by omega) (by omega)];omega,by omega,⟨by simp;try omega,false,⟨tv,tv⟩,by simp [g4],?_,⟨?_⟩⟩,by omega⟩
     .simp [fD]
     .simp only [Bool.false_eq_true,if_false];rw [show 16*x+4*y+(z+1)=1 by omega];exact wK.h iK
    | false =>
     (repeat' first|simp [*,za]|(apply zb<;>intro _ h<;>try simp [-Nat.le_zero_eq] at h))
     refine ⟨z+1,by omega,by rw [wrap64 (by omega) (by omega)];omega,by omega,⟨by simp;try omega,false,⟨min v.lo tv,max v.hi tv⟩,by simp [g4],?_,⟨?_⟩⟩,by omega⟩
     .simp [fD]
     .have:=qx.h v (by simpa using tO.h);simp only [Bool.false_eq_true,if_false];rw [<- Nat.add_assoc];exact this
   .have hz4:z=4:=by omega
    subst hz4;clear fF nE QP Yo Yp ic;have w1:IntKind.i64.wrap ((y:Int)+1)=(y+1:Nat):=by rw [wrap64 (by omega) (by omega)];omega
    (repeat' first|simp [*,za]|(apply zb<;>intro _ h<;>try simp [-Nat.le_zero_eq] at h))
    refine ⟨y+1,by omega,rfl,by omega,⟨fD,fst,v,by simp [g4],gv,?_⟩,by omega⟩
    rw [show 16*x+4*(y+1)=16*x+4*y+4 by omega];exact tO
  .have hy4:y=4:=by omega
   subst hy4;clear fF nE QP Ig Yn ic ib;have w1:IntKind.i64.wrap ((x:Int)+1)=(x+1:Nat):=by rw [wrap64 (by omega) (by omega)];omega
   (repeat' first|simp [*,za]|(apply zb<;>intro _ h<;>try simp [-Nat.le_zero_eq] at h))
   refine ⟨x+1,by omega,rfl,by omega,⟨fD,fst,v,by simp [g4],gv,?_⟩⟩
   rw [show 16*(x+1)=16*x+4*4 by omega];exact tO
 .have UF:x=4:=by omega
  subst UF;have hT2:v=T/\fst=false:=by
   have h1:=tO.h
   cases fst with
   | true=>simp at h1
   | false=>exact ⟨QP.h v (by simpa using h1),rfl⟩
  obtain ⟨rfl,rfl⟩:=hT2;clear fF nE QP Ym ta ic ib ia tO;simp [*,za]
set_option maxHeartbeats 400000
theorem Yr (f:Fact) (l:List Box):BN f l=if f.kind=2 then zT f.span (qC l[f.a.toNat]! l[f.b.toNat]! l[f.c.toNat]!) else if f.kind=3 then EZ (lV f.quarter (ak f l).1 (ak f l).2).1 (lV f.quarter (ak f l).1 (ak f l).2).2
 else if f.kind=4 then E5 f.span (zy (ak f l).1) (zy (ak f l).2) else if f.kind=5 then zT f.span (ak f l).1 else if f.kind=6 then zT f.span (ak f l).2 else zT f.span (Ap (zy (ak f l).1) (zy (ak f l).2)):=rfl
theorem zuQ:G.shared 104=false:=by decide
theorem e104 (n:Nat) (f:Fact) (l:Sl Box) (hr:rq f l.xs):zF G (n+4) 104 [.agg f.cells,l.pv Box.cells 4]=some (.aM [.bool (BN f l.xs).1,.bool (BN f l.xs).2]):=by
 refine zx (zw _) rfl g104 rfl ?_
 let r:Reader:=⟨f,l⟩
 have h1:=fun H=>zg (G:=G) (n:=n+3) (H:=H) (caps:=[]) (ps:=[.agg r.cells]) zuw (e120 n r hr);have h2:f.kind=2->_:=fun hk H=>zg (G:=G) (n:=n+3) (H:=H) (caps:=[]) (ps:=[.agg r.cells]) zuC (e121 n r hr hk);have h3:=fun H=>zg (G:=G) (n:=n+3) (H:=H) (caps:=[]) (ps:=[.agg r.cells]) zup (e122 n r hr);have h4:=fun H=>zg (G:=G) (n:=n+3) (H:=H) (caps:=[]) (ps:=[.agg r.cells]) zu1 (e123 n r hr);have h5:=fun H=>zg (G:=G) (n:=n+3) (H:=H) (caps:=[]) (ps:=[.agg r.cells]) zuf (e124 n r hr);have h6:=fun H=>zg (G:=G) (n:=n+3) (H:=H) (caps:=[]) (ps:=[.agg r.cells]) zuz (e125 n r hr);have BL:r.f=f/\r.l=l:=⟨rfl,rfl⟩
 have rc:r.cells=[.int .i64 f.id,.int .i64 f.kind,.bool f.nt,.int .i64 f.a,.int .i64 f.b,.int .i64 f.c,.int .i64 f.span.lo,.int .i64 f.span.hi,.int .i64 f.quarter,l.pv Box.cells 4]:=rfl;simp only [rc,List.map] at h1 h2 h3 h4 h5 h6;rw [BL.1,BL.2] at h1 h2 h3 h4 h5 h6;clear rc BL hr;clear r;rw [Yr];generalize ak f l.xs=v at *;generalize zT f.span (qC l.xs[f.a.toNat]! l.xs[f.b.toNat]! l.xs[f.c.toNat]!)=t at *
 by_cases k2:f.kind=2
 .have h2:=h2 k2;rw [if_pos k2];simp only [k2] at h2;clear h1 h3 h4 h5 h6;simp [*,za,c104,Fact.cells]
 rw [if_neg k2];clear h2
 by_cases k3:f.kind=3
 .rw [if_pos k3];generalize EZ (lV f.quarter v.1 v.2).1 (lV f.quarter v.1 v.2).2=q at *;simp only [k3] at h3;clear h1 h4 h5 h6;simp [*,za,c104,Fact.cells]
 rw [if_neg k3];clear h3
 by_cases k4:f.kind=4
 .rw [if_pos k4];generalize E5 f.span (zy v.1) (zy v.2)=q at *;simp only [k4] at h4;clear h1 h5 h6;simp [*,za,c104,Fact.cells]
 rw [if_neg k4];clear h4
 by_cases k5:f.kind=5
 .rw [if_pos k5];generalize zT f.span v.1=q at *;simp only [k5] at h5;clear h1 h6;simp [*,za,c104,Fact.cells]
 rw [if_neg k5];clear h5
 by_cases k6:f.kind=6
 .rw [if_pos k6];generalize zT f.span v.2=q at *;simp only [k6] at h6;clear h1;simp [*,za,c104,Fact.cells]
 rw [if_neg k6];clear h6;generalize zT f.span (Ap (zy v.1) (zy v.2))=q at *;simp [*,za,c104,Fact.cells]
theorem sh60:G.shared 60=false:=by decide
theorem e60 (n:Nat) (f:Fact) (l:Sl Box) (hr:rq f l.xs):zF G (n+5) 60 [.agg f.cells,l.pv Box.cells 4]=some (.bool (zJ f l.xs)):=by
 refine zx (zw _) rfl g60 rfl ?_
 have h1:=fun H=>zg (G:=G) (n:=n+4) (H:=H) (caps:=[]) (ps:=[.agg f.cells,l.pv Box.cells 4]) zuQ (e104 n f l hr);simp only [Fact.cells,List.map] at h1;clear hr;unfold zJ;generalize BN f l.xs=b at *
 cases hn:f.nt
 .simp only [hn] at h1;simp [*,za,c60,Fact.cells]
 .simp only [hn] at h1;simp [*,za,c60,Fact.cells]
def UG (f:Fact) (l:List Box):Bool:=l.all ny&&zX f l.length
theorem zsd {f:Fact} {l:List Box} (h:UG f l=true):rq f l:=by
 unfold UG zX qz at h;simp only [Bool.and_eq_true,List.all_eq_true,decide_eq_true_eq] at h;obtain ⟨hv,⟨⟨⟨⟨_,ha⟩,hb⟩,_⟩,_⟩,hc⟩:=h
 refine ⟨by omega,by omega,fun hk=>?_,hv⟩
 rw [if_pos hk] at hc;simp only [Bool.and_eq_true,decide_eq_true_eq] at hc;omega
end Go.Proofs.YtmmhnfghklppiaaGreat.Vm
