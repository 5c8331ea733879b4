/- What the program reads of facts on boxes: vectors, distances, quarters, triangles. What facts say of boxes, as the program computes it. The triangle of a fact: three loops over corners; what a fact says of boxes. What facts say of boxes and points: bare, fails, Can, Must, Fails, Holds of the program. -/
import Derived.Test.YtmmhnfghklppiaaGreatPk15
import Derived.Test.YtmmhnfghklppiaaGreatPk16
namespace Go.Proofs.YtmmhnfghklppiaaGreat.Vm
open Go
set_option linter.unusedSimpArgs false
set_option linter.unusedVariables false
set_option maxHeartbeats 4000000
structure Reader where
 f:Fact
 l:Sl Box
 deriving Inhabited
@[simp] def Reader.cells (s:Reader):List PV:=[.int .i64 s.f.id,.int .i64 s.f.kind,.bool s.f.nt,.int .i64 s.f.a,.int .i64 s.f.b,.int .i64 s.f.c,.int .i64 s.f.span.lo,.int .i64 s.f.span.hi,.int .i64 s.f.quarter,(s.l).pv Box.cells 4]
@[simp] theorem Reader.eta (s:Reader):(⟨s.f,s.l⟩:Reader)=s:=rfl
structure ROk (f:Fact) (l:List Box):Prop where
 a:0<=f.a/\f.a < l.length
 b:0<=f.b/\f.b < l.length
 c:f.kind=2->0<=f.c/\f.c < l.length
 v:∀ b∈l,zan b=true
theorem valid_iff {b:Box}:zan b=true↔(-1048576<=b.x.lo/\b.x.lo<=b.x.hi/\b.x.hi<=1048576)/\(-1048576<=b.y.lo/\b.y.lo<=b.y.hi/\b.y.hi<=1048576):=by
 simp only [zan,zei,Bool.and_eq_true,decide_eq_true_eq];omega
theorem getB {l:List Box} {i:Int} (h0:0<=i) (h:i < l.length):∃ n:Nat,∃ hn:n < l.length,i=n/\l[i.toNat]! = l[n]:=by
 obtain ⟨n,rfl⟩:=Int.eq_ofNat_of_zero_le h0;have hn:n < l.length:=by omega
 exact ⟨n,hn,rfl,by simp [hn]⟩
def inS (s:Span) (M:Int):Prop:=-M<=s.lo/\s.lo<=s.hi/\s.hi<=M
theorem ztl:G.shared 155=false:=by decide
theorem e155 (n:Nat) (a b:Span) (ha:inS a 1048576) (hb:inS b 1048576):zH G (n+1) 155 [.agg a.cells,.agg b.cells]=some (.agg (zbe a b).cells):=by
 refine zy (zx _) rfl g155 rfl ?_
 have w1:IntKind.i64.wrap (a.lo - b.hi)=a.lo - b.hi:=wrap64 (by unfold inS at *;omega) (by unfold inS at *;omega);have w2:IntKind.i64.wrap (a.hi - b.lo)=a.hi - b.lo:=wrap64 (by unfold inS at *;omega) (by unfold inS at *;omega);(repeat' first|simp [*,za,c155,Span.cells,zbe]|(apply zb<;>intro _ h<;>try simp [-Nat.le_zero_eq] at h))
theorem ztJ:G.shared 141=false:=by decide
theorem e141 (n:Nat) (a b:Span) (ha:inS a 1048576) (hb:inS b 1048576):zH G (n+1) 141 [.agg a.cells,.agg b.cells]=some (.agg (zbe a b).cells):=by
 refine zy (zx _) rfl g141 rfl ?_
 have w1:IntKind.i64.wrap (a.lo - b.hi)=a.lo - b.hi:=wrap64 (by unfold inS at *;omega) (by unfold inS at *;omega);have w2:IntKind.i64.wrap (a.hi - b.lo)=a.hi - b.lo:=wrap64 (by unfold inS at *;omega) (by unfold inS at *;omega);(repeat' first|simp [*,za,c141,Span.cells,zbe]|(apply zb<;>intro _ h<;>try simp [-Nat.le_zero_eq] at h))
theorem zj6:G.shared 144=false:=by decide
theorem e144 (n:Nat) (s:Span) (hs:inS s 4194304):zH G (n+1) 144 [.agg s.cells]=some (.agg (zA s).cells):=by
 refine zy (zx _) rfl g144 rfl ?_
 have w1:IntKind.i64.wrap (0 - s.lo)=- s.lo:=by rw [wrap64 (by unfold inS at *;omega) (by unfold inS at *;omega)];omega
 have w2:IntKind.i64.wrap (0 - s.hi)=- s.hi:=by rw [wrap64 (by unfold inS at *;omega) (by unfold inS at *;omega)];omega
 have w3:IntKind.i64.wrap (- s.lo)=- s.lo:=wrap64 (by unfold inS at *;omega) (by unfold inS at *;omega);have w4:IntKind.i64.wrap (- s.hi)=- s.hi:=wrap64 (by unfold inS at *;omega) (by unfold inS at *;omega);(repeat' first|simp [*,za,c144,Span.cells,zA]|(apply zb<;>intro _ h<;>try simp [-Nat.le_zero_eq] at h))
 all_goals (try (refine ⟨?_,?_⟩<;>(repeat' split)<;>first|rfl|omega|(simp only;omega)))
theorem zoH:G.shared 140=false:=by decide
theorem e140 (n:Nat) (s:Span) (hs:inS s 4194304):zH G (n+1) 140 [.agg s.cells]=some (.agg (zA s).cells):=by
 refine zy (zx _) rfl g140 rfl ?_
 have w1:IntKind.i64.wrap (0 - s.lo)=- s.lo:=by rw [wrap64 (by unfold inS at *;omega) (by unfold inS at *;omega)];omega
 have w2:IntKind.i64.wrap (0 - s.hi)=- s.hi:=by rw [wrap64 (by unfold inS at *;omega) (by unfold inS at *;omega)];omega
 have w3:IntKind.i64.wrap (- s.lo)=- s.lo:=wrap64 (by unfold inS at *;omega) (by unfold inS at *;omega);have w4:IntKind.i64.wrap (- s.hi)=- s.hi:=wrap64 (by unfold inS at *;omega) (by unfold inS at *;omega);rw [<- zlu hs.2.1];(repeat' first|simp [*,za,c140,Span.cells]|(apply zb<;>intro _ h<;>try simp [-Nat.le_zero_eq] at h))
 all_goals (try (refine ⟨?_,?_⟩<;>(repeat' split)<;>first|rfl|omega|(simp only;omega)))
theorem zgU {a b M N:Int} (ha:-M<=a/\a<=M) (hb:-N<=b/\b<=N):-(M*N)<=a*b/\a*b<=M*N:=by
 have h1:a.natAbs<=M.natAbs:=by omega
 have h2:b.natAbs<=N.natAbs:=by omega
 have h3:(a*b).natAbs<=(M*N).natAbs:=by rw [Int.natAbs_mul,Int.natAbs_mul];exact Nat.mul_le_mul h1 h2
 have h4:0<=M*N:=Int.mul_nonneg (by omega) (by omega);omega
def okP (p:Pt):Prop:=(-1048576<=p.x/\p.x<=1048576)/\(-1048576<=p.y/\p.y<=1048576)
theorem zoA {a b c:Pt} (ha:okP a) (hb:okP b) (hc:okP c):(-4398046511104<=(b.x - a.x)*(c.y - a.y)/\(b.x - a.x)*(c.y - a.y)<=4398046511104)/\(-4398046511104<=(b.y - a.y)*(c.x - a.x)/\(b.y - a.y)*(c.x - a.x)<=4398046511104):=by
 unfold okP at *;exact ⟨zgU (M:=2097152) (N:=2097152) (by omega) (by omega),zgU (M:=2097152) (N:=2097152) (by omega) (by omega)⟩
theorem zvu:G.shared 147=false:=by decide
theorem e147 (n:Nat) (a b c:Pt) (ha:okP a) (hb:okP b) (hc:okP c):zH G (n+1) 147 [.agg a.cells,.agg b.cells,.agg c.cells]=some (.int .i64 (zaW a b c)):=by
 refine zy (zx _) rfl g147 rfl ?_
 obtain ⟨q1,q2⟩:=zoA ha hb hc;unfold okP at *;have w1:IntKind.i64.wrap (b.x - a.x)=b.x - a.x:=wrap64 (by omega) (by omega);have w2:IntKind.i64.wrap (b.y - a.y)=b.y - a.y:=wrap64 (by omega) (by omega);have w3:IntKind.i64.wrap (c.x - a.x)=c.x - a.x:=wrap64 (by omega) (by omega);have w4:IntKind.i64.wrap (c.y - a.y)=c.y - a.y:=wrap64 (by omega) (by omega);have w5:IntKind.i64.wrap ((b.x - a.x)*(c.y - a.y))=(b.x - a.x)*(c.y - a.y):=wrap64 (by omega) (by omega);have w6:IntKind.i64.wrap ((b.y - a.y)*(c.x - a.x))=(b.y - a.y)*(c.x - a.x):=wrap64 (by omega) (by omega);have w7:IntKind.i64.wrap ((b.x - a.x)*(c.y - a.y) - (b.y - a.y)*(c.x - a.x))=(b.x - a.x)*(c.y - a.y) - (b.y - a.y)*(c.x - a.x):=wrap64 (by omega) (by omega);clear ha hb hc q1 q2;(repeat' first|simp [*,za,c147,Pt.cells,zaW]|(apply zb<;>intro _ h<;>try simp [-Nat.le_zero_eq] at h))
theorem zvF:G.shared 157=false:=by decide
theorem e157 (n:Nat) (ax ay bx by' cx cy:Int) (ha:okP ⟨ax,ay⟩) (hb:okP ⟨bx,by'⟩) (hc:okP ⟨cx,cy⟩):zH G (n+1) 157 [.int .i64 ax,.int .i64 ay,.int .i64 bx,.int .i64 by',.int .i64 cx,.int .i64 cy]=some (.int .i64 (zaW ⟨ax,ay⟩ ⟨bx,by'⟩ ⟨cx,cy⟩)):=by
 refine zy (zx _) rfl g157 rfl ?_
 obtain ⟨q1,q2⟩:=zoA ha hb hc;unfold okP at *;simp only at *;have w1:IntKind.i64.wrap (bx - ax)=bx - ax:=wrap64 (by omega) (by omega);have w2:IntKind.i64.wrap (by' - ay)=by' - ay:=wrap64 (by omega) (by omega);have w3:IntKind.i64.wrap (cx - ax)=cx - ax:=wrap64 (by omega) (by omega);have w4:IntKind.i64.wrap (cy - ay)=cy - ay:=wrap64 (by omega) (by omega);have w5:IntKind.i64.wrap ((bx - ax)*(cy - ay))=(bx - ax)*(cy - ay):=wrap64 (by omega) (by omega);have w6:IntKind.i64.wrap ((by' - ay)*(cx - ax))=(by' - ay)*(cx - ax):=wrap64 (by omega) (by omega);have w7:IntKind.i64.wrap ((bx - ax)*(cy - ay) - (by' - ay)*(cx - ax))=(bx - ax)*(cy - ay) - (by' - ay)*(cx - ax):=wrap64 (by omega) (by omega);clear ha hb hc q1 q2;(repeat' first|simp [*,za,c157,zaW]|(apply zb<;>intro _ h<;>try simp [-Nat.le_zero_eq] at h))
theorem ROk.box {f:Fact} {l:List Box} (h:ROk f l) {i:Nat} (hi:i < l.length):inS l[i].x 1048576/\inS l[i].y 1048576:=by
 have:=valid_iff.1 (h.v _ (List.getElem_mem hi));unfold inS;omega
def vecS (f:Fact) (l:List Box):Span×Span:=(zbe l[f.b.toNat]!.x l[f.a.toNat]!.x,zbe l[f.b.toNat]!.y l[f.a.toNat]!.y)
theorem zvT:G.shared 103=false:=by decide
theorem e103 (n:Nat) (p:Pt):zH G (n+1) 103 [.agg p.cells]=some (.agg (atB p).cells):=by
 refine zy (zx _) rfl g103 rfl ?_
 (repeat' first|simp [*,za,c103,Pt.cells,Box.cells,atB]|(apply zb<;>intro _ h<;>try simp [-Nat.le_zero_eq] at h))
theorem zmN:G.shared 143=false:=by decide
theorem e143 (n:Nat) (r:Reader) (hr:ROk r.f r.l.xs):zH G (n+2) 143 [.agg r.cells]=some (.tup [.agg (vecS r.f r.l.xs).1.cells,.agg (vecS r.f r.l.xs).2.cells]):=by
 refine zy (zx _) rfl g143 rfl ?_
 obtain ⟨f,l⟩:=r;simp only at hr;obtain ⟨i,hi,ea,ga⟩:=getB hr.a.1 hr.a.2;obtain ⟨j,hj,eb,gb⟩:=getB hr.b.1 hr.b.2;obtain ⟨h1,h2⟩:=hr.box hi;obtain ⟨h3,h4⟩:=hr.box hj;have hx:∀ H,zG (zt G (n+1)) H (.pure (.func 155 [])) [.pure (.agg (l.xs[j]).x.cells),.pure (.agg (l.xs[i]).x.cells)]=some (.val (.pure (.agg (zbe (l.xs[j]).x (l.xs[i]).x).cells))):=fun H=>zf (caps:=[]) (ps:=[_,_]) ztl (e155 n _ _ h3 h1);have hy:∀ H,zG (zt G (n+1)) H (.pure (.func 155 [])) [.pure (.agg (l.xs[j]).y.cells),.pure (.agg (l.xs[i]).y.cells)]=some (.val (.pure (.agg (zbe (l.xs[j]).y (l.xs[i]).y).cells))):=fun H=>zf (caps:=[]) (ps:=[_,_]) ztl (e155 n _ _ h4 h2);simp only [Span.cells] at hx hy;clear h1 h2 h3 h4 hr;unfold vecS;rw [ga,gb];clear ga gb;(repeat' first|simp [*,za,c143,Reader.cells,Fact.cells,Box.cells,Span.cells]|(apply zb<;>intro _ h<;>try simp [-Nat.le_zero_eq] at h))
theorem zv4:G.shared 145=false:=by decide
theorem e145 (n:Nat) (r:Reader) (v:Span):zH G (n+1) 145 [.agg r.cells,.agg v.cells]=some (.tup [.bool (zQ r.f.span v).1,.bool (zQ r.f.span v).2]):=by
 refine zy (zx _) rfl g145 rfl ?_
 (repeat' first|simp [*,za,c145,Reader.cells,Fact.cells,Span.cells,zQ]|(apply zb<;>intro _ h<;>try simp [-Nat.le_zero_eq] at h))
@[simp] theorem d145 (n:Nat) (H:Heap) (r_f_id:Int) (r_f_kind:Int) (r_f_nt:Bool) (r_f_a:Int) (r_f_b:Int) (r_f_c:Int) (r_f_span_lo:Int) (r_f_span_hi:Int) (r_f_quarter:Int) (r_l:Sl Box) (v_lo:Int) (v_hi:Int):zG (zt G (n+1)) H (.pure (.func 145 [])) [.pure (.agg [.int .i64 r_f_id,.int .i64 r_f_kind,.bool r_f_nt,.int .i64 r_f_a,.int .i64 r_f_b,.int .i64 r_f_c,.int .i64 r_f_span_lo,.int .i64 r_f_span_hi,.int .i64 r_f_quarter,(r_l).pv Box.cells 4]),.pure (.agg [.int .i64 v_lo,.int .i64 v_hi])]=some (.val (.pure ((fun (r:Reader)=>(fun (v:Span)=>.tup [.bool (zQ r.f.span v).1,.bool (zQ r.f.span v).2]) (⟨v_lo,v_hi⟩:Span)) (⟨⟨r_f_id,r_f_kind,r_f_nt,r_f_a,r_f_b,r_f_c,⟨r_f_span_lo,r_f_span_hi⟩,r_f_quarter⟩,r_l⟩:Reader)))) :=
 zf (ps:=[_,_]) (caps:=[]) zv4 (e145 n (⟨⟨r_f_id,r_f_kind,r_f_nt,r_f_a,r_f_b,r_f_c,⟨r_f_span_lo,r_f_span_hi⟩,r_f_quarter⟩,r_l⟩:Reader) (⟨v_lo,v_hi⟩:Span))
theorem zmH {a b:Span} (ha:inS a 1048576) (hb:inS b 1048576):inS (zbe a b) 2097152:=by unfold inS zbe at *;simp only;omega
theorem zbE {s:Span} {M N:Int} (h:inS s M) (hMN:M<=N):inS s N:=by unfold inS at *;omega
theorem zcO {f:Fact} {l:List Box} (h:ROk f l):inS (vecS f l).1 2097152/\inS (vecS f l).2 2097152:=by
 obtain ⟨i,hi,ea,ga⟩:=getB h.a.1 h.a.2;obtain ⟨j,hj,eb,gb⟩:=getB h.b.1 h.b.2;unfold vecS;rw [ga,gb];obtain ⟨h1,h2⟩:=h.box hi;obtain ⟨h3,h4⟩:=h.box hj;exact ⟨zmH h3 h1,zmH h4 h2⟩
theorem zeu {s:Span} (h:inS s 2097152):0<=(zA s).lo/\(zA s).lo<=(zA s).hi/\(zA s).hi<=2097152:=by
 unfold inS at h
 by_cases h1:0<=s.lo
 ·simp only [zA,if_pos h1];omega
 ·by_cases h2:s.hi<=0
  ·simp only [zA,if_neg h1,if_pos h2];omega
  ·simp only [zA,if_neg h1,if_neg h2];omega
theorem zhb {a:Int} (h0:0<=a) (h:a<=2097152):0<=a*a/\a*a<=4398046511104:=by
 have:=zgU (a:=a) (b:=a) (M:=2097152) (N:=2097152) (by omega) (by omega);exact ⟨Int.mul_nonneg h0 h0,by omega⟩
theorem zvO:G.shared 120=false:=by decide
theorem e120 (n:Nat) (r:Reader) (hr:ROk r.f r.l.xs):zH G (n+3) 120 [.agg r.cells]=some (.tup [.bool (zQ r.f.span (zcU (zA (vecS r.f r.l.xs).1) (zA (vecS r.f r.l.xs).2))).1,.bool (zQ r.f.span (zcU (zA (vecS r.f r.l.xs).1) (zA (vecS r.f r.l.xs).2))).2]):=by
 refine zy (zx _) rfl g120 rfl ?_
 obtain ⟨v1,v2⟩:=zcO hr;have hv:∀ H,zG (zt G (n+2)) H (.pure (.func 143 [])) [.pure (.agg r.cells)]=some (.val (.pure (.tup [.agg (vecS r.f r.l.xs).1.cells,.agg (vecS r.f r.l.xs).2.cells]))):=fun H=>zf (caps:=[]) (ps:=[_]) zmN (e143 n r hr);have ha:∀ H,zG (zt G (n+2)) H (.pure (.func 144 [])) [.pure (.agg (vecS r.f r.l.xs).1.cells)]=some (.val (.pure (.agg (zA (vecS r.f r.l.xs).1).cells))):=fun H=>zf (caps:=[]) (ps:=[_]) zj6 (e144 (n+1) _ (zbE v1 (by omega)));have hb:∀ H,zG (zt G (n+2)) H (.pure (.func 144 [])) [.pure (.agg (vecS r.f r.l.xs).2.cells)]=some (.val (.pure (.agg (zA (vecS r.f r.l.xs).2).cells))):=fun H=>zf (caps:=[]) (ps:=[_]) zj6 (e144 (n+1) _ (zbE v2 (by omega)));obtain ⟨a1,a2,a3⟩:=zeu v1;obtain ⟨b1,b2,b3⟩:=zeu v2;clear v1 v2 hr;generalize (vecS r.f r.l.xs).1=x at *;generalize (vecS r.f r.l.xs).2=y at *;generalize zA x=ax at *;generalize zA y=ay at *;have s1:=zhb a1 (by omega);have s2:=zhb (a:=ax.hi) (by omega) a3;have s3:=zhb b1 (by omega);have s4:=zhb (a:=ay.hi) (by omega) b3;have w1:IntKind.i64.wrap (ax.lo*ax.lo)=ax.lo*ax.lo:=wrap64 (by omega) (by omega);have w2:IntKind.i64.wrap (ax.hi*ax.hi)=ax.hi*ax.hi:=wrap64 (by omega) (by omega);have w3:IntKind.i64.wrap (ay.lo*ay.lo)=ay.lo*ay.lo:=wrap64 (by omega) (by omega);have w4:IntKind.i64.wrap (ay.hi*ay.hi)=ay.hi*ay.hi:=wrap64 (by omega) (by omega);have w5:IntKind.i64.wrap (ax.lo*ax.lo+ay.lo*ay.lo)=ax.lo*ax.lo+ay.lo*ay.lo:=wrap64 (by omega) (by omega);have w6:IntKind.i64.wrap (ax.hi*ax.hi+ay.hi*ay.hi)=ax.hi*ax.hi+ay.hi*ay.hi:=wrap64 (by omega) (by omega);clear a1 a2 a3 b1 b2 b3 s1 s2 s3 s4;simp only [Span.cells,Reader.cells,Fact.cells] at hv ha hb;(repeat' first|simp [*,za,c120,Reader.cells,Fact.cells,Span.cells,zcU]|(apply zb<;>intro _ h<;>try simp [-Nat.le_zero_eq] at h))
theorem zv5:G.shared 123=false:=by decide
theorem e123 (n:Nat) (r:Reader) (hr:ROk r.f r.l.xs):zH G (n+3) 123 [.agg r.cells]=some (.tup [.bool (zcN r.f.span (zA (vecS r.f r.l.xs).1) (zA (vecS r.f r.l.xs).2)).1,.bool (zcN r.f.span (zA (vecS r.f r.l.xs).1) (zA (vecS r.f r.l.xs).2)).2]):=by
 refine zy (zx _) rfl g123 rfl ?_
 obtain ⟨v1,v2⟩:=zcO hr;have hv:∀ H,zG (zt G (n+2)) H (.pure (.func 143 [])) [.pure (.agg r.cells)]=some (.val (.pure (.tup [.agg (vecS r.f r.l.xs).1.cells,.agg (vecS r.f r.l.xs).2.cells]))):=fun H=>zf (caps:=[]) (ps:=[_]) zmN (e143 n r hr);have ha:∀ H,zG (zt G (n+2)) H (.pure (.func 144 [])) [.pure (.agg (vecS r.f r.l.xs).1.cells)]=some (.val (.pure (.agg (zA (vecS r.f r.l.xs).1).cells))):=fun H=>zf (caps:=[]) (ps:=[_]) zj6 (e144 (n+1) _ (zbE v1 (by omega)));have hb:∀ H,zG (zt G (n+2)) H (.pure (.func 144 [])) [.pure (.agg (vecS r.f r.l.xs).2.cells)]=some (.val (.pure (.agg (zA (vecS r.f r.l.xs).2).cells))):=fun H=>zf (caps:=[]) (ps:=[_]) zj6 (e144 (n+1) _ (zbE v2 (by omega)));clear v1 v2 hr;generalize (vecS r.f r.l.xs).1=x at *;generalize (vecS r.f r.l.xs).2=y at *;generalize zA x=ax at *;generalize zA y=ay at *;simp only [Span.cells,Reader.cells,Fact.cells] at hv ha hb;(repeat' first|simp [*,za,c123,Reader.cells,Fact.cells,Span.cells,zcN]|(apply zb<;>intro _ h<;>try simp [-Nat.le_zero_eq] at h))
theorem zvH:G.shared 124=false:=by decide
theorem e124 (n:Nat) (r:Reader) (hr:ROk r.f r.l.xs):zH G (n+3) 124 [.agg r.cells]=some (.tup [.bool (zQ r.f.span (vecS r.f r.l.xs).1).1,.bool (zQ r.f.span (vecS r.f r.l.xs).1).2]):=by
 refine zy (zx _) rfl g124 rfl ?_
 obtain ⟨v1,v2⟩:=zcO hr;have hv:∀ H,zG (zt G (n+2)) H (.pure (.func 143 [])) [.pure (.agg r.cells)]=some (.val (.pure (.tup [.agg (vecS r.f r.l.xs).1.cells,.agg (vecS r.f r.l.xs).2.cells]))):=fun H=>zf (caps:=[]) (ps:=[_]) zmN (e143 n r hr);clear v1 v2 hr;generalize (vecS r.f r.l.xs).1=x at *;generalize (vecS r.f r.l.xs).2=y at *;simp only [Span.cells,Reader.cells,Fact.cells] at hv;(repeat' first|simp [*,za,c124,Reader.cells,Fact.cells,Span.cells]|(apply zb<;>intro _ h<;>try simp [-Nat.le_zero_eq] at h))
theorem zvn:G.shared 125=false:=by decide
theorem e125 (n:Nat) (r:Reader) (hr:ROk r.f r.l.xs):zH G (n+3) 125 [.agg r.cells]=some (.tup [.bool (zQ r.f.span (vecS r.f r.l.xs).2).1,.bool (zQ r.f.span (vecS r.f r.l.xs).2).2]):=by
 refine zy (zx _) rfl g125 rfl ?_
 obtain ⟨v1,v2⟩:=zcO hr;have hv:∀ H,zG (zt G (n+2)) H (.pure (.func 143 [])) [.pure (.agg r.cells)]=some (.val (.pure (.tup [.agg (vecS r.f r.l.xs).1.cells,.agg (vecS r.f r.l.xs).2.cells]))):=fun H=>zf (caps:=[]) (ps:=[_]) zmN (e143 n r hr);clear v1 v2 hr;generalize (vecS r.f r.l.xs).1=x at *;generalize (vecS r.f r.l.xs).2=y at *;simp only [Span.cells,Reader.cells,Fact.cells] at hv;(repeat' first|simp [*,za,c125,Reader.cells,Fact.cells,Span.cells]|(apply zb<;>intro _ h<;>try simp [-Nat.le_zero_eq] at h))
theorem zvN:G.shared 122=false:=by decide
theorem e122 (n:Nat) (r:Reader) (hr:ROk r.f r.l.xs):zH G (n+3) 122 [.agg r.cells]=some (.tup [.bool (zbn (zaj r.f.quarter (vecS r.f r.l.xs).1 (vecS r.f r.l.xs).2).1 (zaj r.f.quarter (vecS r.f r.l.xs).1 (vecS r.f r.l.xs).2).2).1,.bool (zbn (zaj r.f.quarter (vecS r.f r.l.xs).1 (vecS r.f r.l.xs).2).1 (zaj r.f.quarter (vecS r.f r.l.xs).1 (vecS r.f r.l.xs).2).2).2]):=by
 refine zy (zx _) rfl g122 rfl ?_
 obtain ⟨v1,v2⟩:=zcO hr;have hv:∀ H,zG (zt G (n+2)) H (.pure (.func 143 [])) [.pure (.agg r.cells)]=some (.val (.pure (.tup [.agg (vecS r.f r.l.xs).1.cells,.agg (vecS r.f r.l.xs).2.cells]))):=fun H=>zf (caps:=[]) (ps:=[_]) zmN (e143 n r hr);have ha:∀ H,zG (zt G (n+2)) H (.pure (.func 144 [])) [.pure (.agg (vecS r.f r.l.xs).1.cells)]=some (.val (.pure (.agg (zA (vecS r.f r.l.xs).1).cells))):=fun H=>zf (caps:=[]) (ps:=[_]) zj6 (e144 (n+1) _ (zbE v1 (by omega)));have hb:∀ H,zG (zt G (n+2)) H (.pure (.func 144 [])) [.pure (.agg (vecS r.f r.l.xs).2.cells)]=some (.val (.pure (.agg (zA (vecS r.f r.l.xs).2).cells))):=fun H=>zf (caps:=[]) (ps:=[_]) zj6 (e144 (n+1) _ (zbE v2 (by omega)));have hx:inS (vecS r.f r.l.xs).1 2097152:=v1;have hy:inS (vecS r.f r.l.xs).2 2097152:=v2;clear v1 v2 hr;generalize (vecS r.f r.l.xs).1=x at *;generalize (vecS r.f r.l.xs).2=y at *;have w1:IntKind.i64.wrap (0 - x.lo)=- x.lo:=by rw [wrap64 (by unfold inS at *;omega) (by unfold inS at *;omega)];omega
 have w2:IntKind.i64.wrap (0 - x.hi)=- x.hi:=by rw [wrap64 (by unfold inS at *;omega) (by unfold inS at *;omega)];omega
 have w3:IntKind.i64.wrap (- x.lo)=- x.lo:=wrap64 (by unfold inS at *;omega) (by unfold inS at *;omega);have w4:IntKind.i64.wrap (- x.hi)=- x.hi:=wrap64 (by unfold inS at *;omega) (by unfold inS at *;omega);have w5:IntKind.i64.wrap (0 - y.lo)=- y.lo:=by rw [wrap64 (by unfold inS at *;omega) (by unfold inS at *;omega)];omega
 have w6:IntKind.i64.wrap (0 - y.hi)=- y.hi:=by rw [wrap64 (by unfold inS at *;omega) (by unfold inS at *;omega)];omega
 have w7:IntKind.i64.wrap (- y.lo)=- y.lo:=wrap64 (by unfold inS at *;omega) (by unfold inS at *;omega);have w8:IntKind.i64.wrap (- y.hi)=- y.hi:=wrap64 (by unfold inS at *;omega) (by unfold inS at *;omega);clear hx hy;generalize hax:zA x=ax at *;generalize hay:zA y=ay at *;simp only [Span.cells,Reader.cells,Fact.cells] at hv ha hb;(repeat' first|simp [*,za,c122,Reader.cells,Fact.cells,Span.cells]|(apply zb<;>intro _ h<;>try simp [-Nat.le_zero_eq] at h))
 all_goals (simp [*,zbn,zaj];done)
def zee (b:Box):List PV:=(zO b).flatMap Pt.cells
theorem zoT:G.shared 146=false:=by decide
theorem e146 (n:Nat) (b:Box):zH G (n+1) 146 [.agg b.cells]=some (.agg (zee b)):=by
 refine zy (zx _) rfl g146 rfl ?_
 (repeat' first|simp [*,za,c146,Box.cells,Span.cells,zO,zee,Pt.cells]|(apply zb<;>intro _ h<;>try simp [-Nat.le_zero_eq] at h))
theorem zd6 (b:Box) (i:Nat) (hi:i < 4) (k:IntKind):zkt 2 4 true (.pure (.agg (zee b))) (.pure (.int k i))=some (.val (.pure (.agg ((zO b)[i]'hi).cells))):=by
 have:i=0\/i=1\/i=2\/i=3:=by omega
 rcases this with rfl|rfl|rfl|rfl<;>rfl
theorem zg0 {b:Box} (h:zan b=true) (i:Nat) (hi:i < 4):okP ((zO b)[i]'hi):=by
 have hv:=valid_iff.1 h;have:i=0\/i=1\/i=2\/i=3:=by omega
 rcases this with rfl|rfl|rfl|rfl<;>(simp only [zO,okP,List.getElem_cons_zero,List.getElem_cons_succ];omega)
structure TurnJ (L:List Int) (cnt:Nat) (env:Env) (H:Heap):Prop where
 nx:0 < H.nx
 ex:∃ (fst:Bool) (v:Span),env 4=.pure (.bool fst)/\H.get 0=.cells true [.pure (.int .i64 v.lo),.pure (.int .i64 v.hi)]/\Hide (if fst=true then cnt=0 else zdZ L cnt v)
theorem TurnJ.cast {L:List Int} {c c':Nat} {env:Env} {H:Heap} (h:TurnJ L c env H) (e:c=c'):TurnJ L c' env H:=e ▸ h
theorem zrY (a b c:Box) (i j k:Nat) (hi:i < 4) (hj:j < 4) (hk:k < 4):∃ h:16*i+4*j+k < (zaz a b c).length,(zaz a b c)[16*i+4*j+k]=zaW ((zO a)[i]'hi) ((zO b)[j]'hj) ((zO c)[k]'hk):=by
 have h1:=zrr a b c i j k hi hj hk;obtain ⟨h,e⟩:=List.getElem?_eq_some_iff.1 h1;exact ⟨h,e⟩
theorem zvq:G.shared 121=false:=by decide
theorem e121 (n:Nat) (r:Reader) (hr:ROk r.f r.l.xs) (hk:r.f.kind=2):zH G (n+3) 121 [.agg r.cells]=some (.tup [.bool (zQ r.f.span (zbm r.l.xs[r.f.a.toNat]! r.l.xs[r.f.b.toNat]! r.l.xs[r.f.c.toNat]!)).1,.bool (zQ r.f.span (zbm r.l.xs[r.f.a.toNat]! r.l.xs[r.f.b.toNat]! r.l.xs[r.f.c.toNat]!)).2]):=by
 refine zy (zx _) rfl g121 rfl ?_
 obtain ⟨f,l⟩:=r;simp only at hr hk;obtain ⟨i,hi,ea,ga⟩:=getB hr.a.1 hr.a.2;obtain ⟨j,hj,eb,gb⟩:=getB hr.b.1 hr.b.2;obtain ⟨k,hk,ec,gc⟩:=getB (hr.c hk).1 (hr.c hk).2;have va:zan l.xs[i]=true:=hr.v _ (List.getElem_mem hi);have vb:zan l.xs[j]=true:=hr.v _ (List.getElem_mem hj);have vc:zan l.xs[k]=true:=hr.v _ (List.getElem_mem hk);have ca:=zf (G:=G) (n:=n+2) (H:=Heap.empty) (caps:=[]) (ps:=[.agg (l.xs[i]).cells]) zoT (e146 (n+1) l.xs[i]);have qa:∀ H,zG (zt G (n+2)) H (.pure (.func 146 [])) [.pure (.agg (l.xs[i]).cells)]=some (.val (.pure (.agg (zee l.xs[i])))):=fun H=>zf (caps:=[]) (ps:=[_]) zoT (e146 (n+1) _);have qb:∀ H,zG (zt G (n+2)) H (.pure (.func 146 [])) [.pure (.agg (l.xs[j]).cells)]=some (.val (.pure (.agg (zee l.xs[j])))):=fun H=>zf (caps:=[]) (ps:=[_]) zoT (e146 (n+1) _);have qc:∀ H,zG (zt G (n+2)) H (.pure (.func 146 [])) [.pure (.agg (l.xs[k]).cells)]=some (.val (.pure (.agg (zee l.xs[k])))):=fun H=>zf (caps:=[]) (ps:=[_]) zoT (e146 (n+1) _);clear ca;have hT:∀ (x y z:Nat) (hx:x < 4) (hy:y < 4) (hz:z < 4) H,zG (zt G (n+2)) H (.pure (.func 147 [])) [.pure (.agg ((zO l.xs[i])[x]'hx).cells),.pure (.agg ((zO l.xs[j])[y]'hy).cells),.pure (.agg ((zO l.xs[k])[z]'hz).cells)]=some (.val (.pure (.int .i64 (zaW ((zO l.xs[i])[x]'hx) ((zO l.xs[j])[y]'hy) ((zO l.xs[k])[z]'hz))))):=fun x y z hx hy hz H =>
  zf (caps:=[]) (ps:=[_,_,_]) zvu (e147 (n+1) _ _ _ (zg0 va x hx) (zg0 vb y hy) (zg0 vc z hz))
 have hT':=Hide.mk hT;have ta:=Hide.mk (zrY l.xs[i] l.xs[j] l.xs[k]);have hen:Hide (∀ v,zdZ (zaz l.xs[i] l.xs[j] l.xs[k]) 64 v->v=zbm l.xs[i] l.xs[j] l.xs[k]):=⟨fun v h=>zm4 (by rw [zkG];exact h)⟩
 have hst:Hide (∀ v cnt (h:cnt < (zaz l.xs[i] l.xs[j] l.xs[k]).length),zdZ (zaz l.xs[i] l.xs[j] l.xs[k]) cnt v->zdZ (zaz l.xs[i] l.xs[j] l.xs[k]) (cnt+1) ⟨min v.lo (zaz l.xs[i] l.xs[j] l.xs[k])[cnt],max v.hi (zaz l.xs[i] l.xs[j] l.xs[k])[cnt]⟩):=⟨fun v cnt h h2=>zmh h h2⟩
 have hs0:Hide (∀ (h:0 < (zaz l.xs[i] l.xs[j] l.xs[k]).length),zdZ (zaz l.xs[i] l.xs[j] l.xs[k]) 1 ⟨(zaz l.xs[i] l.xs[j] l.xs[k])[0],(zaz l.xs[i] l.xs[j] l.xs[k])[0]⟩):=⟨fun h=>zkK h⟩
 rw [ga,gb,gc];clear ga gb gc hr hT;have ia:=Hide.mk (zd6 l.xs[i]);have ib:=Hide.mk (zd6 l.xs[j]);have ic:=Hide.mk (zd6 l.xs[k]);generalize zbm l.xs[i] l.xs[j] l.xs[k]=T at *;generalize zaz l.xs[i] l.xs[j] l.xs[k]=L at *;clear va vb vc;simp only [Box.cells,Span.cells] at qa qb qc;(repeat' first|simp [*,za,c121,Reader.cells,Fact.cells,Box.cells,Span.cells]|(apply zb<;>intro _ h<;>try simp [-Nat.le_zero_eq] at h))
 refine zB [(4,4),(7,7),(9,9),(11,12),(22,66)] (fun (x:Nat) env H=>env 22=.pure (.int .i64 x)/\x<=4/\TurnJ L (16*x) env H) (fun x=>4 - x) 0 ?_ ?_ ?_ ?_
 ·decide
 ·refine ⟨by simp,by omega,⟨by simp,true,⟨0,0⟩,by simp,by simp,⟨by simp⟩⟩⟩
 ·simp only [zz];omega
 rintro x env H ⟨g0,hx,⟨hnx,fst,v,g4,gv,hsp⟩⟩
 by_cases hlt:x < 4
 ·have ix:=ia.h x hlt .i64;have hlI:(x:Int) < 4:=by omega
  have hTx:=Hide.mk (fun y z (hy:y < 4) (hz:z < 4) H=>hT'.h x y z hlt hy hz H);have tax:=Hide.mk (fun y z (hy:y < 4) (hz:z < 4)=>ta.h x y z hlt hy hz);clear hT' ta ia;generalize (zO l.xs[i])[x]=px at *;simp only [Pt.cells] at ix;(repeat' first|simp [*,za]|(apply zb<;>intro _ h<;>try simp [-Nat.le_zero_eq] at h))
  refine zB [(4,4),(9,9),(11,12),(33,65)] (fun (y:Nat) env H1=>env 33=.pure (.int .i64 y)/\y<=4/\TurnJ L (16*x+4*y) env H1/\H.nx < H1.nx/\H1.get H.nx=.cells true [.pure (.int .i64 px.x),.pure (.int .i64 px.y)]) (fun y=>4 - y) 0 ?_ ?_ ?_ ?_
  ·decide
  ·refine ⟨by simp,by omega,⟨by simp,fst,v,by simp [g4],?_,hsp⟩,by simp,by simp⟩
   rw [ze (by omega),zh hnx];exact gv
  ·simp only [zz];omega
  have hH0:H.nx≠0:=by omega
  have g22:=g0;clear hnx g4 gv hsp g0;rintro y env H1 ⟨g0,hy,⟨hnx,fst,v,g4,gv,hsp⟩,hn1,gp⟩
  by_cases hlt2:y < 4
  ·have iy:=ib.h y hlt2 .i64;have hlI2:(y:Int) < 4:=by omega
   have hTy:=Hide.mk (fun z (hz:z < 4) H=>hTx.h y z hlt2 hz H);have tay:=Hide.mk (fun z (hz:z < 4)=>tax.h y z hlt2 hz);clear hTx tax ib;generalize (zO l.xs[j])[y]=py at *;simp only [Pt.cells] at iy;(repeat' first|simp [*,za]|(apply zb<;>intro _ h<;>try simp [-Nat.le_zero_eq] at h))
   refine zB [(4,4),(11,12),(44,64)] (fun (z:Nat) env H2=>env 44=.pure (.int .i64 z)/\z<=4/\TurnJ L (16*x+4*y+z) env H2/\H1.nx < H2.nx/\H2.get H.nx=.cells true [.pure (.int .i64 px.x),.pure (.int .i64 px.y)]/\H2.get H1.nx=.cells true [.pure (.int .i64 py.x),.pure (.int .i64 py.y)]) (fun z=>4 - z) 0 ?_ ?_ ?_ ?_
   ·decide
   ·refine ⟨by simp,by omega,⟨by simp,fst,v,by simp [g4],?_,hsp⟩,by simp,?_,by simp⟩
    ·rw [ze (by omega),zh hnx];exact gv
    ·rw [ze (by omega),zh hn1];exact gp
   ·simp only [zz];omega
   have hH1:H1.nx≠0:=by omega
   have g33:=g0;clear hnx g4 gv hsp g0 gp;rintro z env H2 ⟨g0,hz,⟨hnx,fst,v,g4,gv,hsp⟩,hn2,gp,gq⟩
   by_cases hlt3:z < 4
   ·have iz:=ic.h z hlt3 .i64;have hlI3:(z:Int) < 4:=by omega
    have hTz:=fun H=>hTy.h z hlt3 H;obtain ⟨hlen,hval⟩:=tay.h z hlt3;clear hTy tay ic;have hst2:=Hide.mk (fun v=>hst.h v _ hlen);rw [hval] at hst2;have hs2:Hide (16*x+4*y+z=0->zdZ L 1 ⟨zaW px py (zO l.xs[k])[z],zaW px py (zO l.xs[k])[z]⟩):=⟨fun h0=>by
     have h1:L[0]'(by omega)=zaW px py (zO l.xs[k])[z]:=by rw [<- hval];congr 1;omega
     have:=hs0.h (by omega);rw [h1] at this;exact this⟩
    clear hval hlen hst hs0 hen;generalize zaW px py (zO l.xs[k])[z]=tv at *;generalize (zO l.xs[k])[z]=pz at *;have ne1:H.nx≠H2.nx:=by omega
    have ne2:H1.nx≠H2.nx:=by omega
    have ne3:(0:Nat)≠H2.nx:=by omega
    have lt1:H.nx < H2.nx:=by omega
    simp only [Pt.cells] at iz hTz
    cases fst with
    | true =>
     have hc0:16*x+4*y+z=0:=by simpa using hsp.h
     (repeat' first|simp [*,za]|(apply zb<;>intro _ h<;>try simp [-Nat.le_zero_eq] at h))
     refine ⟨z+1,by omega,by rw [wrap64 (by omega) (by omega)];omega,by omega,⟨by simp;try omega,false,⟨tv,tv⟩,by simp [g4],?_,⟨?_⟩⟩,by omega⟩
     ·simp [hnx]
     ·simp only [Bool.false_eq_true,if_false];rw [show 16*x+4*y+(z+1)=1 by omega];exact hs2.h hc0
    | false =>
     (repeat' first|simp [*,za]|(apply zb<;>intro _ h<;>try simp [-Nat.le_zero_eq] at h))
     refine ⟨z+1,by omega,by rw [wrap64 (by omega) (by omega)];omega,by omega,⟨by simp;try omega,false,⟨min v.lo tv,max v.hi tv⟩,by simp [g4],?_,⟨?_⟩⟩,by omega⟩
     ·simp [hnx]
     ·have:=hst2.h v (by simpa using hsp.h);simp only [Bool.false_eq_true,if_false];rw [<- Nat.add_assoc];exact this
   ·have hz4:z=4:=by omega
    subst hz4;clear hst hs0 hen hTy tay ic;have w1:IntKind.i64.wrap ((y:Int)+1)=(y+1:Nat):=by rw [wrap64 (by omega) (by omega)];omega
    (repeat' first|simp [*,za]|(apply zb<;>intro _ h<;>try simp [-Nat.le_zero_eq] at h))
    refine ⟨y+1,by omega,rfl,by omega,⟨hnx,fst,v,by simp [g4],gv,?_⟩,by omega⟩
    rw [show 16*x+4*(y+1)=16*x+4*y+4 by omega];exact hsp
  ·have hy4:y=4:=by omega
   subst hy4;clear hst hs0 hen hTx tax ic ib;have w1:IntKind.i64.wrap ((x:Int)+1)=(x+1:Nat):=by rw [wrap64 (by omega) (by omega)];omega
   (repeat' first|simp [*,za]|(apply zb<;>intro _ h<;>try simp [-Nat.le_zero_eq] at h))
   refine ⟨x+1,by omega,rfl,by omega,⟨hnx,fst,v,by simp [g4],gv,?_⟩⟩
   rw [show 16*(x+1)=16*x+4*4 by omega];exact hsp
 ·have hx4:x=4:=by omega
  subst hx4;have hT2:v=T/\fst=false:=by
   have h1:=hsp.h
   cases fst with
   | true=>simp at h1
   | false=>exact ⟨hen.h v (by simpa using h1),rfl⟩
  obtain ⟨rfl,rfl⟩:=hT2;clear hst hs0 hen hT' ta ic ib ia hsp;(repeat' first|simp [*,za]|(apply zb<;>intro _ h<;>try simp [-Nat.le_zero_eq] at h))
set_option maxHeartbeats 400000
theorem zgW (f:Fact) (l:List Box):zdC f l=if f.kind=2 then zQ f.span (zbm l[f.a.toNat]! l[f.b.toNat]! l[f.c.toNat]!) else if f.kind=3 then zbn (zaj f.quarter (vecS f l).1 (vecS f l).2).1 (zaj f.quarter (vecS f l).1 (vecS f l).2).2
 else if f.kind=4 then zcN f.span (zA (vecS f l).1) (zA (vecS f l).2) else if f.kind=5 then zQ f.span (vecS f l).1 else if f.kind=6 then zQ f.span (vecS f l).2 else zQ f.span (zcU (zA (vecS f l).1) (zA (vecS f l).2)):=rfl
theorem zvc:G.shared 104=false:=by decide
theorem e104 (n:Nat) (f:Fact) (l:Sl Box) (hr:ROk f l.xs):zH G (n+4) 104 [.agg f.cells,l.pv Box.cells 4]=some (.tup [.bool (zdC f l.xs).1,.bool (zdC f l.xs).2]):=by
 refine zy (zx _) rfl g104 rfl ?_
 let r:Reader:=⟨f,l⟩
 have h1:=fun H=>zf (G:=G) (n:=n+3) (H:=H) (caps:=[]) (ps:=[.agg r.cells]) zvO (e120 n r hr);have h2:f.kind=2->_:=fun hk H=>zf (G:=G) (n:=n+3) (H:=H) (caps:=[]) (ps:=[.agg r.cells]) zvq (e121 n r hr hk);have h3:=fun H=>zf (G:=G) (n:=n+3) (H:=H) (caps:=[]) (ps:=[.agg r.cells]) zvN (e122 n r hr);have h4:=fun H=>zf (G:=G) (n:=n+3) (H:=H) (caps:=[]) (ps:=[.agg r.cells]) zv5 (e123 n r hr);have h5:=fun H=>zf (G:=G) (n:=n+3) (H:=H) (caps:=[]) (ps:=[.agg r.cells]) zvH (e124 n r hr);have h6:=fun H=>zf (G:=G) (n:=n+3) (H:=H) (caps:=[]) (ps:=[.agg r.cells]) zvn (e125 n r hr);have hr':r.f=f/\r.l=l:=⟨rfl,rfl⟩
 have rc:r.cells=[.int .i64 f.id,.int .i64 f.kind,.bool f.nt,.int .i64 f.a,.int .i64 f.b,.int .i64 f.c,.int .i64 f.span.lo,.int .i64 f.span.hi,.int .i64 f.quarter,l.pv Box.cells 4]:=rfl;simp only [rc,List.map_cons,List.map_nil] at h1 h2 h3 h4 h5 h6;rw [hr'.1,hr'.2] at h1 h2 h3 h4 h5 h6;clear rc hr' hr;clear r;rw [zgW];generalize vecS f l.xs=v at *;generalize zQ f.span (zbm l.xs[f.a.toNat]! l.xs[f.b.toNat]! l.xs[f.c.toNat]!)=t at *
 by_cases k2:f.kind=2
 ·have h2:=h2 k2;rw [if_pos k2];simp only [k2] at h2;clear h1 h3 h4 h5 h6;(repeat' first|simp [*,za,c104,Fact.cells]|(apply zb<;>intro _ h<;>try simp [-Nat.le_zero_eq] at h))
 rw [if_neg k2];clear h2
 by_cases k3:f.kind=3
 ·rw [if_pos k3];generalize zbn (zaj f.quarter v.1 v.2).1 (zaj f.quarter v.1 v.2).2=q at *;simp only [k3] at h3;clear h1 h4 h5 h6;(repeat' first|simp [*,za,c104,Fact.cells]|(apply zb<;>intro _ h<;>try simp [-Nat.le_zero_eq] at h))
 rw [if_neg k3];clear h3
 by_cases k4:f.kind=4
 ·rw [if_pos k4];generalize zcN f.span (zA v.1) (zA v.2)=q at *;simp only [k4] at h4;clear h1 h5 h6;(repeat' first|simp [*,za,c104,Fact.cells]|(apply zb<;>intro _ h<;>try simp [-Nat.le_zero_eq] at h))
 rw [if_neg k4];clear h4
 by_cases k5:f.kind=5
 ·rw [if_pos k5];generalize zQ f.span v.1=q at *;simp only [k5] at h5;clear h1 h6;(repeat' first|simp [*,za,c104,Fact.cells]|(apply zb<;>intro _ h<;>try simp [-Nat.le_zero_eq] at h))
 rw [if_neg k5];clear h5
 by_cases k6:f.kind=6
 ·rw [if_pos k6];generalize zQ f.span v.2=q at *;simp only [k6] at h6;clear h1;(repeat' first|simp [*,za,c104,Fact.cells]|(apply zb<;>intro _ h<;>try simp [-Nat.le_zero_eq] at h))
 rw [if_neg k6];clear h6;generalize zQ f.span (zcU (zA v.1) (zA v.2))=q at *;(repeat' first|simp [*,za,c104,Fact.cells]|(apply zb<;>intro _ h<;>try simp [-Nat.le_zero_eq] at h))
theorem sh60:G.shared 60=false:=by decide
theorem e60 (n:Nat) (f:Fact) (l:Sl Box) (hr:ROk f l.xs):zH G (n+5) 60 [.agg f.cells,l.pv Box.cells 4]=some (.bool (zJ f l.xs)):=by
 refine zy (zx _) rfl g60 rfl ?_
 have h1:=fun H=>zf (G:=G) (n:=n+4) (H:=H) (caps:=[]) (ps:=[.agg f.cells,l.pv Box.cells 4]) zvc (e104 n f l hr);simp only [Fact.cells,List.map_cons,List.map_nil] at h1;clear hr;unfold zJ;generalize zdC f l.xs=b at *
 cases hn:f.nt
 ·simp only [hn] at h1;(repeat' first|simp [*,za,c60,Fact.cells]|(apply zb<;>intro _ h<;>try simp [-Nat.le_zero_eq] at h))
 ·simp only [hn] at h1;(repeat' first|simp [*,za,c60,Fact.cells]|(apply zb<;>intro _ h<;>try simp [-Nat.le_zero_eq] at h))
def zis (f:Fact) (l:List Box):Bool:=l.all zan&&zaa f l.length
theorem zoO {f:Fact} {l:List Box} (h:zis f l=true):ROk f l:=by
 unfold zis zaa inB at h;simp only [Bool.and_eq_true,List.all_eq_true,decide_eq_true_eq] at h;obtain ⟨hv,⟨⟨⟨⟨_,ha⟩,hb⟩,_⟩,_⟩,hc⟩:=h
 refine ⟨by omega,by omega,fun hk=>?_,hv⟩
 rw [if_pos hk] at hc;simp only [Bool.and_eq_true,decide_eq_true_eq] at hc;omega
end Go.Proofs.YtmmhnfghklppiaaGreat.Vm
