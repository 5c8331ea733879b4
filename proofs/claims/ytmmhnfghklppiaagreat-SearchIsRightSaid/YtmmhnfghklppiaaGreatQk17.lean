/- What the program reads of facts on boxes: vectors, distances, quarters, triangles. What facts say of boxes, as the program computes it. The triangle of a fact: three loops over corners; what a fact says of boxes. What facts say of boxes and points: bare, fails, Can, Must, Fails, Holds of the program. -/
import Derived.Test.YtmmhnfghklppiaaGreatQk15
import Derived.Test.YtmmhnfghklppiaaGreatQk16
namespace Go.Proofs.YtmmhnfghklppiaaGreat.Vm
open Go
set_option linter.unusedSimpArgs false
set_option linter.unusedVariables false
set_option maxHeartbeats 4000000
structure Reader where
 f:Fact
 l:Sl Box
 deriving Inhabited
@[simp] def Reader.cells (s:Reader):List PV:=[.int .i64 s.f.id,.int .i64 s.f.kind,.bool s.f.nt,.int .i64 s.f.a,.int .i64 s.f.b,.int .i64 s.f.c,.int .i64 s.f.span.lo,.int .i64 s.f.span.hi,.int .i64 s.f.quarter,(s.l).pv Box.cells 4]
@[simp] theorem Reader.eta (s:Reader):(⟨s.f,s.l⟩:Reader)=s:=rfl
structure ROk (f:Fact) (l:List Box):Prop where
 a:0<=f.a/\f.a < l.length
 b:0<=f.b/\f.b < l.length
 c:f.kind=2->0<=f.c/\f.c < l.length
 v:∀ b∈l,zay b=true
theorem valid_iff {b:Box}:zay b=true↔(-1048576<=b.x.lo/\b.x.lo<=b.x.hi/\b.x.hi<=1048576)/\(-1048576<=b.y.lo/\b.y.lo<=b.y.hi/\b.y.hi<=1048576):=by
 simp only [zay,zez,Bool.and_eq_true,decide_eq_true_eq];omega
theorem getB {l:List Box} {i:Int} (h0:0<=i) (h:i < l.length):∃ n:Nat,∃ hn:n < l.length,i=n/\l[i.toNat]! = l[n]:=by
 obtain ⟨n,rfl⟩:=Int.eq_ofNat_of_zero_le h0;have hn:n < l.length:=by omega
 exact ⟨n,hn,rfl,by simp [hn]⟩
def inS (s:Span) (M:Int):Prop:=-M<=s.lo/\s.lo<=s.hi/\s.hi<=M
theorem zsY:G.shared 155=false:=by decide
theorem e155 (n:Nat) (a b:Span) (ha:inS a 1048576) (hb:inS b 1048576):zH G (n+1) 155 [.agg a.cells,.agg b.cells]=some (.agg (zbC a b).cells):=by
 refine zy (zw _) rfl g155 rfl ?_
 have w1:IntKind.i64.wrap (a.lo - b.hi)=a.lo - b.hi:=wrap64 (by unfold inS at *;omega) (by unfold inS at *;omega);have w2:IntKind.i64.wrap (a.hi - b.lo)=a.hi - b.lo:=wrap64 (by unfold inS at *;omega) (by unfold inS at *;omega);(repeat' first|simp [*,za,c155,Span.cells,zbC]|(apply zb<;>intro _ h<;>try simp [-Nat.le_zero_eq] at h))
theorem zjU:G.shared 144=false:=by decide
theorem e144 (n:Nat) (s:Span) (hs:inS s 4194304):zH G (n+1) 144 [.agg s.cells]=some (.agg (zK s).cells):=by
 refine zy (zw _) rfl g144 rfl ?_
 have w1:IntKind.i64.wrap (0 - s.lo)=- s.lo:=by rw [wrap64 (by unfold inS at *;omega) (by unfold inS at *;omega)];omega
 have w2:IntKind.i64.wrap (0 - s.hi)=- s.hi:=by rw [wrap64 (by unfold inS at *;omega) (by unfold inS at *;omega)];omega
 have w3:IntKind.i64.wrap (- s.lo)=- s.lo:=wrap64 (by unfold inS at *;omega) (by unfold inS at *;omega);have w4:IntKind.i64.wrap (- s.hi)=- s.hi:=wrap64 (by unfold inS at *;omega) (by unfold inS at *;omega);(repeat' first|simp [*,za,c144,Span.cells,zK]|(apply zb<;>intro _ h<;>try simp [-Nat.le_zero_eq] at h))
 all_goals (try (refine ⟨?_,?_⟩<;>(repeat' split)<;>first|rfl|omega|(simp only;omega)))
theorem znS {a b M N:Int} (ha:-M<=a/\a<=M) (hb:-N<=b/\b<=N):-(M*N)<=a*b/\a*b<=M*N:=by
 have h1:a.natAbs<=M.natAbs:=by omega
 have h2:b.natAbs<=N.natAbs:=by omega
 have h3:(a*b).natAbs<=(M*N).natAbs:=by rw [Int.natAbs_mul,Int.natAbs_mul];exact Nat.mul_le_mul h1 h2
 have h4:0<=M*N:=Int.mul_nonneg (by omega) (by omega);omega
def okP (p:Pt):Prop:=(-1048576<=p.x/\p.x<=1048576)/\(-1048576<=p.y/\p.y<=1048576)
theorem zr0 {a b c:Pt} (ha:okP a) (hb:okP b) (hc:okP c):(-4398046511104<=(b.x - a.x)*(c.y - a.y)/\(b.x - a.x)*(c.y - a.y)<=4398046511104)/\(-4398046511104<=(b.y - a.y)*(c.x - a.x)/\(b.y - a.y)*(c.x - a.x)<=4398046511104):=by
 unfold okP at *;exact ⟨znS (M:=2097152) (N:=2097152) (by omega) (by omega),znS (M:=2097152) (N:=2097152) (by omega) (by omega)⟩
theorem zux:G.shared 147=false:=by decide
theorem e147 (n:Nat) (a b c:Pt) (ha:okP a) (hb:okP b) (hc:okP c):zH G (n+1) 147 [.agg a.cells,.agg b.cells,.agg c.cells]=some (.int .i64 (zbg a b c)):=by
 refine zy (zw _) rfl g147 rfl ?_
 obtain ⟨q1,q2⟩:=zr0 ha hb hc;unfold okP at *;have w1:IntKind.i64.wrap (b.x - a.x)=b.x - a.x:=wrap64 (by omega) (by omega);have w2:IntKind.i64.wrap (b.y - a.y)=b.y - a.y:=wrap64 (by omega) (by omega);have w3:IntKind.i64.wrap (c.x - a.x)=c.x - a.x:=wrap64 (by omega) (by omega);have w4:IntKind.i64.wrap (c.y - a.y)=c.y - a.y:=wrap64 (by omega) (by omega);have w5:IntKind.i64.wrap ((b.x - a.x)*(c.y - a.y))=(b.x - a.x)*(c.y - a.y):=wrap64 (by omega) (by omega);have w6:IntKind.i64.wrap ((b.y - a.y)*(c.x - a.x))=(b.y - a.y)*(c.x - a.x):=wrap64 (by omega) (by omega);have w7:IntKind.i64.wrap ((b.x - a.x)*(c.y - a.y) - (b.y - a.y)*(c.x - a.x))=(b.x - a.x)*(c.y - a.y) - (b.y - a.y)*(c.x - a.x):=wrap64 (by omega) (by omega);clear ha hb hc q1 q2;(repeat' first|simp [*,za,c147,Pt.cells,zbg]|(apply zb<;>intro _ h<;>try simp [-Nat.le_zero_eq] at h))
theorem ROk.box {f:Fact} {l:List Box} (h:ROk f l) {i:Nat} (hi:i < l.length):inS l[i].x 1048576/\inS l[i].y 1048576:=by
 have:=valid_iff.1 (h.v _ (List.getElem_mem hi));unfold inS;omega
def vecS (f:Fact) (l:List Box):Span×Span:=(zbC l[f.b.toNat]!.x l[f.a.toNat]!.x,zbC l[f.b.toNat]!.y l[f.a.toNat]!.y)
theorem zsO:G.shared 103=false:=by decide
theorem e103 (n:Nat) (p:Pt):zH G (n+1) 103 [.agg p.cells]=some (.agg (atB p).cells):=by
 refine zy (zw _) rfl g103 rfl ?_
 (repeat' first|simp [*,za,c103,Pt.cells,Box.cells,atB]|(apply zb<;>intro _ h<;>try simp [-Nat.le_zero_eq] at h))
theorem zlD:G.shared 143=false:=by decide
theorem e143 (n:Nat) (r:Reader) (hr:ROk r.f r.l.xs):zH G (n+2) 143 [.agg r.cells]=some (.tup [.agg (vecS r.f r.l.xs).1.cells,.agg (vecS r.f r.l.xs).2.cells]):=by
 refine zy (zw _) rfl g143 rfl ?_
 obtain ⟨f,l⟩:=r;simp only at hr;obtain ⟨i,hi,ea,ga⟩:=getB hr.a.1 hr.a.2;obtain ⟨j,hj,eb,gb⟩:=getB hr.b.1 hr.b.2;obtain ⟨h1,h2⟩:=hr.box hi;obtain ⟨h3,h4⟩:=hr.box hj;have hx:∀ H,zG (zm G (n+1)) H (.pure (.func 155 [])) [.pure (.agg (l.xs[j]).x.cells),.pure (.agg (l.xs[i]).x.cells)]=some (.val (.pure (.agg (zbC (l.xs[j]).x (l.xs[i]).x).cells))):=fun H=>ze (caps:=[]) (ps:=[_,_]) zsY (e155 n _ _ h3 h1);have hy:∀ H,zG (zm G (n+1)) H (.pure (.func 155 [])) [.pure (.agg (l.xs[j]).y.cells),.pure (.agg (l.xs[i]).y.cells)]=some (.val (.pure (.agg (zbC (l.xs[j]).y (l.xs[i]).y).cells))):=fun H=>ze (caps:=[]) (ps:=[_,_]) zsY (e155 n _ _ h4 h2);simp only [Span.cells] at hx hy;clear h1 h2 h3 h4 hr;unfold vecS;rw [ga,gb];clear ga gb;(repeat' first|simp [*,za,c143,Reader.cells,Fact.cells,Box.cells,Span.cells]|(apply zb<;>intro _ h<;>try simp [-Nat.le_zero_eq] at h))
theorem zu9:G.shared 145=false:=by decide
theorem e145 (n:Nat) (r:Reader) (v:Span):zH G (n+1) 145 [.agg r.cells,.agg v.cells]=some (.tup [.bool (zac r.f.span v).1,.bool (zac r.f.span v).2]):=by
 refine zy (zw _) rfl g145 rfl ?_
 (repeat' first|simp [*,za,c145,Reader.cells,Fact.cells,Span.cells,zac]|(apply zb<;>intro _ h<;>try simp [-Nat.le_zero_eq] at h))
@[simp] theorem d145 (n:Nat) (H:Heap) (r_f_id:Int) (r_f_kind:Int) (r_f_nt:Bool) (r_f_a:Int) (r_f_b:Int) (r_f_c:Int) (r_f_span_lo:Int) (r_f_span_hi:Int) (r_f_quarter:Int) (r_l:Sl Box) (v_lo:Int) (v_hi:Int):zG (zm G (n+1)) H (.pure (.func 145 [])) [.pure (.agg [.int .i64 r_f_id,.int .i64 r_f_kind,.bool r_f_nt,.int .i64 r_f_a,.int .i64 r_f_b,.int .i64 r_f_c,.int .i64 r_f_span_lo,.int .i64 r_f_span_hi,.int .i64 r_f_quarter,(r_l).pv Box.cells 4]),.pure (.agg [.int .i64 v_lo,.int .i64 v_hi])]=some (.val (.pure ((fun (r:Reader)=>(fun (v:Span)=>.tup [.bool (zac r.f.span v).1,.bool (zac r.f.span v).2]) (⟨v_lo,v_hi⟩:Span)) (⟨⟨r_f_id,r_f_kind,r_f_nt,r_f_a,r_f_b,r_f_c,⟨r_f_span_lo,r_f_span_hi⟩,r_f_quarter⟩,r_l⟩:Reader)))) :=
 ze (ps:=[_,_]) (caps:=[]) zu9 (e145 n (⟨⟨r_f_id,r_f_kind,r_f_nt,r_f_a,r_f_b,r_f_c,⟨r_f_span_lo,r_f_span_hi⟩,r_f_quarter⟩,r_l⟩:Reader) (⟨v_lo,v_hi⟩:Span))
theorem zln {a b:Span} (ha:inS a 1048576) (hb:inS b 1048576):inS (zbC a b) 2097152:=by unfold inS zbC at *;simp only;omega
theorem zd7 {s:Span} {M N:Int} (h:inS s M) (hMN:M<=N):inS s N:=by unfold inS at *;omega
theorem zfI {f:Fact} {l:List Box} (h:ROk f l):inS (vecS f l).1 2097152/\inS (vecS f l).2 2097152:=by
 obtain ⟨i,hi,ea,ga⟩:=getB h.a.1 h.a.2;obtain ⟨j,hj,eb,gb⟩:=getB h.b.1 h.b.2;unfold vecS;rw [ga,gb];obtain ⟨h1,h2⟩:=h.box hi;obtain ⟨h3,h4⟩:=h.box hj;exact ⟨zln h3 h1,zln h4 h2⟩
theorem ziT {s:Span} (h:inS s 2097152):0<=(zK s).lo/\(zK s).lo<=(zK s).hi/\(zK s).hi<=2097152:=by
 unfold inS at h
 by_cases h1:0<=s.lo
 ·simp only [zK,if_pos h1];omega
 ·by_cases h2:s.hi<=0
  ·simp only [zK,if_neg h1,if_pos h2];omega
  ·simp only [zK,if_neg h1,if_neg h2];omega
theorem zoD {a:Int} (h0:0<=a) (h:a<=2097152):0<=a*a/\a*a<=4398046511104:=by
 have:=znS (a:=a) (b:=a) (M:=2097152) (N:=2097152) (by omega) (by omega);exact ⟨Int.mul_nonneg h0 h0,by omega⟩
theorem zuY:G.shared 120=false:=by decide
theorem e120 (n:Nat) (r:Reader) (hr:ROk r.f r.l.xs):zH G (n+3) 120 [.agg r.cells]=some (.tup [.bool (zac r.f.span (zeW (zK (vecS r.f r.l.xs).1) (zK (vecS r.f r.l.xs).2))).1,.bool (zac r.f.span (zeW (zK (vecS r.f r.l.xs).1) (zK (vecS r.f r.l.xs).2))).2]):=by
 refine zy (zw _) rfl g120 rfl ?_
 obtain ⟨v1,v2⟩:=zfI hr;have hv:∀ H,zG (zm G (n+2)) H (.pure (.func 143 [])) [.pure (.agg r.cells)]=some (.val (.pure (.tup [.agg (vecS r.f r.l.xs).1.cells,.agg (vecS r.f r.l.xs).2.cells]))):=fun H=>ze (caps:=[]) (ps:=[_]) zlD (e143 n r hr);have ha:∀ H,zG (zm G (n+2)) H (.pure (.func 144 [])) [.pure (.agg (vecS r.f r.l.xs).1.cells)]=some (.val (.pure (.agg (zK (vecS r.f r.l.xs).1).cells))):=fun H=>ze (caps:=[]) (ps:=[_]) zjU (e144 (n+1) _ (zd7 v1 (by omega)));have hb:∀ H,zG (zm G (n+2)) H (.pure (.func 144 [])) [.pure (.agg (vecS r.f r.l.xs).2.cells)]=some (.val (.pure (.agg (zK (vecS r.f r.l.xs).2).cells))):=fun H=>ze (caps:=[]) (ps:=[_]) zjU (e144 (n+1) _ (zd7 v2 (by omega)));obtain ⟨a1,a2,a3⟩:=ziT v1;obtain ⟨b1,b2,b3⟩:=ziT v2;clear v1 v2 hr;generalize (vecS r.f r.l.xs).1=x at *;generalize (vecS r.f r.l.xs).2=y at *;generalize zK x=ax at *;generalize zK y=ay at *;have s1:=zoD a1 (by omega);have s2:=zoD (a:=ax.hi) (by omega) a3;have s3:=zoD b1 (by omega);have s4:=zoD (a:=ay.hi) (by omega) b3;have w1:IntKind.i64.wrap (ax.lo*ax.lo)=ax.lo*ax.lo:=wrap64 (by omega) (by omega);have w2:IntKind.i64.wrap (ax.hi*ax.hi)=ax.hi*ax.hi:=wrap64 (by omega) (by omega);have w3:IntKind.i64.wrap (ay.lo*ay.lo)=ay.lo*ay.lo:=wrap64 (by omega) (by omega);have w4:IntKind.i64.wrap (ay.hi*ay.hi)=ay.hi*ay.hi:=wrap64 (by omega) (by omega);have w5:IntKind.i64.wrap (ax.lo*ax.lo+ay.lo*ay.lo)=ax.lo*ax.lo+ay.lo*ay.lo:=wrap64 (by omega) (by omega);have w6:IntKind.i64.wrap (ax.hi*ax.hi+ay.hi*ay.hi)=ax.hi*ax.hi+ay.hi*ay.hi:=wrap64 (by omega) (by omega);clear a1 a2 a3 b1 b2 b3 s1 s2 s3 s4;simp only [Span.cells,Reader.cells,Fact.cells] at hv ha hb;(repeat' first|simp [*,za,c120,Reader.cells,Fact.cells,Span.cells,zeW]|(apply zb<;>intro _ h<;>try simp [-Nat.le_zero_eq] at h))
theorem zu8:G.shared 123=false:=by decide
theorem e123 (n:Nat) (r:Reader) (hr:ROk r.f r.l.xs):zH G (n+3) 123 [.agg r.cells]=some (.tup [.bool (zed r.f.span (zK (vecS r.f r.l.xs).1) (zK (vecS r.f r.l.xs).2)).1,.bool (zed r.f.span (zK (vecS r.f r.l.xs).1) (zK (vecS r.f r.l.xs).2)).2]):=by
 refine zy (zw _) rfl g123 rfl ?_
 obtain ⟨v1,v2⟩:=zfI hr;have hv:∀ H,zG (zm G (n+2)) H (.pure (.func 143 [])) [.pure (.agg r.cells)]=some (.val (.pure (.tup [.agg (vecS r.f r.l.xs).1.cells,.agg (vecS r.f r.l.xs).2.cells]))):=fun H=>ze (caps:=[]) (ps:=[_]) zlD (e143 n r hr);have ha:∀ H,zG (zm G (n+2)) H (.pure (.func 144 [])) [.pure (.agg (vecS r.f r.l.xs).1.cells)]=some (.val (.pure (.agg (zK (vecS r.f r.l.xs).1).cells))):=fun H=>ze (caps:=[]) (ps:=[_]) zjU (e144 (n+1) _ (zd7 v1 (by omega)));have hb:∀ H,zG (zm G (n+2)) H (.pure (.func 144 [])) [.pure (.agg (vecS r.f r.l.xs).2.cells)]=some (.val (.pure (.agg (zK (vecS r.f r.l.xs).2).cells))):=fun H=>ze (caps:=[]) (ps:=[_]) zjU (e144 (n+1) _ (zd7 v2 (by omega)));clear v1 v2 hr;generalize (vecS r.f r.l.xs).1=x at *;generalize (vecS r.f r.l.xs).2=y at *;generalize zK x=ax at *;generalize zK y=ay at *;simp only [Span.cells,Reader.cells,Fact.cells] at hv ha hb;(repeat' first|simp [*,za,c123,Reader.cells,Fact.cells,Span.cells,zed]|(apply zb<;>intro _ h<;>try simp [-Nat.le_zero_eq] at h))
theorem zvb:G.shared 124=false:=by decide
theorem e124 (n:Nat) (r:Reader) (hr:ROk r.f r.l.xs):zH G (n+3) 124 [.agg r.cells]=some (.tup [.bool (zac r.f.span (vecS r.f r.l.xs).1).1,.bool (zac r.f.span (vecS r.f r.l.xs).1).2]):=by
 refine zy (zw _) rfl g124 rfl ?_
 obtain ⟨v1,v2⟩:=zfI hr;have hv:∀ H,zG (zm G (n+2)) H (.pure (.func 143 [])) [.pure (.agg r.cells)]=some (.val (.pure (.tup [.agg (vecS r.f r.l.xs).1.cells,.agg (vecS r.f r.l.xs).2.cells]))):=fun H=>ze (caps:=[]) (ps:=[_]) zlD (e143 n r hr);clear v1 v2 hr;generalize (vecS r.f r.l.xs).1=x at *;generalize (vecS r.f r.l.xs).2=y at *;simp only [Span.cells,Reader.cells,Fact.cells] at hv;(repeat' first|simp [*,za,c124,Reader.cells,Fact.cells,Span.cells]|(apply zb<;>intro _ h<;>try simp [-Nat.le_zero_eq] at h))
theorem zu1:G.shared 125=false:=by decide
theorem e125 (n:Nat) (r:Reader) (hr:ROk r.f r.l.xs):zH G (n+3) 125 [.agg r.cells]=some (.tup [.bool (zac r.f.span (vecS r.f r.l.xs).2).1,.bool (zac r.f.span (vecS r.f r.l.xs).2).2]):=by
 refine zy (zw _) rfl g125 rfl ?_
 obtain ⟨v1,v2⟩:=zfI hr;have hv:∀ H,zG (zm G (n+2)) H (.pure (.func 143 [])) [.pure (.agg r.cells)]=some (.val (.pure (.tup [.agg (vecS r.f r.l.xs).1.cells,.agg (vecS r.f r.l.xs).2.cells]))):=fun H=>ze (caps:=[]) (ps:=[_]) zlD (e143 n r hr);clear v1 v2 hr;generalize (vecS r.f r.l.xs).1=x at *;generalize (vecS r.f r.l.xs).2=y at *;simp only [Span.cells,Reader.cells,Fact.cells] at hv;(repeat' first|simp [*,za,c125,Reader.cells,Fact.cells,Span.cells]|(apply zb<;>intro _ h<;>try simp [-Nat.le_zero_eq] at h))
theorem zuG:G.shared 122=false:=by decide
theorem e122 (n:Nat) (r:Reader) (hr:ROk r.f r.l.xs):zH G (n+3) 122 [.agg r.cells]=some (.tup [.bool (zcd (zaY r.f.quarter (vecS r.f r.l.xs).1 (vecS r.f r.l.xs).2).1 (zaY r.f.quarter (vecS r.f r.l.xs).1 (vecS r.f r.l.xs).2).2).1,.bool (zcd (zaY r.f.quarter (vecS r.f r.l.xs).1 (vecS r.f r.l.xs).2).1 (zaY r.f.quarter (vecS r.f r.l.xs).1 (vecS r.f r.l.xs).2).2).2]):=by
 refine zy (zw _) rfl g122 rfl ?_
 obtain ⟨v1,v2⟩:=zfI hr;have hv:∀ H,zG (zm G (n+2)) H (.pure (.func 143 [])) [.pure (.agg r.cells)]=some (.val (.pure (.tup [.agg (vecS r.f r.l.xs).1.cells,.agg (vecS r.f r.l.xs).2.cells]))):=fun H=>ze (caps:=[]) (ps:=[_]) zlD (e143 n r hr);have ha:∀ H,zG (zm G (n+2)) H (.pure (.func 144 [])) [.pure (.agg (vecS r.f r.l.xs).1.cells)]=some (.val (.pure (.agg (zK (vecS r.f r.l.xs).1).cells))):=fun H=>ze (caps:=[]) (ps:=[_]) zjU (e144 (n+1) _ (zd7 v1 (by omega)));have hb:∀ H,zG (zm G (n+2)) H (.pure (.func 144 [])) [.pure (.agg (vecS r.f r.l.xs).2.cells)]=some (.val (.pure (.agg (zK (vecS r.f r.l.xs).2).cells))):=fun H=>ze (caps:=[]) (ps:=[_]) zjU (e144 (n+1) _ (zd7 v2 (by omega)));have hx:inS (vecS r.f r.l.xs).1 2097152:=v1;have hy:inS (vecS r.f r.l.xs).2 2097152:=v2;clear v1 v2 hr;generalize (vecS r.f r.l.xs).1=x at *;generalize (vecS r.f r.l.xs).2=y at *;have w1:IntKind.i64.wrap (0 - x.lo)=- x.lo:=by rw [wrap64 (by unfold inS at *;omega) (by unfold inS at *;omega)];omega
 have w2:IntKind.i64.wrap (0 - x.hi)=- x.hi:=by rw [wrap64 (by unfold inS at *;omega) (by unfold inS at *;omega)];omega
 have w3:IntKind.i64.wrap (- x.lo)=- x.lo:=wrap64 (by unfold inS at *;omega) (by unfold inS at *;omega);have w4:IntKind.i64.wrap (- x.hi)=- x.hi:=wrap64 (by unfold inS at *;omega) (by unfold inS at *;omega);have w5:IntKind.i64.wrap (0 - y.lo)=- y.lo:=by rw [wrap64 (by unfold inS at *;omega) (by unfold inS at *;omega)];omega
 have w6:IntKind.i64.wrap (0 - y.hi)=- y.hi:=by rw [wrap64 (by unfold inS at *;omega) (by unfold inS at *;omega)];omega
 have w7:IntKind.i64.wrap (- y.lo)=- y.lo:=wrap64 (by unfold inS at *;omega) (by unfold inS at *;omega);have w8:IntKind.i64.wrap (- y.hi)=- y.hi:=wrap64 (by unfold inS at *;omega) (by unfold inS at *;omega);clear hx hy;generalize hax:zK x=ax at *;generalize hay:zK y=ay at *;simp only [Span.cells,Reader.cells,Fact.cells] at hv ha hb;(repeat' first|simp [*,za,c122,Reader.cells,Fact.cells,Span.cells]|(apply zb<;>intro _ h<;>try simp [-Nat.le_zero_eq] at h))
 all_goals (simp [*,zcd,zaY];done)
def zdZ (b:Box):List PV:=(zL b).flatMap Pt.cells
theorem zoc:G.shared 146=false:=by decide
theorem e146 (n:Nat) (b:Box):zH G (n+1) 146 [.agg b.cells]=some (.agg (zdZ b)):=by
 refine zy (zw _) rfl g146 rfl ?_
 (repeat' first|simp [*,za,c146,Box.cells,Span.cells,zL,zdZ,Pt.cells]|(apply zb<;>intro _ h<;>try simp [-Nat.le_zero_eq] at h))
theorem zdM (b:Box) (i:Nat) (hi:i < 4) (k:IntKind):zkr 2 4 true (.pure (.agg (zdZ b))) (.pure (.int k i))=some (.val (.pure (.agg ((zL b)[i]'hi).cells))):=by
 have:i=0\/i=1\/i=2\/i=3:=by omega
 rcases this with rfl|rfl|rfl|rfl<;>rfl
theorem zgn {b:Box} (h:zay b=true) (i:Nat) (hi:i < 4):okP ((zL b)[i]'hi):=by
 have hv:=valid_iff.1 h;have:i=0\/i=1\/i=2\/i=3:=by omega
 rcases this with rfl|rfl|rfl|rfl<;>(simp only [zL,okP,List.getElem_cons_zero,List.getElem_cons_succ];omega)
structure TurnJ (L:List Int) (cnt:Nat) (env:Env) (H:Heap):Prop where
 nx:0 < H.nx
 ex:∃ (fst:Bool) (v:Span),env 4=.pure (.bool fst)/\H.get 0=.cells true [.pure (.int .i64 v.lo),.pure (.int .i64 v.hi)]/\Hide (if fst=true then cnt=0 else zdO L cnt v)
theorem TurnJ.cast {L:List Int} {c c':Nat} {env:Env} {H:Heap} (h:TurnJ L c env H) (e:c=c'):TurnJ L c' env H:=e ▸ h
theorem zru (a b c:Box) (i j k:Nat) (hi:i < 4) (hj:j < 4) (hk:k < 4):∃ h:16*i+4*j+k < (zaC a b c).length,(zaC a b c)[16*i+4*j+k]=zbg ((zL a)[i]'hi) ((zL b)[j]'hj) ((zL c)[k]'hk):=by
 have h1:=zrg a b c i j k hi hj hk;obtain ⟨h,e⟩:=List.getElem?_eq_some_iff.1 h1;exact ⟨h,e⟩
theorem zuv:G.shared 121=false:=by decide
theorem e121 (n:Nat) (r:Reader) (hr:ROk r.f r.l.xs) (hk:r.f.kind=2):zH G (n+3) 121 [.agg r.cells]=some (.tup [.bool (zac r.f.span (zcf r.l.xs[r.f.a.toNat]! r.l.xs[r.f.b.toNat]! r.l.xs[r.f.c.toNat]!)).1,.bool (zac r.f.span (zcf r.l.xs[r.f.a.toNat]! r.l.xs[r.f.b.toNat]! r.l.xs[r.f.c.toNat]!)).2]):=by
 refine zy (zw _) rfl g121 rfl ?_
 obtain ⟨f,l⟩:=r;simp only at hr hk;obtain ⟨i,hi,ea,ga⟩:=getB hr.a.1 hr.a.2;obtain ⟨j,hj,eb,gb⟩:=getB hr.b.1 hr.b.2;obtain ⟨k,hk,ec,gc⟩:=getB (hr.c hk).1 (hr.c hk).2;have va:zay l.xs[i]=true:=hr.v _ (List.getElem_mem hi);have vb:zay l.xs[j]=true:=hr.v _ (List.getElem_mem hj);have vc:zay l.xs[k]=true:=hr.v _ (List.getElem_mem hk);have ca:=ze (G:=G) (n:=n+2) (H:=Heap.empty) (caps:=[]) (ps:=[.agg (l.xs[i]).cells]) zoc (e146 (n+1) l.xs[i]);have qa:∀ H,zG (zm G (n+2)) H (.pure (.func 146 [])) [.pure (.agg (l.xs[i]).cells)]=some (.val (.pure (.agg (zdZ l.xs[i])))):=fun H=>ze (caps:=[]) (ps:=[_]) zoc (e146 (n+1) _);have qb:∀ H,zG (zm G (n+2)) H (.pure (.func 146 [])) [.pure (.agg (l.xs[j]).cells)]=some (.val (.pure (.agg (zdZ l.xs[j])))):=fun H=>ze (caps:=[]) (ps:=[_]) zoc (e146 (n+1) _);have qc:∀ H,zG (zm G (n+2)) H (.pure (.func 146 [])) [.pure (.agg (l.xs[k]).cells)]=some (.val (.pure (.agg (zdZ l.xs[k])))):=fun H=>ze (caps:=[]) (ps:=[_]) zoc (e146 (n+1) _);clear ca;have hT:∀ (x y z:Nat) (hx:x < 4) (hy:y < 4) (hz:z < 4) H,zG (zm G (n+2)) H (.pure (.func 147 [])) [.pure (.agg ((zL l.xs[i])[x]'hx).cells),.pure (.agg ((zL l.xs[j])[y]'hy).cells),.pure (.agg ((zL l.xs[k])[z]'hz).cells)]=some (.val (.pure (.int .i64 (zbg ((zL l.xs[i])[x]'hx) ((zL l.xs[j])[y]'hy) ((zL l.xs[k])[z]'hz))))):=fun x y z hx hy hz H =>
  ze (caps:=[]) (ps:=[_,_,_]) zux (e147 (n+1) _ _ _ (zgn va x hx) (zgn vb y hy) (zgn vc z hz))
 have hT':=Hide.mk hT;have ta:=Hide.mk (zru l.xs[i] l.xs[j] l.xs[k]);have hen:Hide (∀ v,zdO (zaC l.xs[i] l.xs[j] l.xs[k]) 64 v->v=zcf l.xs[i] l.xs[j] l.xs[k]):=⟨fun v h=>zmN (by rw [zkh];exact h)⟩
 have hst:Hide (∀ v cnt (h:cnt < (zaC l.xs[i] l.xs[j] l.xs[k]).length),zdO (zaC l.xs[i] l.xs[j] l.xs[k]) cnt v->zdO (zaC l.xs[i] l.xs[j] l.xs[k]) (cnt+1) ⟨min v.lo (zaC l.xs[i] l.xs[j] l.xs[k])[cnt],max v.hi (zaC l.xs[i] l.xs[j] l.xs[k])[cnt]⟩):=⟨fun v cnt h h2=>zmB h h2⟩
 have hs0:Hide (∀ (h:0 < (zaC l.xs[i] l.xs[j] l.xs[k]).length),zdO (zaC l.xs[i] l.xs[j] l.xs[k]) 1 ⟨(zaC l.xs[i] l.xs[j] l.xs[k])[0],(zaC l.xs[i] l.xs[j] l.xs[k])[0]⟩):=⟨fun h=>zkH h⟩
 rw [ga,gb,gc];clear ga gb gc hr hT;have ia:=Hide.mk (zdM l.xs[i]);have ib:=Hide.mk (zdM l.xs[j]);have ic:=Hide.mk (zdM l.xs[k]);generalize zcf l.xs[i] l.xs[j] l.xs[k]=T at *;generalize zaC l.xs[i] l.xs[j] l.xs[k]=L at *;clear va vb vc;simp only [Box.cells,Span.cells] at qa qb qc;(repeat' first|simp [*,za,c121,Reader.cells,Fact.cells,Box.cells,Span.cells]|(apply zb<;>intro _ h<;>try simp [-Nat.le_zero_eq] at h))
 refine zF [(4,4),(7,7),(9,9),(11,12),(22,66)] (fun (x:Nat) env H=>env 22=.pure (.int .i64 x)/\x<=4/\TurnJ L (16*x) env H) (fun x=>4 - x) 0 ?_ ?_ ?_ ?_
 ·decide
 ·refine ⟨by simp,by omega,⟨by simp,true,⟨0,0⟩,by simp,by simp,⟨by simp⟩⟩⟩
 ·simp only [zA];omega
 rintro x env H ⟨g0,hx,⟨hnx,fst,v,g4,gv,hsp⟩⟩
 by_cases hlt:x < 4
 ·have ix:=ia.h x hlt .i64;have hlI:(x:Int) < 4:=by omega
  have hTx:=Hide.mk (fun y z (hy:y < 4) (hz:z < 4) H=>hT'.h x y z hlt hy hz H);have tax:=Hide.mk (fun y z (hy:y < 4) (hz:z < 4)=>ta.h x y z hlt hy hz);clear hT' ta ia;generalize (zL l.xs[i])[x]=px at *;simp only [Pt.cells] at ix;(repeat' first|simp [*,za]|(apply zb<;>intro _ h<;>try simp [-Nat.le_zero_eq] at h))
  refine zF [(4,4),(9,9),(11,12),(33,65)] (fun (y:Nat) env H1=>env 33=.pure (.int .i64 y)/\y<=4/\TurnJ L (16*x+4*y) env H1/\H.nx < H1.nx/\H1.get H.nx=.cells true [.pure (.int .i64 px.x),.pure (.int .i64 px.y)]) (fun y=>4 - y) 0 ?_ ?_ ?_ ?_
  ·decide
  ·refine ⟨by simp,by omega,⟨by simp,fst,v,by simp [g4],?_,hsp⟩,by simp,by simp⟩
   rw [zh (by omega),zf hnx];exact gv
  ·simp only [zA];omega
  have hH0:H.nx≠0:=by omega
  have g22:=g0;clear hnx g4 gv hsp g0;rintro y env H1 ⟨g0,hy,⟨hnx,fst,v,g4,gv,hsp⟩,hn1,gp⟩
  by_cases hlt2:y < 4
  ·have iy:=ib.h y hlt2 .i64;have hlI2:(y:Int) < 4:=by omega
   have hTy:=Hide.mk (fun z (hz:z < 4) H=>hTx.h y z hlt2 hz H);have tay:=Hide.mk (fun z (hz:z < 4)=>tax.h y z hlt2 hz);clear hTx tax ib;generalize (zL l.xs[j])[y]=py at *;simp only [Pt.cells] at iy;(repeat' first|simp [*,za]|(apply zb<;>intro _ h<;>try simp [-Nat.le_zero_eq] at h))
   refine zF [(4,4),(11,12),(44,64)] (fun (z:Nat) env H2=>env 44=.pure (.int .i64 z)/\z<=4/\TurnJ L (16*x+4*y+z) env H2/\H1.nx < H2.nx/\H2.get H.nx=.cells true [.pure (.int .i64 px.x),.pure (.int .i64 px.y)]/\H2.get H1.nx=.cells true [.pure (.int .i64 py.x),.pure (.int .i64 py.y)]) (fun z=>4 - z) 0 ?_ ?_ ?_ ?_
   ·decide
   ·refine ⟨by simp,by omega,⟨by simp,fst,v,by simp [g4],?_,hsp⟩,by simp,?_,by simp⟩
    ·rw [zh (by omega),zf hnx];exact gv
    ·rw [zh (by omega),zf hn1];exact gp
   ·simp only [zA];omega
   have hH1:H1.nx≠0:=by omega
   have g33:=g0;clear hnx g4 gv hsp g0 gp;rintro z env H2 ⟨g0,hz,⟨hnx,fst,v,g4,gv,hsp⟩,hn2,gp,gq⟩
   by_cases hlt3:z < 4
   ·have iz:=ic.h z hlt3 .i64;have hlI3:(z:Int) < 4:=by omega
    have hTz:=fun H=>hTy.h z hlt3 H;obtain ⟨hlen,hval⟩:=tay.h z hlt3;clear hTy tay ic;have hst2:=Hide.mk (fun v=>hst.h v _ hlen);rw [hval] at hst2;have hs2:Hide (16*x+4*y+z=0->zdO L 1 ⟨zbg px py (zL l.xs[k])[z],zbg px py (zL l.xs[k])[z]⟩):=⟨fun h0=>by
     have h1:L[0]'(by omega)=zbg px py (zL l.xs[k])[z]:=by rw [<- hval];congr 1;omega
     have:=hs0.h (by omega);rw [h1] at this;exact this⟩
    clear hval hlen hst hs0 hen;generalize zbg px py (zL l.xs[k])[z]=tv at *;generalize (zL l.xs[k])[z]=pz at *;have ne1:H.nx≠H2.nx:=by omega
    have ne2:H1.nx≠H2.nx:=by omega
    have ne3:(0:Nat)≠H2.nx:=by omega
    have lt1:H.nx < H2.nx:=by omega
    simp only [Pt.cells] at iz hTz
    cases fst with
    | true =>
     have hc0:16*x+4*y+z=0:=by simpa using hsp.h
     (repeat' first|simp [*,za]|(apply zb<;>intro _ h<;>try simp [-Nat.le_zero_eq] at h))
     refine ⟨z+1,by omega,by rw [wrap64 (by omega) (by omega)];omega,by omega,⟨by simp;try omega,false,⟨tv,tv⟩,by simp [g4],?_,⟨?_⟩⟩,by omega⟩
     ·simp [hnx]
     ·simp only [Bool.false_eq_true,if_false];rw [show 16*x+4*y+(z+1)=1 by omega];exact hs2.h hc0
    | false =>
     (repeat' first|simp [*,za]|(apply zb<;>intro _ h<;>try simp [-Nat.le_zero_eq] at h))
     refine ⟨z+1,by omega,by rw [wrap64 (by omega) (by omega)];omega,by omega,⟨by simp;try omega,false,⟨min v.lo tv,max v.hi tv⟩,by simp [g4],?_,⟨?_⟩⟩,by omega⟩
     ·simp [hnx]
     ·have:=hst2.h v (by simpa using hsp.h);simp only [Bool.false_eq_true,if_false];rw [<- Nat.add_assoc];exact this
   ·have hz4:z=4:=by omega
    subst hz4;clear hst hs0 hen hTy tay ic;have w1:IntKind.i64.wrap ((y:Int)+1)=(y+1:Nat):=by rw [wrap64 (by omega) (by omega)];omega
    (repeat' first|simp [*,za]|(apply zb<;>intro _ h<;>try simp [-Nat.le_zero_eq] at h))
    refine ⟨y+1,by omega,rfl,by omega,⟨hnx,fst,v,by simp [g4],gv,?_⟩,by omega⟩
    rw [show 16*x+4*(y+1)=16*x+4*y+4 by omega];exact hsp
  ·have hy4:y=4:=by omega
   subst hy4;clear hst hs0 hen hTx tax ic ib;have w1:IntKind.i64.wrap ((x:Int)+1)=(x+1:Nat):=by rw [wrap64 (by omega) (by omega)];omega
   (repeat' first|simp [*,za]|(apply zb<;>intro _ h<;>try simp [-Nat.le_zero_eq] at h))
   refine ⟨x+1,by omega,rfl,by omega,⟨hnx,fst,v,by simp [g4],gv,?_⟩⟩
   rw [show 16*(x+1)=16*x+4*4 by omega];exact hsp
 ·have hx4:x=4:=by omega
  subst hx4;have hT2:v=T/\fst=false:=by
   have h1:=hsp.h
   cases fst with
   | true=>simp at h1
   | false=>exact ⟨hen.h v (by simpa using h1),rfl⟩
  obtain ⟨rfl,rfl⟩:=hT2;clear hst hs0 hen hT' ta ic ib ia hsp;(repeat' first|simp [*,za]|(apply zb<;>intro _ h<;>try simp [-Nat.le_zero_eq] at h))
set_option maxHeartbeats 400000
theorem zo2 (f:Fact) (l:List Box):zcW f l=if f.kind=2 then zac f.span (zcf l[f.a.toNat]! l[f.b.toNat]! l[f.c.toNat]!) else if f.kind=3 then zcd (zaY f.quarter (vecS f l).1 (vecS f l).2).1 (zaY f.quarter (vecS f l).1 (vecS f l).2).2
 else if f.kind=4 then zed f.span (zK (vecS f l).1) (zK (vecS f l).2) else if f.kind=5 then zac f.span (vecS f l).1 else if f.kind=6 then zac f.span (vecS f l).2 else zac f.span (zeW (zK (vecS f l).1) (zK (vecS f l).2)):=rfl
theorem zuu:G.shared 104=false:=by decide
theorem e104 (n:Nat) (f:Fact) (l:Sl Box) (hr:ROk f l.xs):zH G (n+4) 104 [.agg f.cells,l.pv Box.cells 4]=some (.tup [.bool (zcW f l.xs).1,.bool (zcW f l.xs).2]):=by
 refine zy (zw _) rfl g104 rfl ?_
 let r:Reader:=⟨f,l⟩
 have h1:=fun H=>ze (G:=G) (n:=n+3) (H:=H) (caps:=[]) (ps:=[.agg r.cells]) zuY (e120 n r hr);have h2:f.kind=2->_:=fun hk H=>ze (G:=G) (n:=n+3) (H:=H) (caps:=[]) (ps:=[.agg r.cells]) zuv (e121 n r hr hk);have h3:=fun H=>ze (G:=G) (n:=n+3) (H:=H) (caps:=[]) (ps:=[.agg r.cells]) zuG (e122 n r hr);have h4:=fun H=>ze (G:=G) (n:=n+3) (H:=H) (caps:=[]) (ps:=[.agg r.cells]) zu8 (e123 n r hr);have h5:=fun H=>ze (G:=G) (n:=n+3) (H:=H) (caps:=[]) (ps:=[.agg r.cells]) zvb (e124 n r hr);have h6:=fun H=>ze (G:=G) (n:=n+3) (H:=H) (caps:=[]) (ps:=[.agg r.cells]) zu1 (e125 n r hr);have hr':r.f=f/\r.l=l:=⟨rfl,rfl⟩
 have rc:r.cells=[.int .i64 f.id,.int .i64 f.kind,.bool f.nt,.int .i64 f.a,.int .i64 f.b,.int .i64 f.c,.int .i64 f.span.lo,.int .i64 f.span.hi,.int .i64 f.quarter,l.pv Box.cells 4]:=rfl;simp only [rc,List.map_cons,List.map_nil] at h1 h2 h3 h4 h5 h6;rw [hr'.1,hr'.2] at h1 h2 h3 h4 h5 h6;clear rc hr' hr;clear r;rw [zo2];generalize vecS f l.xs=v at *;generalize zac f.span (zcf l.xs[f.a.toNat]! l.xs[f.b.toNat]! l.xs[f.c.toNat]!)=t at *
 by_cases k2:f.kind=2
 ·have h2:=h2 k2;rw [if_pos k2];simp only [k2] at h2;clear h1 h3 h4 h5 h6;(repeat' first|simp [*,za,c104,Fact.cells]|(apply zb<;>intro _ h<;>try simp [-Nat.le_zero_eq] at h))
 rw [if_neg k2];clear h2
 by_cases k3:f.kind=3
 ·rw [if_pos k3];generalize zcd (zaY f.quarter v.1 v.2).1 (zaY f.quarter v.1 v.2).2=q at *;simp only [k3] at h3;clear h1 h4 h5 h6;(repeat' first|simp [*,za,c104,Fact.cells]|(apply zb<;>intro _ h<;>try simp [-Nat.le_zero_eq] at h))
 rw [if_neg k3];clear h3
 by_cases k4:f.kind=4
 ·rw [if_pos k4];generalize zed f.span (zK v.1) (zK v.2)=q at *;simp only [k4] at h4;clear h1 h5 h6;(repeat' first|simp [*,za,c104,Fact.cells]|(apply zb<;>intro _ h<;>try simp [-Nat.le_zero_eq] at h))
 rw [if_neg k4];clear h4
 by_cases k5:f.kind=5
 ·rw [if_pos k5];generalize zac f.span v.1=q at *;simp only [k5] at h5;clear h1 h6;(repeat' first|simp [*,za,c104,Fact.cells]|(apply zb<;>intro _ h<;>try simp [-Nat.le_zero_eq] at h))
 rw [if_neg k5];clear h5
 by_cases k6:f.kind=6
 ·rw [if_pos k6];generalize zac f.span v.2=q at *;simp only [k6] at h6;clear h1;(repeat' first|simp [*,za,c104,Fact.cells]|(apply zb<;>intro _ h<;>try simp [-Nat.le_zero_eq] at h))
 rw [if_neg k6];clear h6;generalize zac f.span (zeW (zK v.1) (zK v.2))=q at *;(repeat' first|simp [*,za,c104,Fact.cells]|(apply zb<;>intro _ h<;>try simp [-Nat.le_zero_eq] at h))
theorem sh60:G.shared 60=false:=by decide
theorem e60 (n:Nat) (f:Fact) (l:Sl Box) (hr:ROk f l.xs):zH G (n+5) 60 [.agg f.cells,l.pv Box.cells 4]=some (.bool (zC f l.xs)):=by
 refine zy (zw _) rfl g60 rfl ?_
 have h1:=fun H=>ze (G:=G) (n:=n+4) (H:=H) (caps:=[]) (ps:=[.agg f.cells,l.pv Box.cells 4]) zuu (e104 n f l hr);simp only [Fact.cells,List.map_cons,List.map_nil] at h1;clear hr;unfold zC;generalize zcW f l.xs=b at *
 cases hn:f.nt
 ·simp only [hn] at h1;(repeat' first|simp [*,za,c60,Fact.cells]|(apply zb<;>intro _ h<;>try simp [-Nat.le_zero_eq] at h))
 ·simp only [hn] at h1;(repeat' first|simp [*,za,c60,Fact.cells]|(apply zb<;>intro _ h<;>try simp [-Nat.le_zero_eq] at h))
def zdv (f:Fact) (l:List Box):Bool:=l.all zay&&zar f l.length
theorem zhk {f:Fact} {l:List Box} (h:zdv f l=true):ROk f l:=by
 unfold zdv zar inB at h;simp only [Bool.and_eq_true,List.all_eq_true,decide_eq_true_eq] at h;obtain ⟨hv,⟨⟨⟨⟨_,ha⟩,hb⟩,_⟩,_⟩,hc⟩:=h
 refine ⟨by omega,by omega,fun hk=>?_,hv⟩
 rw [if_pos hk] at hc;simp only [Bool.and_eq_true,decide_eq_true_eq] at hc;omega
theorem sh61:G.shared 61=false:=by decide
theorem e61 (n:Nat) (f:Fact) (l:Sl Box) (hl:l.xs.length < 1000):zH G (n+3) 61 [.agg f.cells,l.pv Box.cells 4]=some (.bool (zdv f l.xs)):=by
 refine zy (zw _) rfl g61 rfl ?_
 have hf:=fun H=>ze (G:=G) (n:=n+2) (H:=H) (caps:=[]) (ps:=[.agg f.cells,.int .i64 (l.xs.length:Nat)]) sh93 (e93 n f l.xs.length hl);have hv:=Hide.mk fun (b:Box) H=>ze (G:=G) (n:=n+2) (H:=H) (caps:=[]) (ps:=[.agg b.cells]) sh91 (e91 n b);simp only [Fact.cells,List.map_cons,List.map_nil] at hf;(repeat' first|simp [*,za,c61,Fact.cells]|(apply zb<;>intro _ h<;>try simp [-Nat.le_zero_eq] at h))
 refine zF [(4,4),(6,6),(9,16)] (fun (i:Nat) env H=>env 9=.pure (.int .i64 i)/\i<=l.xs.length/\Hide (∀ j (h:j < l.xs.length),j < i->zay l.xs[j]=true)) (fun i=>l.xs.length - i) 0 ?_ ?_ ?_ ?_
 ·decide
 ·exact ⟨by simp,by omega,⟨fun _ _ h=>by omega⟩⟩
 ·simp only [zA];omega
 rintro i env H ⟨g0,hi,hn⟩
 by_cases hlt:i < l.xs.length
 ·have hvi:=hv.h l.xs[i];simp only [Box.cells,Span.cells,List.map_cons,List.map_nil] at hvi;have w1:IntKind.i64.wrap ((i:Int)+1)=(i+1:Nat):=by rw [wrap64 (by omega) (by omega)];omega
  cases hb:zay l.xs[i] with
  | true =>
   have hn':Hide (∀ j (h:j < l.xs.length),j < i+1->zay l.xs[j]=true):=⟨fun j h' hj=>by
    by_cases e:j=i
    ·subst e;exact hb
    ·exact hn.h j h' (by omega)⟩
   rw [hb] at hvi;clear hn hb hf hv;(repeat' first|simp [*,za,Box.cells,Span.cells]|(apply zb<;>intro _ h<;>try simp [-Nat.le_zero_eq] at h));exact ⟨i+1,by omega,rfl,by omega,hn'⟩
  | false =>
   have hfine:zdv f l.xs=false:=by
    unfold zdv;have:l.xs.all zay=false:=by
     rw [List.all_eq_false];exact ⟨_,List.getElem_mem hlt,by simp [hb]⟩
    rw [this,Bool.false_and]
   rw [hb] at hvi;clear hn hb hf hv;(repeat' first|simp [*,za,Box.cells,Span.cells]|(apply zb<;>intro _ h<;>try simp [-Nat.le_zero_eq] at h))
 ·have hil:i=l.xs.length:=by omega
  subst hil;have hfine:zdv f l.xs=zar f l.xs.length:=by
   unfold zdv;have:l.xs.all zay=true:=by
    rw [List.all_eq_true];intro b hb;obtain ⟨j,hj,rfl⟩:=List.mem_iff_getElem.1 hb;exact hn.h j hj hj
   rw [this,Bool.true_and]
  clear hn hv;(repeat' first|simp [*,za]|(apply zb<;>intro _ h<;>try simp [-Nat.le_zero_eq] at h))
theorem sh59:G.shared 59=false:=by decide
theorem e59 (n:Nat) (l:Sl Pt) (hl:l.xs.length < 1000):zH G (n+2) 59 [l.pv Pt.cells 2]=some ((Sl.of (l.xs.map atB)).pv Box.cells 4):=by
 refine zy (zw _) rfl g59 rfl ?_
 have hv:=Hide.mk fun (p:Pt) H=>ze (G:=G) (n:=n+1) (H:=H) (caps:=[]) (ps:=[.agg p.cells]) zsO (e103 n p);(repeat' first|simp [*,za,c59]|(apply zb<;>intro _ h<;>try simp [-Nat.le_zero_eq] at h)|(show wpE 0 (zk ..) ..;refine zx ?_)|(refine zl fun v2 H2 hv2 hnx2 hget2 hnew2 hone2 hcel2=>?_))
 refine zF [(3,3),(5,5),(8,17)] (fun (i:Nat) env H=>env 8=.pure (.int .i64 i)/\i<=l.xs.length/\GrowV Box.cells 4 H (env 3) ((l.xs.map atB).take i)) (fun i=>l.xs.length - i) 0 ?_ ?_ ?_ ?_
 ·decide
 ·exact ⟨by simp,by omega,by simpa using GrowV.nil⟩
 ·simp only [zA];omega
 rintro i env H ⟨g0,hi,hv1⟩;generalize g3:env 3=v at *
 by_cases hlt:i < l.xs.length
 ·have hvi:=hv.h l.xs[i];simp only [Pt.cells,Box.cells,Span.cells,List.map_cons,List.map_nil] at hvi;have w1:IntKind.i64.wrap ((i:Int)+1)=(i+1:Nat):=by rw [wrap64 (by omega) (by omega)];omega
  have htl:((l.xs.map atB).take i).length=i:=by simp;omega
  have hst:=Hide.mk (zi4 (f:=atB) hlt);clear hv;(repeat' first|simp [*,za]|(apply zb<;>intro _ h<;>try simp [-Nat.le_zero_eq] at h)|(show wpE 0 (zk ..) ..;refine zx ?_)|(refine zl fun v2 H2 hv2 hnx2 hget2 hnew2 hone2 hcel2=>?_));exact ⟨i+1,by omega,by omega,by omega,(by assumption:GrowV _ _ _ _ _).cast hst.h⟩
 ·have hil:i=l.xs.length:=by omega
  subst hil;have h1:=(GrowV.cast (m:=l.xs.map atB) hv1 (List.take_of_length_le (by rw [List.length_map];exact Nat.le_refl _))).res (n:=10) (fun _=>rfl);(repeat' first|simp [*,za]|(apply zb<;>intro _ h<;>try simp [-Nat.le_zero_eq] at h)|(show wpE 0 (zk ..) ..;refine zx ?_)|(refine zl fun v2 H2 hv2 hnx2 hget2 hnew2 hone2 hcel2=>?_));exact h1
def zeg (f:Fact) (l:List Pt):Bool:=zdv f (l.map atB) && !zC f (l.map atB)
theorem sh30:G.shared 30=false:=by decide
theorem e30 (n:Nat) (f:Fact) (l:Sl Pt) (hl:l.xs.length < 1000):zH G (n+6) 30 [.agg f.cells,l.pv Pt.cells 2]=some (.bool (zeg f l.xs)):=by
 refine zy (zw _) rfl g30 rfl ?_
 have h0:=fun H=>ze (G:=G) (n:=n+5) (H:=H) (caps:=[]) (ps:=[l.pv Pt.cells 2]) sh59 (e59 (n+3) l hl);have h1:=fun H=>ze (G:=G) (n:=n+5) (H:=H) (caps:=[]) (ps:=[.agg f.cells,(Sl.of (l.xs.map atB)).pv Box.cells 4]) sh61 (e61 (n+2) f (Sl.of (l.xs.map atB)) (by simpa using hl));have h2:=fun hr H=>ze (G:=G) (n:=n+5) (H:=H) (caps:=[]) (ps:=[.agg f.cells,(Sl.of (l.xs.map atB)).pv Box.cells 4]) sh60 (e60 n f (Sl.of (l.xs.map atB)) hr);simp only [List.map_cons,List.map_nil] at h0;simp only [Fact.cells,List.map_cons,List.map_nil,Sl.xs_of] at h1;have h2:=fun hr:ROk f (l.xs.map atB)=>h2 (by simpa using hr);simp only [Fact.cells,List.map_cons,List.map_nil,Sl.xs_of] at h2;unfold zeg
 cases hf:zdv f (l.xs.map atB) with
 | false=>rw [hf] at h1;clear h2;(repeat' first|simp [*,za,c30,Fact.cells]|(apply zb<;>intro _ h<;>try simp [-Nat.le_zero_eq] at h))
 | true =>
  have h2:=h2 (zhk hf);rw [hf] at h1;clear hf;generalize Sl.of (l.xs.map atB)=s at *;(repeat' first|simp [*,za,c30,Fact.cells]|(apply zb<;>intro _ h<;>try simp [-Nat.le_zero_eq] at h))
end Go.Proofs.YtmmhnfghklppiaaGreat.Vm
