/- What the program reads of facts on boxes: vectors, distances, quarters, triangles. What facts say of boxes, as the program computes it. The triangle of a fact: three loops over corners; what a fact says of boxes. What facts say of boxes and points: bare, fails, Can, Must, Fails, Holds of the program. -/
import Derived.Test.YtleggocccaeemaaOk14
import Derived.Test.YtleggocccaeemaaOk15
namespace Go.Proofs.Ytleggocccaeemaa.Vm
open Go
set_option linter.unusedSimpArgs false
set_option linter.unusedVariables false
set_option maxHeartbeats 4000000
structure Reader where
 f:Fact
 l:Sl Box
 deriving Inhabited
@[simp] def Reader.cells (s:Reader):List PV:=[.int .i64 s.f.id,.int .i64 s.f.kind,.bool s.f.nt,.int .i64 s.f.a,.int .i64 s.f.b,.int .i64 s.f.c,.int .i64 s.f.span.lo,.int .i64 s.f.span.hi,.int .i64 s.f.quarter,(s.l).pv Box.cells 4]
@[simp] theorem Reader.eta (s:Reader):(⟨s.f,s.l⟩:Reader)=s:=rfl
structure ROk (f:Fact) (l:List Box):Prop where
 a:0<=f.a/\f.a < l.length
 b:0<=f.b/\f.b < l.length
 c:f.kind=2->0<=f.c/\f.c < l.length
 v:∀ b∈l,zaz b=true
theorem valid_iff {b:Box}:zaz b=true↔(-1048576<=b.x.lo/\b.x.lo<=b.x.hi/\b.x.hi<=1048576)/\(-1048576<=b.y.lo/\b.y.lo<=b.y.hi/\b.y.hi<=1048576):=by
 simp only [zaz,zdL,Bool.and_eq_true,decide_eq_true_eq];omega
theorem getB {l:List Box} {i:Int} (h0:0<=i) (h:i < l.length):∃ n:Nat,∃ hn:n < l.length,i=n/\l[i.toNat]! = l[n]:=by
 obtain ⟨n,rfl⟩:=Int.eq_ofNat_of_zero_le h0;have hn:n < l.length:=by omega
 exact ⟨n,hn,rfl,by simp [hn]⟩
def inS (s:Span) (M:Int):Prop:=-M<=s.lo/\s.lo<=s.hi/\s.hi<=M
theorem sh96:G.shared 96=false:=by decide
theorem e96 (n:Nat) (a b:Span) (ha:inS a 1048576) (hb:inS b 1048576):zI G (n+1) 96 [.agg a.cells,.agg b.cells]=some (.agg (zbI a b).cells):=by
 refine zA (zB _) rfl g96 rfl ?_
 have w1:IntKind.i64.wrap (a.lo - b.hi)=a.lo - b.hi:=wrap64 (by unfold inS at *;omega) (by unfold inS at *;omega);have w2:IntKind.i64.wrap (a.hi - b.lo)=a.hi - b.lo:=wrap64 (by unfold inS at *;omega) (by unfold inS at *;omega);(repeat' first|simp [*,zb,c96,Span.cells,zbI]|(apply za<;>intro _ h<;>try simp [-Nat.le_zero_eq] at h))
theorem sh85:G.shared 85=false:=by decide
theorem e85 (n:Nat) (s:Span) (hs:inS s 4194304):zI G (n+1) 85 [.agg s.cells]=some (.agg (zD s).cells):=by
 refine zA (zB _) rfl g85 rfl ?_
 have w1:IntKind.i64.wrap (0 - s.lo)=- s.lo:=by rw [wrap64 (by unfold inS at *;omega) (by unfold inS at *;omega)];omega
 have w2:IntKind.i64.wrap (0 - s.hi)=- s.hi:=by rw [wrap64 (by unfold inS at *;omega) (by unfold inS at *;omega)];omega
 have w3:IntKind.i64.wrap (- s.lo)=- s.lo:=wrap64 (by unfold inS at *;omega) (by unfold inS at *;omega);have w4:IntKind.i64.wrap (- s.hi)=- s.hi:=wrap64 (by unfold inS at *;omega) (by unfold inS at *;omega);(repeat' first|simp [*,zb,c85,Span.cells,zD]|(apply za<;>intro _ h<;>try simp [-Nat.le_zero_eq] at h))
 all_goals (try (refine ⟨?_,?_⟩<;>(repeat' split)<;>first|rfl|omega|(simp only;omega)))
theorem zlv {a b M N:Int} (ha:-M<=a/\a<=M) (hb:-N<=b/\b<=N):-(M*N)<=a*b/\a*b<=M*N:=by
 have h1:a.natAbs<=M.natAbs:=by omega
 have h2:b.natAbs<=N.natAbs:=by omega
 have h3:(a*b).natAbs<=(M*N).natAbs:=by rw [Int.natAbs_mul,Int.natAbs_mul];exact Nat.mul_le_mul h1 h2
 have h4:0<=M*N:=Int.mul_nonneg (by omega) (by omega);omega
def okP (p:Pt):Prop:=(-1048576<=p.x/\p.x<=1048576)/\(-1048576<=p.y/\p.y<=1048576)
theorem zoL {a b c:Pt} (ha:okP a) (hb:okP b) (hc:okP c):(-4398046511104<=(b.x - a.x)*(c.y - a.y)/\(b.x - a.x)*(c.y - a.y)<=4398046511104)/\(-4398046511104<=(b.y - a.y)*(c.x - a.x)/\(b.y - a.y)*(c.x - a.x)<=4398046511104):=by
 unfold okP at *;exact ⟨zlv (M:=2097152) (N:=2097152) (by omega) (by omega),zlv (M:=2097152) (N:=2097152) (by omega) (by omega)⟩
theorem sh88:G.shared 88=false:=by decide
theorem e88 (n:Nat) (a b c:Pt) (ha:okP a) (hb:okP b) (hc:okP c):zI G (n+1) 88 [.agg a.cells,.agg b.cells,.agg c.cells]=some (.int .i64 (zbe a b c)):=by
 refine zA (zB _) rfl g88 rfl ?_
 obtain ⟨q1,q2⟩:=zoL ha hb hc;unfold okP at *;have w1:IntKind.i64.wrap (b.x - a.x)=b.x - a.x:=wrap64 (by omega) (by omega);have w2:IntKind.i64.wrap (b.y - a.y)=b.y - a.y:=wrap64 (by omega) (by omega);have w3:IntKind.i64.wrap (c.x - a.x)=c.x - a.x:=wrap64 (by omega) (by omega);have w4:IntKind.i64.wrap (c.y - a.y)=c.y - a.y:=wrap64 (by omega) (by omega);have w5:IntKind.i64.wrap ((b.x - a.x)*(c.y - a.y))=(b.x - a.x)*(c.y - a.y):=wrap64 (by omega) (by omega);have w6:IntKind.i64.wrap ((b.y - a.y)*(c.x - a.x))=(b.y - a.y)*(c.x - a.x):=wrap64 (by omega) (by omega);have w7:IntKind.i64.wrap ((b.x - a.x)*(c.y - a.y) - (b.y - a.y)*(c.x - a.x))=(b.x - a.x)*(c.y - a.y) - (b.y - a.y)*(c.x - a.x):=wrap64 (by omega) (by omega);clear ha hb hc q1 q2;(repeat' first|simp [*,zb,c88,Pt.cells,zbe]|(apply za<;>intro _ h<;>try simp [-Nat.le_zero_eq] at h))
theorem ROk.box {f:Fact} {l:List Box} (h:ROk f l) {i:Nat} (hi:i < l.length):inS l[i].x 1048576/\inS l[i].y 1048576:=by
 have:=valid_iff.1 (h.v _ (List.getElem_mem hi));unfold inS;omega
def vecS (f:Fact) (l:List Box):Span×Span:=(zbI l[f.b.toNat]!.x l[f.a.toNat]!.x,zbI l[f.b.toNat]!.y l[f.a.toNat]!.y)
theorem sh52:G.shared 52=false:=by decide
theorem e52 (n:Nat) (p:Pt):zI G (n+1) 52 [.agg p.cells]=some (.agg (atB p).cells):=by
 refine zA (zB _) rfl g52 rfl ?_
 (repeat' first|simp [*,zb,c52,Pt.cells,Box.cells,atB]|(apply za<;>intro _ h<;>try simp [-Nat.le_zero_eq] at h))
theorem sh84:G.shared 84=false:=by decide
theorem e84 (n:Nat) (r:Reader) (hr:ROk r.f r.l.xs):zI G (n+2) 84 [.agg r.cells]=some (.tup [.agg (vecS r.f r.l.xs).1.cells,.agg (vecS r.f r.l.xs).2.cells]):=by
 refine zA (zB _) rfl g84 rfl ?_
 obtain ⟨f,l⟩:=r;simp only at hr;obtain ⟨i,hi,ea,ga⟩:=getB hr.a.1 hr.a.2;obtain ⟨j,hj,eb,gb⟩:=getB hr.b.1 hr.b.2;obtain ⟨h1,h2⟩:=hr.box hi;obtain ⟨h3,h4⟩:=hr.box hj;have hx:∀ H,zM (zq G (n+1)) H (.pure (.func 96 [])) [.pure (.agg (l.xs[j]).x.cells),.pure (.agg (l.xs[i]).x.cells)]=some (.val (.pure (.agg (zbI (l.xs[j]).x (l.xs[i]).x).cells))):=fun H=>zh (caps:=[]) (ps:=[_,_]) sh96 (e96 n _ _ h3 h1);have hy:∀ H,zM (zq G (n+1)) H (.pure (.func 96 [])) [.pure (.agg (l.xs[j]).y.cells),.pure (.agg (l.xs[i]).y.cells)]=some (.val (.pure (.agg (zbI (l.xs[j]).y (l.xs[i]).y).cells))):=fun H=>zh (caps:=[]) (ps:=[_,_]) sh96 (e96 n _ _ h4 h2);simp only [Span.cells] at hx hy;clear h1 h2 h3 h4 hr;unfold vecS;rw [ga,gb];clear ga gb;(repeat' first|simp [*,zb,c84,Reader.cells,Fact.cells,Box.cells,Span.cells]|(apply za<;>intro _ h<;>try simp [-Nat.le_zero_eq] at h))
theorem sh86:G.shared 86=false:=by decide
theorem e86 (n:Nat) (r:Reader) (v:Span):zI G (n+1) 86 [.agg r.cells,.agg v.cells]=some (.tup [.bool (zZ r.f.span v).1,.bool (zZ r.f.span v).2]):=by
 refine zA (zB _) rfl g86 rfl ?_
 (repeat' first|simp [*,zb,c86,Reader.cells,Fact.cells,Span.cells,zZ]|(apply za<;>intro _ h<;>try simp [-Nat.le_zero_eq] at h))
@[simp] theorem d86 (n:Nat) (H:Heap) (r_f_id:Int) (r_f_kind:Int) (r_f_nt:Bool) (r_f_a:Int) (r_f_b:Int) (r_f_c:Int) (r_f_span_lo:Int) (r_f_span_hi:Int) (r_f_quarter:Int) (r_l:Sl Box) (v_lo:Int) (v_hi:Int):zM (zq G (n+1)) H (.pure (.func 86 [])) [.pure (.agg [.int .i64 r_f_id,.int .i64 r_f_kind,.bool r_f_nt,.int .i64 r_f_a,.int .i64 r_f_b,.int .i64 r_f_c,.int .i64 r_f_span_lo,.int .i64 r_f_span_hi,.int .i64 r_f_quarter,(r_l).pv Box.cells 4]),.pure (.agg [.int .i64 v_lo,.int .i64 v_hi])]=some (.val (.pure ((fun (r:Reader)=>(fun (v:Span)=>.tup [.bool (zZ r.f.span v).1,.bool (zZ r.f.span v).2]) (⟨v_lo,v_hi⟩:Span)) (⟨⟨r_f_id,r_f_kind,r_f_nt,r_f_a,r_f_b,r_f_c,⟨r_f_span_lo,r_f_span_hi⟩,r_f_quarter⟩,r_l⟩:Reader)))) :=
 zh (ps:=[_,_]) (caps:=[]) sh86 (e86 n (⟨⟨r_f_id,r_f_kind,r_f_nt,r_f_a,r_f_b,r_f_c,⟨r_f_span_lo,r_f_span_hi⟩,r_f_quarter⟩,r_l⟩:Reader) (⟨v_lo,v_hi⟩:Span))
theorem zkf {a b:Span} (ha:inS a 1048576) (hb:inS b 1048576):inS (zbI a b) 2097152:=by unfold inS zbI at *;simp only;omega
theorem zdp {s:Span} {M N:Int} (h:inS s M) (hMN:M<=N):inS s N:=by unfold inS at *;omega
theorem zeS {f:Fact} {l:List Box} (h:ROk f l):inS (vecS f l).1 2097152/\inS (vecS f l).2 2097152:=by
 obtain ⟨i,hi,ea,ga⟩:=getB h.a.1 h.a.2;obtain ⟨j,hj,eb,gb⟩:=getB h.b.1 h.b.2;unfold vecS;rw [ga,gb];obtain ⟨h1,h2⟩:=h.box hi;obtain ⟨h3,h4⟩:=h.box hj;exact ⟨zkf h3 h1,zkf h4 h2⟩
theorem zg8 {s:Span} (h:inS s 2097152):0<=(zD s).lo/\(zD s).lo<=(zD s).hi/\(zD s).hi<=2097152:=by
 unfold inS at h
 by_cases h1:0<=s.lo
 ·simp only [zD,if_pos h1];omega
 ·by_cases h2:s.hi<=0
  ·simp only [zD,if_neg h1,if_pos h2];omega
  ·simp only [zD,if_neg h1,if_neg h2];omega
theorem zl1 {a:Int} (h0:0<=a) (h:a<=2097152):0<=a*a/\a*a<=4398046511104:=by
 have:=zlv (a:=a) (b:=a) (M:=2097152) (N:=2097152) (by omega) (by omega);exact ⟨Int.mul_nonneg h0 h0,by omega⟩
theorem sh62:G.shared 62=false:=by decide
theorem e62 (n:Nat) (r:Reader) (hr:ROk r.f r.l.xs):zI G (n+3) 62 [.agg r.cells]=some (.tup [.bool (zZ r.f.span (zfg (zD (vecS r.f r.l.xs).1) (zD (vecS r.f r.l.xs).2))).1,.bool (zZ r.f.span (zfg (zD (vecS r.f r.l.xs).1) (zD (vecS r.f r.l.xs).2))).2]):=by
 refine zA (zB _) rfl g62 rfl ?_
 obtain ⟨v1,v2⟩:=zeS hr;have hv:∀ H,zM (zq G (n+2)) H (.pure (.func 84 [])) [.pure (.agg r.cells)]=some (.val (.pure (.tup [.agg (vecS r.f r.l.xs).1.cells,.agg (vecS r.f r.l.xs).2.cells]))):=fun H=>zh (caps:=[]) (ps:=[_]) sh84 (e84 n r hr);have ha:∀ H,zM (zq G (n+2)) H (.pure (.func 85 [])) [.pure (.agg (vecS r.f r.l.xs).1.cells)]=some (.val (.pure (.agg (zD (vecS r.f r.l.xs).1).cells))):=fun H=>zh (caps:=[]) (ps:=[_]) sh85 (e85 (n+1) _ (zdp v1 (by omega)));have hb:∀ H,zM (zq G (n+2)) H (.pure (.func 85 [])) [.pure (.agg (vecS r.f r.l.xs).2.cells)]=some (.val (.pure (.agg (zD (vecS r.f r.l.xs).2).cells))):=fun H=>zh (caps:=[]) (ps:=[_]) sh85 (e85 (n+1) _ (zdp v2 (by omega)));obtain ⟨a1,a2,a3⟩:=zg8 v1;obtain ⟨b1,b2,b3⟩:=zg8 v2;clear v1 v2 hr;generalize (vecS r.f r.l.xs).1=x at *;generalize (vecS r.f r.l.xs).2=y at *;generalize zD x=ax at *;generalize zD y=ay at *;have s1:=zl1 a1 (by omega);have s2:=zl1 (a:=ax.hi) (by omega) a3;have s3:=zl1 b1 (by omega);have s4:=zl1 (a:=ay.hi) (by omega) b3;have w1:IntKind.i64.wrap (ax.lo*ax.lo)=ax.lo*ax.lo:=wrap64 (by omega) (by omega);have w2:IntKind.i64.wrap (ax.hi*ax.hi)=ax.hi*ax.hi:=wrap64 (by omega) (by omega);have w3:IntKind.i64.wrap (ay.lo*ay.lo)=ay.lo*ay.lo:=wrap64 (by omega) (by omega);have w4:IntKind.i64.wrap (ay.hi*ay.hi)=ay.hi*ay.hi:=wrap64 (by omega) (by omega);have w5:IntKind.i64.wrap (ax.lo*ax.lo+ay.lo*ay.lo)=ax.lo*ax.lo+ay.lo*ay.lo:=wrap64 (by omega) (by omega);have w6:IntKind.i64.wrap (ax.hi*ax.hi+ay.hi*ay.hi)=ax.hi*ax.hi+ay.hi*ay.hi:=wrap64 (by omega) (by omega);clear a1 a2 a3 b1 b2 b3 s1 s2 s3 s4;simp only [Span.cells,Reader.cells,Fact.cells] at hv ha hb;(repeat' first|simp [*,zb,c62,Reader.cells,Fact.cells,Span.cells,zfg]|(apply za<;>intro _ h<;>try simp [-Nat.le_zero_eq] at h))
theorem sh65:G.shared 65=false:=by decide
theorem e65 (n:Nat) (r:Reader) (hr:ROk r.f r.l.xs):zI G (n+3) 65 [.agg r.cells]=some (.tup [.bool (zeN r.f.span (zD (vecS r.f r.l.xs).1) (zD (vecS r.f r.l.xs).2)).1,.bool (zeN r.f.span (zD (vecS r.f r.l.xs).1) (zD (vecS r.f r.l.xs).2)).2]):=by
 refine zA (zB _) rfl g65 rfl ?_
 obtain ⟨v1,v2⟩:=zeS hr;have hv:∀ H,zM (zq G (n+2)) H (.pure (.func 84 [])) [.pure (.agg r.cells)]=some (.val (.pure (.tup [.agg (vecS r.f r.l.xs).1.cells,.agg (vecS r.f r.l.xs).2.cells]))):=fun H=>zh (caps:=[]) (ps:=[_]) sh84 (e84 n r hr);have ha:∀ H,zM (zq G (n+2)) H (.pure (.func 85 [])) [.pure (.agg (vecS r.f r.l.xs).1.cells)]=some (.val (.pure (.agg (zD (vecS r.f r.l.xs).1).cells))):=fun H=>zh (caps:=[]) (ps:=[_]) sh85 (e85 (n+1) _ (zdp v1 (by omega)));have hb:∀ H,zM (zq G (n+2)) H (.pure (.func 85 [])) [.pure (.agg (vecS r.f r.l.xs).2.cells)]=some (.val (.pure (.agg (zD (vecS r.f r.l.xs).2).cells))):=fun H=>zh (caps:=[]) (ps:=[_]) sh85 (e85 (n+1) _ (zdp v2 (by omega)));clear v1 v2 hr;generalize (vecS r.f r.l.xs).1=x at *;generalize (vecS r.f r.l.xs).2=y at *;generalize zD x=ax at *;generalize zD y=ay at *;simp only [Span.cells,Reader.cells,Fact.cells] at hv ha hb;(repeat' first|simp [*,zb,c65,Reader.cells,Fact.cells,Span.cells,zeN]|(apply za<;>intro _ h<;>try simp [-Nat.le_zero_eq] at h))
theorem sh66:G.shared 66=false:=by decide
theorem e66 (n:Nat) (r:Reader) (hr:ROk r.f r.l.xs):zI G (n+3) 66 [.agg r.cells]=some (.tup [.bool (zZ r.f.span (vecS r.f r.l.xs).1).1,.bool (zZ r.f.span (vecS r.f r.l.xs).1).2]):=by
 refine zA (zB _) rfl g66 rfl ?_
 obtain ⟨v1,v2⟩:=zeS hr;have hv:∀ H,zM (zq G (n+2)) H (.pure (.func 84 [])) [.pure (.agg r.cells)]=some (.val (.pure (.tup [.agg (vecS r.f r.l.xs).1.cells,.agg (vecS r.f r.l.xs).2.cells]))):=fun H=>zh (caps:=[]) (ps:=[_]) sh84 (e84 n r hr);clear v1 v2 hr;generalize (vecS r.f r.l.xs).1=x at *;generalize (vecS r.f r.l.xs).2=y at *;simp only [Span.cells,Reader.cells,Fact.cells] at hv;(repeat' first|simp [*,zb,c66,Reader.cells,Fact.cells,Span.cells]|(apply za<;>intro _ h<;>try simp [-Nat.le_zero_eq] at h))
theorem sh67:G.shared 67=false:=by decide
theorem e67 (n:Nat) (r:Reader) (hr:ROk r.f r.l.xs):zI G (n+3) 67 [.agg r.cells]=some (.tup [.bool (zZ r.f.span (vecS r.f r.l.xs).2).1,.bool (zZ r.f.span (vecS r.f r.l.xs).2).2]):=by
 refine zA (zB _) rfl g67 rfl ?_
 obtain ⟨v1,v2⟩:=zeS hr;have hv:∀ H,zM (zq G (n+2)) H (.pure (.func 84 [])) [.pure (.agg r.cells)]=some (.val (.pure (.tup [.agg (vecS r.f r.l.xs).1.cells,.agg (vecS r.f r.l.xs).2.cells]))):=fun H=>zh (caps:=[]) (ps:=[_]) sh84 (e84 n r hr);clear v1 v2 hr;generalize (vecS r.f r.l.xs).1=x at *;generalize (vecS r.f r.l.xs).2=y at *;simp only [Span.cells,Reader.cells,Fact.cells] at hv;(repeat' first|simp [*,zb,c67,Reader.cells,Fact.cells,Span.cells]|(apply za<;>intro _ h<;>try simp [-Nat.le_zero_eq] at h))
theorem sh64:G.shared 64=false:=by decide
theorem e64 (n:Nat) (r:Reader) (hr:ROk r.f r.l.xs):zI G (n+3) 64 [.agg r.cells]=some (.tup [.bool (zcP (zaU r.f.quarter (vecS r.f r.l.xs).1 (vecS r.f r.l.xs).2).1 (zaU r.f.quarter (vecS r.f r.l.xs).1 (vecS r.f r.l.xs).2).2).1,.bool (zcP (zaU r.f.quarter (vecS r.f r.l.xs).1 (vecS r.f r.l.xs).2).1 (zaU r.f.quarter (vecS r.f r.l.xs).1 (vecS r.f r.l.xs).2).2).2]):=by
 refine zA (zB _) rfl g64 rfl ?_
 obtain ⟨v1,v2⟩:=zeS hr;have hv:∀ H,zM (zq G (n+2)) H (.pure (.func 84 [])) [.pure (.agg r.cells)]=some (.val (.pure (.tup [.agg (vecS r.f r.l.xs).1.cells,.agg (vecS r.f r.l.xs).2.cells]))):=fun H=>zh (caps:=[]) (ps:=[_]) sh84 (e84 n r hr);have ha:∀ H,zM (zq G (n+2)) H (.pure (.func 85 [])) [.pure (.agg (vecS r.f r.l.xs).1.cells)]=some (.val (.pure (.agg (zD (vecS r.f r.l.xs).1).cells))):=fun H=>zh (caps:=[]) (ps:=[_]) sh85 (e85 (n+1) _ (zdp v1 (by omega)));have hb:∀ H,zM (zq G (n+2)) H (.pure (.func 85 [])) [.pure (.agg (vecS r.f r.l.xs).2.cells)]=some (.val (.pure (.agg (zD (vecS r.f r.l.xs).2).cells))):=fun H=>zh (caps:=[]) (ps:=[_]) sh85 (e85 (n+1) _ (zdp v2 (by omega)));have hx:inS (vecS r.f r.l.xs).1 2097152:=v1;have hy:inS (vecS r.f r.l.xs).2 2097152:=v2;clear v1 v2 hr;generalize (vecS r.f r.l.xs).1=x at *;generalize (vecS r.f r.l.xs).2=y at *;have w1:IntKind.i64.wrap (0 - x.lo)=- x.lo:=by rw [wrap64 (by unfold inS at *;omega) (by unfold inS at *;omega)];omega
 have w2:IntKind.i64.wrap (0 - x.hi)=- x.hi:=by rw [wrap64 (by unfold inS at *;omega) (by unfold inS at *;omega)];omega
 have w3:IntKind.i64.wrap (- x.lo)=- x.lo:=wrap64 (by unfold inS at *;omega) (by unfold inS at *;omega);have w4:IntKind.i64.wrap (- x.hi)=- x.hi:=wrap64 (by unfold inS at *;omega) (by unfold inS at *;omega);have w5:IntKind.i64.wrap (0 - y.lo)=- y.lo:=by rw [wrap64 (by unfold inS at *;omega) (by unfold inS at *;omega)];omega
 have w6:IntKind.i64.wrap (0 - y.hi)=- y.hi:=by rw [wrap64 (by unfold inS at *;omega) (by unfold inS at *;omega)];omega
 have w7:IntKind.i64.wrap (- y.lo)=- y.lo:=wrap64 (by unfold inS at *;omega) (by unfold inS at *;omega);have w8:IntKind.i64.wrap (- y.hi)=- y.hi:=wrap64 (by unfold inS at *;omega) (by unfold inS at *;omega);clear hx hy;generalize hax:zD x=ax at *;generalize hay:zD y=ay at *;simp only [Span.cells,Reader.cells,Fact.cells] at hv ha hb;(repeat' first|simp [*,zb,c64,Reader.cells,Fact.cells,Span.cells]|(apply za<;>intro _ h<;>try simp [-Nat.le_zero_eq] at h))
 all_goals (simp [*,zcP,zaU];done)
def zdk (b:Box):List PV:=(zF b).flatMap Pt.cells
theorem sh87:G.shared 87=false:=by decide
theorem e87 (n:Nat) (b:Box):zI G (n+1) 87 [.agg b.cells]=some (.agg (zdk b)):=by
 refine zA (zB _) rfl g87 rfl ?_
 (repeat' first|simp [*,zb,c87,Box.cells,Span.cells,zF,zdk,Pt.cells]|(apply za<;>intro _ h<;>try simp [-Nat.le_zero_eq] at h))
theorem zde (b:Box) (i:Nat) (hi:i < 4) (k:IntKind):zit 2 4 true (.pure (.agg (zdk b))) (.pure (.int k i))=some (.val (.pure (.agg ((zF b)[i]'hi).cells))):=by
 have:i=0\/i=1\/i=2\/i=3:=by omega
 rcases this with rfl|rfl|rfl|rfl<;>rfl
theorem zfH {b:Box} (h:zaz b=true) (i:Nat) (hi:i < 4):okP ((zF b)[i]'hi):=by
 have hv:=valid_iff.1 h;have:i=0\/i=1\/i=2\/i=3:=by omega
 rcases this with rfl|rfl|rfl|rfl<;>(simp only [zF,okP,List.getElem_cons_zero,List.getElem_cons_succ];omega)
structure TurnJ (L:List Int) (cnt:Nat) (env:Env) (H:Heap):Prop where
 nx:0 < H.nx
 ex:∃ (fst:Bool) (v:Span),env 4=.pure (.bool fst)/\H.get 0=.cells true [.pure (.int .i64 v.lo),.pure (.int .i64 v.hi)]/\Hide (if fst=true then cnt=0 else zc9 L cnt v)
theorem TurnJ.cast {L:List Int} {c c':Nat} {env:Env} {H:Heap} (h:TurnJ L c env H) (e:c=c'):TurnJ L c' env H:=e ▸ h
theorem zod (a b c:Box) (i j k:Nat) (hi:i < 4) (hj:j < 4) (hk:k < 4):∃ h:16*i+4*j+k < (zau a b c).length,(zau a b c)[16*i+4*j+k]=zbe ((zF a)[i]'hi) ((zF b)[j]'hj) ((zF c)[k]'hk):=by
 have h1:=zm6 a b c i j k hi hj hk;obtain ⟨h,e⟩:=List.getElem?_eq_some_iff.1 h1;exact ⟨h,e⟩
theorem sh63:G.shared 63=false:=by decide
theorem e63 (n:Nat) (r:Reader) (hr:ROk r.f r.l.xs) (hk:r.f.kind=2):zI G (n+3) 63 [.agg r.cells]=some (.tup [.bool (zZ r.f.span (zcg r.l.xs[r.f.a.toNat]! r.l.xs[r.f.b.toNat]! r.l.xs[r.f.c.toNat]!)).1,.bool (zZ r.f.span (zcg r.l.xs[r.f.a.toNat]! r.l.xs[r.f.b.toNat]! r.l.xs[r.f.c.toNat]!)).2]):=by
 refine zA (zB _) rfl g63 rfl ?_
 obtain ⟨f,l⟩:=r;simp only at hr hk;obtain ⟨i,hi,ea,ga⟩:=getB hr.a.1 hr.a.2;obtain ⟨j,hj,eb,gb⟩:=getB hr.b.1 hr.b.2;obtain ⟨k,hk,ec,gc⟩:=getB (hr.c hk).1 (hr.c hk).2;have va:zaz l.xs[i]=true:=hr.v _ (List.getElem_mem hi);have vb:zaz l.xs[j]=true:=hr.v _ (List.getElem_mem hj);have vc:zaz l.xs[k]=true:=hr.v _ (List.getElem_mem hk);have ca:=zh (G:=G) (n:=n+2) (H:=Heap.empty) (caps:=[]) (ps:=[.agg (l.xs[i]).cells]) sh87 (e87 (n+1) l.xs[i]);have qa:∀ H,zM (zq G (n+2)) H (.pure (.func 87 [])) [.pure (.agg (l.xs[i]).cells)]=some (.val (.pure (.agg (zdk l.xs[i])))):=fun H=>zh (caps:=[]) (ps:=[_]) sh87 (e87 (n+1) _);have qb:∀ H,zM (zq G (n+2)) H (.pure (.func 87 [])) [.pure (.agg (l.xs[j]).cells)]=some (.val (.pure (.agg (zdk l.xs[j])))):=fun H=>zh (caps:=[]) (ps:=[_]) sh87 (e87 (n+1) _);have qc:∀ H,zM (zq G (n+2)) H (.pure (.func 87 [])) [.pure (.agg (l.xs[k]).cells)]=some (.val (.pure (.agg (zdk l.xs[k])))):=fun H=>zh (caps:=[]) (ps:=[_]) sh87 (e87 (n+1) _);clear ca;have hT:∀ (x y z:Nat) (hx:x < 4) (hy:y < 4) (hz:z < 4) H,zM (zq G (n+2)) H (.pure (.func 88 [])) [.pure (.agg ((zF l.xs[i])[x]'hx).cells),.pure (.agg ((zF l.xs[j])[y]'hy).cells),.pure (.agg ((zF l.xs[k])[z]'hz).cells)]=some (.val (.pure (.int .i64 (zbe ((zF l.xs[i])[x]'hx) ((zF l.xs[j])[y]'hy) ((zF l.xs[k])[z]'hz))))):=fun x y z hx hy hz H =>
  zh (caps:=[]) (ps:=[_,_,_]) sh88 (e88 (n+1) _ _ _ (zfH va x hx) (zfH vb y hy) (zfH vc z hz))
 have hT':=Hide.mk hT;have ta:=Hide.mk (zod l.xs[i] l.xs[j] l.xs[k]);have hen:Hide (∀ v,zc9 (zau l.xs[i] l.xs[j] l.xs[k]) 64 v->v=zcg l.xs[i] l.xs[j] l.xs[k]):=⟨fun v h=>zlq (by rw [ziF];exact h)⟩
 have hst:Hide (∀ v cnt (h:cnt < (zau l.xs[i] l.xs[j] l.xs[k]).length),zc9 (zau l.xs[i] l.xs[j] l.xs[k]) cnt v->zc9 (zau l.xs[i] l.xs[j] l.xs[k]) (cnt+1) ⟨min v.lo (zau l.xs[i] l.xs[j] l.xs[k])[cnt],max v.hi (zau l.xs[i] l.xs[j] l.xs[k])[cnt]⟩):=⟨fun v cnt h h2=>zjs h h2⟩
 have hs0:Hide (∀ (h:0 < (zau l.xs[i] l.xs[j] l.xs[k]).length),zc9 (zau l.xs[i] l.xs[j] l.xs[k]) 1 ⟨(zau l.xs[i] l.xs[j] l.xs[k])[0],(zau l.xs[i] l.xs[j] l.xs[k])[0]⟩):=⟨fun h=>ziA h⟩
 rw [ga,gb,gc];clear ga gb gc hr hT;have ia:=Hide.mk (zde l.xs[i]);have ib:=Hide.mk (zde l.xs[j]);have ic:=Hide.mk (zde l.xs[k]);generalize zcg l.xs[i] l.xs[j] l.xs[k]=T at *;generalize zau l.xs[i] l.xs[j] l.xs[k]=L at *;clear va vb vc;simp only [Box.cells,Span.cells] at qa qb qc;(repeat' first|simp [*,zb,c63,Reader.cells,Fact.cells,Box.cells,Span.cells]|(apply za<;>intro _ h<;>try simp [-Nat.le_zero_eq] at h))
 refine zz [(4,4),(7,7),(9,9),(11,12),(22,66)] (fun (x:Nat) env H=>env 22=.pure (.int .i64 x)/\x<=4/\TurnJ L (16*x) env H) (fun x=>4 - x) 0 ?_ ?_ ?_ ?_
 ·decide
 ·refine ⟨by simp,by omega,⟨by simp,true,⟨0,0⟩,by simp,by simp,⟨by simp⟩⟩⟩
 ·simp only [zx];omega
 rintro x env H ⟨g0,hx,⟨hnx,fst,v,g4,gv,hsp⟩⟩
 by_cases hlt:x < 4
 ·have ix:=ia.h x hlt .i64;have hlI:(x:Int) < 4:=by omega
  have hTx:=Hide.mk (fun y z (hy:y < 4) (hz:z < 4) H=>hT'.h x y z hlt hy hz H);have tax:=Hide.mk (fun y z (hy:y < 4) (hz:z < 4)=>ta.h x y z hlt hy hz);clear hT' ta ia;generalize (zF l.xs[i])[x]=px at *;simp only [Pt.cells] at ix;(repeat' first|simp [*,zb]|(apply za<;>intro _ h<;>try simp [-Nat.le_zero_eq] at h))
  refine zz [(4,4),(9,9),(11,12),(33,65)] (fun (y:Nat) env H1=>env 33=.pure (.int .i64 y)/\y<=4/\TurnJ L (16*x+4*y) env H1/\H.nx < H1.nx/\H1.get H.nx=.cells true [.pure (.int .i64 px.x),.pure (.int .i64 px.y)]) (fun y=>4 - y) 0 ?_ ?_ ?_ ?_
  ·decide
  ·refine ⟨by simp,by omega,⟨by simp,fst,v,by simp [g4],?_,hsp⟩,by simp,by simp⟩
   rw [zg (by omega),zf hnx];exact gv
  ·simp only [zx];omega
  have hH0:H.nx≠0:=by omega
  have g22:=g0;clear hnx g4 gv hsp g0;rintro y env H1 ⟨g0,hy,⟨hnx,fst,v,g4,gv,hsp⟩,hn1,gp⟩
  by_cases hlt2:y < 4
  ·have iy:=ib.h y hlt2 .i64;have hlI2:(y:Int) < 4:=by omega
   have hTy:=Hide.mk (fun z (hz:z < 4) H=>hTx.h y z hlt2 hz H);have tay:=Hide.mk (fun z (hz:z < 4)=>tax.h y z hlt2 hz);clear hTx tax ib;generalize (zF l.xs[j])[y]=py at *;simp only [Pt.cells] at iy;(repeat' first|simp [*,zb]|(apply za<;>intro _ h<;>try simp [-Nat.le_zero_eq] at h))
   refine zz [(4,4),(11,12),(44,64)] (fun (z:Nat) env H2=>env 44=.pure (.int .i64 z)/\z<=4/\TurnJ L (16*x+4*y+z) env H2/\H1.nx < H2.nx/\H2.get H.nx=.cells true [.pure (.int .i64 px.x),.pure (.int .i64 px.y)]/\H2.get H1.nx=.cells true [.pure (.int .i64 py.x),.pure (.int .i64 py.y)]) (fun z=>4 - z) 0 ?_ ?_ ?_ ?_
   ·decide
   ·refine ⟨by simp,by omega,⟨by simp,fst,v,by simp [g4],?_,hsp⟩,by simp,?_,by simp⟩
    ·rw [zg (by omega),zf hnx];exact gv
    ·rw [zg (by omega),zf hn1];exact gp
   ·simp only [zx];omega
   have hH1:H1.nx≠0:=by omega
   have g33:=g0;clear hnx g4 gv hsp g0 gp;rintro z env H2 ⟨g0,hz,⟨hnx,fst,v,g4,gv,hsp⟩,hn2,gp,gq⟩
   by_cases hlt3:z < 4
   ·have iz:=ic.h z hlt3 .i64;have hlI3:(z:Int) < 4:=by omega
    have hTz:=fun H=>hTy.h z hlt3 H;obtain ⟨hlen,hval⟩:=tay.h z hlt3;clear hTy tay ic;have hst2:=Hide.mk (fun v=>hst.h v _ hlen);rw [hval] at hst2;have hs2:Hide (16*x+4*y+z=0->zc9 L 1 ⟨zbe px py (zF l.xs[k])[z],zbe px py (zF l.xs[k])[z]⟩):=⟨fun h0=>by
     have h1:L[0]'(by omega)=zbe px py (zF l.xs[k])[z]:=by rw [<- hval];congr 1;omega
     have:=hs0.h (by omega);rw [h1] at this;exact this⟩
    clear hval hlen hst hs0 hen;generalize zbe px py (zF l.xs[k])[z]=tv at *;generalize (zF l.xs[k])[z]=pz at *;have ne1:H.nx≠H2.nx:=by omega
    have ne2:H1.nx≠H2.nx:=by omega
    have ne3:(0:Nat)≠H2.nx:=by omega
    have lt1:H.nx < H2.nx:=by omega
    simp only [Pt.cells] at iz hTz
    cases fst with
    | true =>
     have hc0:16*x+4*y+z=0:=by simpa using hsp.h
     (repeat' first|simp [*,zb]|(apply za<;>intro _ h<;>try simp [-Nat.le_zero_eq] at h))
     refine ⟨z+1,by omega,by rw [wrap64 (by omega) (by omega)];omega,by omega,⟨by simp;try omega,false,⟨tv,tv⟩,by simp [g4],?_,⟨?_⟩⟩,by omega⟩
     ·simp [hnx]
     ·simp only [Bool.false_eq_true,if_false];rw [show 16*x+4*y+(z+1)=1 by omega];exact hs2.h hc0
    | false =>
     (repeat' first|simp [*,zb]|(apply za<;>intro _ h<;>try simp [-Nat.le_zero_eq] at h))
     refine ⟨z+1,by omega,by rw [wrap64 (by omega) (by omega)];omega,by omega,⟨by simp;try omega,false,⟨min v.lo tv,max v.hi tv⟩,by simp [g4],?_,⟨?_⟩⟩,by omega⟩
     ·simp [hnx]
     ·have:=hst2.h v (by simpa using hsp.h);simp only [Bool.false_eq_true,if_false];rw [<- Nat.add_assoc];exact this
   ·have hz4:z=4:=by omega
    subst hz4;clear hst hs0 hen hTy tay ic;have w1:IntKind.i64.wrap ((y:Int)+1)=(y+1:Nat):=by rw [wrap64 (by omega) (by omega)];omega
    (repeat' first|simp [*,zb]|(apply za<;>intro _ h<;>try simp [-Nat.le_zero_eq] at h))
    refine ⟨y+1,by omega,rfl,by omega,⟨hnx,fst,v,by simp [g4],gv,?_⟩,by omega⟩
    rw [show 16*x+4*(y+1)=16*x+4*y+4 by omega];exact hsp
  ·have hy4:y=4:=by omega
   subst hy4;clear hst hs0 hen hTx tax ic ib;have w1:IntKind.i64.wrap ((x:Int)+1)=(x+1:Nat):=by rw [wrap64 (by omega) (by omega)];omega
   (repeat' first|simp [*,zb]|(apply za<;>intro _ h<;>try simp [-Nat.le_zero_eq] at h))
   refine ⟨x+1,by omega,rfl,by omega,⟨hnx,fst,v,by simp [g4],gv,?_⟩⟩
   rw [show 16*(x+1)=16*x+4*4 by omega];exact hsp
 ·have hx4:x=4:=by omega
  subst hx4;have hT2:v=T/\fst=false:=by
   have h1:=hsp.h
   cases fst with
   | true=>simp at h1
   | false=>exact ⟨hen.h v (by simpa using h1),rfl⟩
  obtain ⟨rfl,rfl⟩:=hT2;clear hst hs0 hen hT' ta ic ib ia hsp;(repeat' first|simp [*,zb]|(apply za<;>intro _ h<;>try simp [-Nat.le_zero_eq] at h))
set_option maxHeartbeats 400000
theorem zmn (f:Fact) (l:List Box):zd1 f l=if f.kind=2 then zZ f.span (zcg l[f.a.toNat]! l[f.b.toNat]! l[f.c.toNat]!) else if f.kind=3 then zcP (zaU f.quarter (vecS f l).1 (vecS f l).2).1 (zaU f.quarter (vecS f l).1 (vecS f l).2).2
 else if f.kind=4 then zeN f.span (zD (vecS f l).1) (zD (vecS f l).2) else if f.kind=5 then zZ f.span (vecS f l).1 else if f.kind=6 then zZ f.span (vecS f l).2 else zZ f.span (zfg (zD (vecS f l).1) (zD (vecS f l).2)):=rfl
theorem sh53:G.shared 53=false:=by decide
theorem e53 (n:Nat) (f:Fact) (l:Sl Box) (hr:ROk f l.xs):zI G (n+4) 53 [.agg f.cells,l.pv Box.cells 4]=some (.tup [.bool (zd1 f l.xs).1,.bool (zd1 f l.xs).2]):=by
 refine zA (zB _) rfl g53 rfl ?_
 let r:Reader:=⟨f,l⟩
 have h1:=fun H=>zh (G:=G) (n:=n+3) (H:=H) (caps:=[]) (ps:=[.agg r.cells]) sh62 (e62 n r hr);have h2:f.kind=2->_:=fun hk H=>zh (G:=G) (n:=n+3) (H:=H) (caps:=[]) (ps:=[.agg r.cells]) sh63 (e63 n r hr hk);have h3:=fun H=>zh (G:=G) (n:=n+3) (H:=H) (caps:=[]) (ps:=[.agg r.cells]) sh64 (e64 n r hr);have h4:=fun H=>zh (G:=G) (n:=n+3) (H:=H) (caps:=[]) (ps:=[.agg r.cells]) sh65 (e65 n r hr);have h5:=fun H=>zh (G:=G) (n:=n+3) (H:=H) (caps:=[]) (ps:=[.agg r.cells]) sh66 (e66 n r hr);have h6:=fun H=>zh (G:=G) (n:=n+3) (H:=H) (caps:=[]) (ps:=[.agg r.cells]) sh67 (e67 n r hr);have hr':r.f=f/\r.l=l:=⟨rfl,rfl⟩
 have rc:r.cells=[.int .i64 f.id,.int .i64 f.kind,.bool f.nt,.int .i64 f.a,.int .i64 f.b,.int .i64 f.c,.int .i64 f.span.lo,.int .i64 f.span.hi,.int .i64 f.quarter,l.pv Box.cells 4]:=rfl;simp only [rc,List.map_cons,List.map_nil] at h1 h2 h3 h4 h5 h6;rw [hr'.1,hr'.2] at h1 h2 h3 h4 h5 h6;clear rc hr' hr;clear r;rw [zmn];generalize vecS f l.xs=v at *;generalize zZ f.span (zcg l.xs[f.a.toNat]! l.xs[f.b.toNat]! l.xs[f.c.toNat]!)=t at *
 by_cases k2:f.kind=2
 ·have h2:=h2 k2;rw [if_pos k2];simp only [k2] at h2;clear h1 h3 h4 h5 h6;(repeat' first|simp [*,zb,c53,Fact.cells]|(apply za<;>intro _ h<;>try simp [-Nat.le_zero_eq] at h))
 rw [if_neg k2];clear h2
 by_cases k3:f.kind=3
 ·rw [if_pos k3];generalize zcP (zaU f.quarter v.1 v.2).1 (zaU f.quarter v.1 v.2).2=q at *;simp only [k3] at h3;clear h1 h4 h5 h6;(repeat' first|simp [*,zb,c53,Fact.cells]|(apply za<;>intro _ h<;>try simp [-Nat.le_zero_eq] at h))
 rw [if_neg k3];clear h3
 by_cases k4:f.kind=4
 ·rw [if_pos k4];generalize zeN f.span (zD v.1) (zD v.2)=q at *;simp only [k4] at h4;clear h1 h5 h6;(repeat' first|simp [*,zb,c53,Fact.cells]|(apply za<;>intro _ h<;>try simp [-Nat.le_zero_eq] at h))
 rw [if_neg k4];clear h4
 by_cases k5:f.kind=5
 ·rw [if_pos k5];generalize zZ f.span v.1=q at *;simp only [k5] at h5;clear h1 h6;(repeat' first|simp [*,zb,c53,Fact.cells]|(apply za<;>intro _ h<;>try simp [-Nat.le_zero_eq] at h))
 rw [if_neg k5];clear h5
 by_cases k6:f.kind=6
 ·rw [if_pos k6];generalize zZ f.span v.2=q at *;simp only [k6] at h6;clear h1;(repeat' first|simp [*,zb,c53,Fact.cells]|(apply za<;>intro _ h<;>try simp [-Nat.le_zero_eq] at h))
 rw [if_neg k6];clear h6;generalize zZ f.span (zfg (zD v.1) (zD v.2))=q at *;(repeat' first|simp [*,zb,c53,Fact.cells]|(apply za<;>intro _ h<;>try simp [-Nat.le_zero_eq] at h))
theorem sh33:G.shared 33=false:=by decide
theorem e33 (n:Nat) (f:Fact) (l:Sl Box) (hr:ROk f l.xs):zI G (n+5) 33 [.agg f.cells,l.pv Box.cells 4]=some (.bool (zQ f l.xs)):=by
 refine zA (zB _) rfl g33 rfl ?_
 have h1:=fun H=>zh (G:=G) (n:=n+4) (H:=H) (caps:=[]) (ps:=[.agg f.cells,l.pv Box.cells 4]) sh53 (e53 n f l hr);simp only [Fact.cells,List.map_cons,List.map_nil] at h1;clear hr;unfold zQ;generalize zd1 f l.xs=b at *
 cases hn:f.nt
 ·simp only [hn] at h1;(repeat' first|simp [*,zb,c33,Fact.cells]|(apply za<;>intro _ h<;>try simp [-Nat.le_zero_eq] at h))
 ·simp only [hn] at h1;(repeat' first|simp [*,zb,c33,Fact.cells]|(apply za<;>intro _ h<;>try simp [-Nat.le_zero_eq] at h))
def zlT (f:Fact) (l:List Box):Bool:=l.all zaz&&zaB f l.length
theorem zlR {f:Fact} {l:List Box} (h:zlT f l=true):ROk f l:=by
 unfold zlT zaB inB at h;simp only [Bool.and_eq_true,List.all_eq_true,decide_eq_true_eq] at h;obtain ⟨hv,⟨⟨⟨⟨_,ha⟩,hb⟩,_⟩,_⟩,hc⟩:=h
 refine ⟨by omega,by omega,fun hk=>?_,hv⟩
 rw [if_pos hk] at hc;simp only [Bool.and_eq_true,decide_eq_true_eq] at hc;omega
theorem sh32:G.shared 32=false:=by decide
theorem e32 (n:Nat) (l:Sl Pt) (hl:l.xs.length < 1000):zI G (n+2) 32 [l.pv Pt.cells 2]=some ((Sl.of (l.xs.map atB)).pv Box.cells 4):=by
 refine zA (zB _) rfl g32 rfl ?_
 have hv:=Hide.mk fun (p:Pt) H=>zh (G:=G) (n:=n+1) (H:=H) (caps:=[]) (ps:=[.agg p.cells]) sh52 (e52 n p);(repeat' first|simp [*,zb,c32]|(apply za<;>intro _ h<;>try simp [-Nat.le_zero_eq] at h)|(show wpE 0 (zi ..) ..;refine zt ?_)|(refine zk fun v2 H2 hv2 hnx2 hget2 hnew2 hone2 hcel2=>?_))
 refine zz [(3,3),(5,5),(8,17)] (fun (i:Nat) env H=>env 8=.pure (.int .i64 i)/\i<=l.xs.length/\GrowV Box.cells 4 H (env 3) ((l.xs.map atB).take i)) (fun i=>l.xs.length - i) 0 ?_ ?_ ?_ ?_
 ·decide
 ·exact ⟨by simp,by omega,by simpa using GrowV.nil⟩
 ·simp only [zx];omega
 rintro i env H ⟨g0,hi,hv1⟩;generalize g3:env 3=v at *
 by_cases hlt:i < l.xs.length
 ·have hvi:=hv.h l.xs[i];simp only [Pt.cells,Box.cells,Span.cells,List.map_cons,List.map_nil] at hvi;have w1:IntKind.i64.wrap ((i:Int)+1)=(i+1:Nat):=by rw [wrap64 (by omega) (by omega)];omega
  have htl:((l.xs.map atB).take i).length=i:=by simp;omega
  have hst:=Hide.mk (zhB (f:=atB) hlt);clear hv;(repeat' first|simp [*,zb]|(apply za<;>intro _ h<;>try simp [-Nat.le_zero_eq] at h)|(show wpE 0 (zi ..) ..;refine zt ?_)|(refine zk fun v2 H2 hv2 hnx2 hget2 hnew2 hone2 hcel2=>?_));exact ⟨i+1,by omega,by omega,by omega,(by assumption:GrowV _ _ _ _ _).cast hst.h⟩
 ·have hil:i=l.xs.length:=by omega
  subst hil;have h1:=(GrowV.cast (m:=l.xs.map atB) hv1 (List.take_of_length_le (by rw [List.length_map];exact Nat.le_refl _))).res (n:=10) (fun _=>rfl);(repeat' first|simp [*,zb]|(apply za<;>intro _ h<;>try simp [-Nat.le_zero_eq] at h)|(show wpE 0 (zi ..) ..;refine zt ?_)|(refine zk fun v2 H2 hv2 hnx2 hget2 hnew2 hone2 hcel2=>?_));exact h1
end Go.Proofs.Ytleggocccaeemaa.Vm
