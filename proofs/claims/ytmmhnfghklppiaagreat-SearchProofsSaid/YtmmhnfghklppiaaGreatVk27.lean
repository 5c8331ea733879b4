/- What facts say of boxes, as the specification computes it. -/
import Derived.Test.YtmmhnfghklppiaaGreatVk16
import Derived.Test.YtmmhnfghklppiaaGreatVk17
namespace Go.Proofs.YtmmhnfghklppiaaGreat.Vm
open Go
set_option linter.unusedSimpArgs false
set_option linter.unusedVariables false
set_option maxHeartbeats 1000000
theorem zp8 (a:Nat):Int.tmod (a:Int) 2=((a % 2:Nat):Int):=rfl
theorem zsY (a:Nat):Int.tdiv (a:Int) 2=((a / 2:Nat):Int):=rfl
theorem zs1 (a:Nat):Int.tdiv (a:Int) 4=((a / 4:Nat):Int):=rfl
theorem ztA (a:Nat):Int.tdiv (a:Int) 8=((a / 8:Nat):Int):=rfl
theorem zrH (a:Nat):Int.tdiv (a:Int) 16=((a / 16:Nat):Int):=rfl
theorem zrN (a:Nat):Int.tdiv (a:Int) 32=((a / 32:Nat):Int):=rfl
theorem sh57:G.shared 57=false:=by decide
theorem e57 (n:Nat) (s:Span) (k:Nat):zF G (n+1) 57 [.agg s.cells,.int .i64 k]=some (.int .i64 (bD s k)):=by
 refine zx (zw _) rfl g57 rfl ?_
 have h2:k % 2=0\/k % 2=1:=by omega
 unfold bD;rcases h2 with h2|h2
 .have h:Int.tmod (k:Int) 2=0:=by rw [zp8,h2];rfl
  rw [if_pos h2];simp [*,za,c57,Span.cells]
 .have h:Int.tmod (k:Int) 2=1:=by rw [zp8,h2];rfl
  rw [if_neg (by omega)];simp [*,za,c57,Span.cells]
theorem OP {s:Span} {M:Int} (h:bU s M) (k:Nat):-M<=bD s k/\bD s k<=M:=by
 unfold bD bU at *
 split<;>omega
theorem zkH {a b c:Box} {k:Nat} {v:Span} (h:LU a b c (max k 1) v):LU a b c (max (k+1) 1) ⟨min v.lo (vP a b c k),max v.hi (vP a b c k)⟩:=by
 by_cases hk:k=0
 .subst hk;have h0:=zf8 a b c;have e:v=⟨vP a b c 0,vP a b c 0⟩:=jY.unique h h0;subst e
  simpa using h0
 .rw [show max (k+1) 1=max k 1+1 by omega,show max k 1=k by omega];rw [show max k 1=k by omega] at h;exact zk8 h
theorem zuN:G.shared 154=false:=by decide
theorem e154 (n:Nat) (a b c:Box) (ha:ny a=true) (hb:ny b=true) (hc:ny c=true):zF G (n+3) 154 [.agg a.cells,.agg b.cells,.agg c.cells]=some (.agg (qC a b c).cells):=by
 refine zx (zw _) rfl g154 rfl ?_
 have va:=aJ.1 ha;have vb:=aJ.1 hb;have vc:=aJ.1 hc;have sax:bU a.x 1048576:=by unfold bU;omega
 have say:bU a.y 1048576:=by unfold bU;omega
 have sbx:bU b.x 1048576:=by unfold bU;omega
 have sby:bU b.y 1048576:=by unfold bU;omega
 have scx:bU c.x 1048576:=by unfold bU;omega
 have scy:bU c.y 1048576:=by unfold bU;omega
 clear va vb vc ha hb hc;have hT:∀ i j x y z w H,zD (zn G (n+2)) H (.pure (.func 157 [])) [.pure (.int .i64 (bD a.x i)),.pure (.int .i64 (bD a.y j)),.pure (.int .i64 (bD b.x x)),.pure (.int .i64 (bD b.y y)),.pure (.int .i64 (bD c.x z)),.pure (.int .i64 (bD c.y w))]=some (.val (.pure (.int .i64 (om ⟨bD a.x i,bD a.y j⟩ ⟨bD b.x x,bD b.y y⟩ ⟨bD c.x z,bD c.y w⟩)))):=fun i j x y z w H =>
  zg (caps:=[]) (ps:=[_,_,_,_,_,_]) zu7 (e157 (n+1) _ _ _ _ _ _ ⟨OP sax i,OP say j⟩ ⟨OP sbx x,OP sby y⟩ ⟨OP scx z,OP scy w⟩)
 have hE:∀ (s:Span) (k:Nat) H,zD (zn G (n+2)) H (.pure (.func 57 [])) [.pure (.agg s.cells),.pure (.int .i64 k)]=some (.val (.pure (.int .i64 (bD s k)))):=fun s k H=>zg (caps:=[]) (ps:=[_,_]) sh57 (e57 (n+1) s k);clear sax say sbx sby scx scy;have J8:=hT 0 0 0 0 0 0;have k0:om ⟨bD a.x 0,bD a.y 0⟩ ⟨bD b.x 0,bD b.y 0⟩ ⟨bD c.x 0,bD c.y 0⟩=vP a b c 0:=rfl;rw [k0] at J8;simp only [bD,Nat.zero_mod,if_true] at J8;have hT:=Hide.mk hT;have hE:=Hide.mk hE;have hs:=zf8 a b c;generalize hk0:vP a b c 0=t0 at *;clear k0 hk0;have hs:=Hide.mk hs;(repeat' first|simp [*,za,c154,Box.cells,Span.cells]|(apply zb<;>intro _ h<;>try simp [-Nat.le_zero_eq] at h))
 refine zN [(9,10),(33,76)] (fun (k:Nat) env H=>env 9=.pure (.int .i64 k)/\k<=64/\H.nx=2/\H.get 0=.cells true [.pure (.int .i64 0),.pure (.int .i64 0)]/\∃ v:Span,H.get 1=.cells true [.pure (.int .i64 v.lo),.pure (.int .i64 v.hi)]/\Hide (LU a b c (max k 1) v)) (fun k=>64 - k) 0 ?_ ?_ ?_ ?_
 .decide
 .exact ⟨by simp,by omega,by simp,by simp,⟨t0,t0⟩,by simp,hs⟩
 .simp only [zI];omega
 clear hs J8;rintro k env H ⟨g9,hk,fD,g0,v,gv,hv⟩
 by_cases aK:k < 64
 .have hlI:(k:Int) < 64:=by omega
  have w1:IntKind.i64.wrap ((k:Int)+1)=(k+1:Nat):=by rw [wrap64 (by omega) (by omega)];omega
  have q1:=zsY k;have q2:=zs1 k;have q3:=ztA k;have q4:=zrH k;have q5:=zrN k;have u1:IntKind.i64.wrap ((k / 2:Nat):Int)=(k / 2:Nat):=wrap64 (by omega) (by omega);have u2:IntKind.i64.wrap ((k / 4:Nat):Int)=(k / 4:Nat):=wrap64 (by omega) (by omega);have u3:IntKind.i64.wrap ((k / 8:Nat):Int)=(k / 8:Nat):=wrap64 (by omega) (by omega);have u4:IntKind.i64.wrap ((k / 16:Nat):Int)=(k / 16:Nat):=wrap64 (by omega) (by omega);have u5:IntKind.i64.wrap ((k / 32:Nat):Int)=(k / 32:Nat):=wrap64 (by omega) (by omega);have e1:=hE.h a.x k;have e2:=hE.h a.y (k / 2);have e3:=hE.h b.x (k / 4);have e4:=hE.h b.y (k / 8);have e5:=hE.h c.x (k / 16);have e6:=hE.h c.y (k / 32);have hTk:=hT.h k (k / 2) (k / 4) (k / 8) (k / 16) (k / 32);have k0:om ⟨bD a.x k,bD a.y (k / 2)⟩ ⟨bD b.x (k / 4),bD b.y (k / 8)⟩ ⟨bD c.x (k / 16),bD c.y (k / 32)⟩=vP a b c k:=rfl;rw [k0] at hTk;have hm:=Hide.mk (zkH hv.h);clear hE hT k0 hv;generalize vP a b c k=tk at *;generalize bD a.x k=x1 at *;generalize bD a.y (k / 2)=x2 at *;generalize bD b.x (k / 4)=x3 at *;generalize bD b.y (k / 8)=x4 at *;generalize bD c.x (k / 16)=x5 at *;generalize bD c.y (k / 32)=x6 at *;generalize k / 2=y2 at *;generalize k / 4=y3 at *;generalize k / 8=y4 at *;generalize k / 16=y5 at *;generalize k / 32=y6 at *;simp only [Span.cells] at e1 e2 e3 e4 e5 e6;(repeat' first|simp [*,za]|(apply zb<;>intro _ h<;>try simp [-Nat.le_zero_eq] at h));exact ⟨k+1,by omega,by omega,by omega,⟨min v.lo tk,max v.hi tk⟩,⟨rfl,rfl⟩,hm⟩
 .have ZW:k=64:=by omega
  subst ZW;have:=znh hv.h;subst this;clear hE hT hv;simp [*,za]
theorem rq.vec {f:Fact} {l:List Box} (h:rq f l) (n:Nat):∃ (i j:Nat) (hi:i < l.length) (hj:j < l.length),f.a=i/\f.b=j/\ak f l=(qi l[j].x l[i].x,qi l[j].y l[i].y) /\
  (∀ H,zD (zn G (n+1)) H (.pure (.func 141 [])) [.pure (.agg (l[j]).x.cells),.pure (.agg (l[i]).x.cells)]=some (.val (.pure (.agg (ak f l).1.cells)))) /\
  (∀ H,zD (zn G (n+1)) H (.pure (.func 141 [])) [.pure (.agg (l[j]).y.cells),.pure (.agg (l[i]).y.cells)]=some (.val (.pure (.agg (ak f l).2.cells)))):=by
 obtain ⟨i,hi,ea,ga⟩:=tN h.a.1 h.a.2;obtain ⟨j,hj,eb,gb⟩:=tN h.b.1 h.b.2;obtain ⟨h1,h2⟩:=h.box hi;obtain ⟨h3,h4⟩:=h.box hj;have hv:ak f l=(qi l[j].x l[i].x,qi l[j].y l[i].y):=by unfold ak;rw [ga,gb]
 refine ⟨i,j,hi,hj,ea,eb,hv,fun H=>?_,fun H=>?_⟩
 .rw [hv];exact zg (caps:=[]) (ps:=[_,_]) zsr (e141 n _ _ h3 h1)
 .rw [hv];exact zg (caps:=[]) (ps:=[_,_]) zsr (e141 n _ _ h4 h2)
theorem rq.amt {f:Fact} {l:List Box} (h:rq f l) (n:Nat):(∀ H,zD (zn G (n+1)) H (.pure (.func 140 [])) [.pure (.agg (ak f l).1.cells)]=some (.val (.pure (.agg (zy (ak f l).1).cells)))) /\
  (∀ H,zD (zn G (n+1)) H (.pure (.func 140 [])) [.pure (.agg (ak f l).2.cells)]=some (.val (.pure (.agg (zy (ak f l).2).cells)))):=by
 obtain ⟨v1,v2⟩:=Gw h;exact ⟨fun H=>zg (caps:=[]) (ps:=[_]) UC (e140 n _ (D6 v1 (by omega))),fun H=>zg (caps:=[]) (ps:=[_]) UC (e140 n _ (D6 v2 (by omega)))⟩
def Eb (f:Fact) (l:List Box):Span:=if f.kind=2 then qC l[f.a.toNat]! l[f.b.toNat]! l[f.c.toNat]! else if f.kind=5 then (ak f l).1 else if f.kind=6 then (ak f l).2 else Ap (zy (ak f l).1) (zy (ak f l).2)
theorem zsW:G.shared 142=false:=by decide
theorem e142 (n:Nat) (f:Fact) (l:Sl Box) (hr:rq f l.xs):zF G (n+4) 142 [.agg f.cells,l.pv Box.cells 4]=some (.agg (Eb f l.xs).cells):=by
 refine zx (zw _) rfl g142 rfl ?_
 obtain ⟨i,j,hi,hj,ea,eb,hv,hx,hy⟩:=hr.vec (n+2);obtain ⟨sx,sy⟩:=hr.amt (n+2);have ga:l.xs[f.a.toNat]! = l.xs[i]:=by rw [ea];simp [hi]
 have gb:l.xs[f.b.toNat]! = l.xs[j]:=by rw [eb];simp [hj]
 have va:ny l.xs[i]=true:=hr.v _ (List.getElem_mem hi);have vb:ny l.xs[j]=true:=hr.v _ (List.getElem_mem hj);obtain ⟨v1,v2⟩:=Gw hr;obtain ⟨a1,a2,a3⟩:=UD v1;obtain ⟨b1,b2,b3⟩:=UD v2;have hc:=hr.c;have DI:=hr.v;clear v1 v2 hr;unfold Eb;rw [ga,gb];clear hv ga gb;generalize (ak f l.xs).1=x at *;generalize (ak f l.xs).2=y at *;generalize zy x=ax at *;generalize zy y=ay at *;have s1:=JZ a1 (by omega);have s2:=JZ (a:=ax.hi) (by omega) a3;have s3:=JZ b1 (by omega);have s4:=JZ (a:=ay.hi) (by omega) b3;have w1:IntKind.i64.wrap (ax.lo*ax.lo)=ax.lo*ax.lo:=wrap64 (by omega) (by omega);have w2:IntKind.i64.wrap (ax.hi*ax.hi)=ax.hi*ax.hi:=wrap64 (by omega) (by omega);have w3:IntKind.i64.wrap (ay.lo*ay.lo)=ay.lo*ay.lo:=wrap64 (by omega) (by omega);have w4:IntKind.i64.wrap (ay.hi*ay.hi)=ay.hi*ay.hi:=wrap64 (by omega) (by omega);have w5:IntKind.i64.wrap (ax.lo*ax.lo+ay.lo*ay.lo)=ax.lo*ax.lo+ay.lo*ay.lo:=wrap64 (by omega) (by omega);have w6:IntKind.i64.wrap (ax.hi*ax.hi+ay.hi*ay.hi)=ax.hi*ax.hi+ay.hi*ay.hi:=wrap64 (by omega) (by omega);clear a1 a2 a3 b1 b2 b3 s1 s2 s3 s4;simp only [Span.cells] at hx hy sx sy
 by_cases k2:f.kind=2
 .rw [if_pos k2];obtain ⟨k,hk,ec,gc⟩:=tN (hc k2).1 (hc k2).2;have vc:ny l.xs[k]=true:=DI _ (List.getElem_mem hk);have ht:=fun H=>zg (G:=G) (n:=n+3) (H:=H) (caps:=[]) (ps:=[.agg (l.xs[i]).cells,.agg (l.xs[j]).cells,.agg (l.xs[k]).cells]) zuN (e154 n _ _ _ va vb vc);rw [gc];simp only [Box.cells,Span.cells,List.map] at ht;clear va vb vc DI hc gc;generalize qC l.xs[i] l.xs[j] l.xs[k]=T at *;simp [*,za,c142,Fact.cells,Box.cells,Span.cells]
 rw [if_neg k2];clear va vb DI hc
 by_cases k5:f.kind=5
 .rw [if_pos k5];simp [*,za,c142,Fact.cells,Box.cells,Span.cells]
 rw [if_neg k5]
 by_cases k6:f.kind=6
 .rw [if_pos k6];simp [*,za,c142,Fact.cells,Box.cells,Span.cells]
 rw [if_neg k6];simp [*,za,c142,Fact.cells,Box.cells,Span.cells,Ap]
theorem zn0 {s:Span} (h:bU s 2097152):IntKind.i64.wrap (0 - s.lo)=- s.lo/\IntKind.i64.wrap (0 - s.hi)=- s.hi/\IntKind.i64.wrap (- s.lo)=- s.lo/\IntKind.i64.wrap (- s.hi)=- s.hi:=by
 unfold bU at h;exact ⟨by rw [wrap64 (by omega) (by omega)];omega,by rw [wrap64 (by omega) (by omega)];omega,wrap64 (by omega) (by omega),wrap64 (by omega) (by omega)⟩
theorem zsw:G.shared 139=false:=by decide
theorem e139 (n:Nat) (f:Fact) (l:Sl Box) (hr:rq f l.xs) (hq:0<=f.quarter/\f.quarter<=3):zF G (n+2) 139 [.agg f.cells,l.pv Box.cells 4]=some (.aM [.agg (lV f.quarter (ak f l.xs).1 (ak f l.xs).2).1.cells,.agg (lV f.quarter (ak f l.xs).1 (ak f l.xs).2).2.cells]):=by
 refine zx (zw _) rfl g139 rfl ?_
 obtain ⟨i,j,hi,hj,ea,eb,hv,hx,hy⟩:=hr.vec n;obtain ⟨v1,v2⟩:=Gw hr;have n1:=zn0 v1;have n2:=zn0 v2;clear hr hv v1 v2;generalize (ak f l.xs).1=x at *;generalize (ak f l.xs).2=y at *;obtain ⟨w1,w2,w3,w4⟩:=n1;obtain ⟨w5,w6,w7,w8⟩:=n2;simp only [Span.cells] at hx hy;have hq:f.quarter=0\/f.quarter=1\/f.quarter=2\/f.quarter=3:=by omega
 rcases hq with q|q|q|q
 .rw [q];simp [*,za,c139,Fact.cells,Box.cells,Span.cells,lV,beside]
 .rw [q];simp [*,za,c139,Fact.cells,Box.cells,Span.cells,lV,beside]
 .rw [q];simp [*,za,c139,Fact.cells,Box.cells,Span.cells,lV,beside]
 .rw [q];simp [*,za,c139,Fact.cells,Box.cells,Span.cells,lV,beside]
theorem zuX:G.shared 119=false:=by decide
theorem e119 (n:Nat) (f:Fact) (l:Sl Box) (hr:rq f l.xs) (hq:f.kind=3->0<=f.quarter/\f.quarter<=3):zF G (n+6) 119 [.agg f.cells,l.pv Box.cells 4]=some (.bool (BN f l.xs).1):=by
 refine zx (zw _) rfl g119 rfl ?_
 obtain ⟨i,j,hi,hj,ea,eb,hv,hx,hy⟩:=hr.vec (n+4);obtain ⟨sx,sy⟩:=hr.amt (n+4);have bI:=fun H=>zg (G:=G) (n:=n+5) (H:=H) (caps:=[]) (ps:=[.agg f.cells,l.pv Box.cells 4]) zsW (e142 (n+1) f l hr);have Dn:=fun hq H=>zg (G:=G) (n:=n+5) (H:=H) (caps:=[]) (ps:=[.agg f.cells,l.pv Box.cells 4]) zsw (e139 (n+3) f l hr hq);have fE:=fun (s:Span) (hs:bU s 4194304) H=>zg (G:=G) (n:=n+5) (H:=H) (caps:=[]) (ps:=[.agg s.cells]) UC (e140 (n+4) s hs);obtain ⟨v1,v2⟩:=Gw hr;clear hr hv;rw [Yr];unfold Eb at bI;simp only [Fact.cells,List.map] at bI Dn
 by_cases k3:f.kind=3
 .have Dn:=Dn (hq k3);have hw:bU (lV f.quarter (ak f l.xs).1 (ak f l.xs).2).2 4194304:=by
   unfold lV;(repeat' split)<;>first|exact D6 v1 (by omega)|exact D6 v2 (by omega)
  have fE:=fE _ hw;simp only [k3,ea,eb] at Dn;rw [if_neg (by rw [k3];omega),if_pos k3];simp only [Span.cells,List.map] at fE Dn;clear bI hx hy sx sy v1 v2 hq hw;generalize (lV f.quarter (ak f l.xs).1 (ak f l.xs).2).1=u at *;generalize (lV f.quarter (ak f l.xs).1 (ak f l.xs).2).2=w at *;generalize hA:zy w=aw at *;(repeat' first|simp [*,za,c119,Fact.cells,Span.cells,EZ]|(apply zb<;>intro _ h<;>try simp [-Nat.le_zero_eq] at h))
 clear Dn fE v1 v2 hq
 by_cases k4:f.kind=4
 .rw [if_neg (by omega),if_neg k3,if_pos k4];simp only [Span.cells] at hx hy sx sy;clear bI;generalize (ak f l.xs).1=x at *;generalize (ak f l.xs).2=y at *;generalize zy x=ax at *;generalize zy y=ay at *;(repeat' first|simp [*,za,c119,Fact.cells,Box.cells,Span.cells,E5]|(apply zb<;>intro _ h<;>try simp [-Nat.le_zero_eq] at h))
  all_goals omega
 clear hx hy sx sy;have hb:(if f.kind=2 then zT f.span (qC l.xs[f.a.toNat]! l.xs[f.b.toNat]! l.xs[f.c.toNat]!) else if f.kind=3 then EZ (lV f.quarter (ak f l.xs).1 (ak f l.xs).2).1 (lV f.quarter (ak f l.xs).1 (ak f l.xs).2).2
   else if f.kind=4 then E5 f.span (zy (ak f l.xs).1) (zy (ak f l.xs).2) else if f.kind=5 then zT f.span (ak f l.xs).1 else if f.kind=6 then zT f.span (ak f l.xs).2 else zT f.span (Ap (zy (ak f l.xs).1) (zy (ak f l.xs).2)))=zT f.span (Eb f l.xs):=by
  unfold Eb;rw [if_neg k3,if_neg k4];(repeat' split)<;>rfl
 rw [hb];clear hb;have hv:Eb f l.xs=if f.kind=2 then qC l.xs[f.a.toNat]! l.xs[f.b.toNat]! l.xs[f.c.toNat]! else if f.kind=5 then (ak f l.xs).1 else if f.kind=6 then (ak f l.xs).2 else Ap (zy (ak f l.xs).1) (zy (ak f l.xs).2):=rfl
 rw [<- hv] at bI;clear hv;generalize Eb f l.xs=v at *;simp only [Span.cells,ea,eb] at bI;(repeat' first|simp [*,za,c119,Fact.cells,Span.cells,zT]|(apply zb<;>intro _ h<;>try simp [-Nat.le_zero_eq] at h))
theorem zuy:G.shared 118=false:=by decide
theorem e118 (n:Nat) (f:Fact) (l:Sl Box) (hr:rq f l.xs) (hq:f.kind=3->0<=f.quarter/\f.quarter<=3):zF G (n+6) 118 [.agg f.cells,l.pv Box.cells 4]=some (.bool (BN f l.xs).2):=by
 refine zx (zw _) rfl g118 rfl ?_
 obtain ⟨i,j,hi,hj,ea,eb,hv,hx,hy⟩:=hr.vec (n+4);obtain ⟨sx,sy⟩:=hr.amt (n+4);have bI:=fun H=>zg (G:=G) (n:=n+5) (H:=H) (caps:=[]) (ps:=[.agg f.cells,l.pv Box.cells 4]) zsW (e142 (n+1) f l hr);have Dn:=fun hq H=>zg (G:=G) (n:=n+5) (H:=H) (caps:=[]) (ps:=[.agg f.cells,l.pv Box.cells 4]) zsw (e139 (n+3) f l hr hq);have fE:=fun (s:Span) (hs:bU s 4194304) H=>zg (G:=G) (n:=n+5) (H:=H) (caps:=[]) (ps:=[.agg s.cells]) UC (e140 (n+4) s hs);obtain ⟨v1,v2⟩:=Gw hr;clear hr hv;rw [Yr];unfold Eb at bI;simp only [Fact.cells,List.map] at bI Dn
 by_cases k3:f.kind=3
 .have Dn:=Dn (hq k3);have hw:bU (lV f.quarter (ak f l.xs).1 (ak f l.xs).2).2 4194304:=by
   unfold lV;(repeat' split)<;>first|exact D6 v1 (by omega)|exact D6 v2 (by omega)
  have fE:=fE _ hw;simp only [k3,ea,eb] at Dn;rw [if_neg (by rw [k3];omega),if_pos k3];simp only [Span.cells,List.map] at fE Dn;clear bI hx hy sx sy v1 v2 hq hw;generalize (lV f.quarter (ak f l.xs).1 (ak f l.xs).2).1=u at *;generalize (lV f.quarter (ak f l.xs).1 (ak f l.xs).2).2=w at *;generalize hA:zy w=aw at *;(repeat' first|simp [*,za,c118,Fact.cells,Span.cells,EZ]|(apply zb<;>intro _ h<;>try simp [-Nat.le_zero_eq] at h))
 clear Dn fE v1 v2 hq
 by_cases k4:f.kind=4
 .rw [if_neg (by omega),if_neg k3,if_pos k4];simp only [Span.cells] at hx hy sx sy;clear bI;generalize (ak f l.xs).1=x at *;generalize (ak f l.xs).2=y at *;generalize zy x=ax at *;generalize zy y=ay at *;(repeat' first|simp [*,za,c118,Fact.cells,Box.cells,Span.cells,E5]|(apply zb<;>intro _ h<;>try simp [-Nat.le_zero_eq] at h))
  all_goals omega
 clear hx hy sx sy;have hb:(if f.kind=2 then zT f.span (qC l.xs[f.a.toNat]! l.xs[f.b.toNat]! l.xs[f.c.toNat]!) else if f.kind=3 then EZ (lV f.quarter (ak f l.xs).1 (ak f l.xs).2).1 (lV f.quarter (ak f l.xs).1 (ak f l.xs).2).2
   else if f.kind=4 then E5 f.span (zy (ak f l.xs).1) (zy (ak f l.xs).2) else if f.kind=5 then zT f.span (ak f l.xs).1 else if f.kind=6 then zT f.span (ak f l.xs).2 else zT f.span (Ap (zy (ak f l.xs).1) (zy (ak f l.xs).2)))=zT f.span (Eb f l.xs):=by
  unfold Eb;rw [if_neg k3,if_neg k4];(repeat' split)<;>rfl
 rw [hb];clear hb;have hv:Eb f l.xs=if f.kind=2 then qC l.xs[f.a.toNat]! l.xs[f.b.toNat]! l.xs[f.c.toNat]! else if f.kind=5 then (ak f l.xs).1 else if f.kind=6 then (ak f l.xs).2 else Ap (zy (ak f l.xs).1) (zy (ak f l.xs).2):=rfl
 rw [<- hv] at bI;clear hv;generalize Eb f l.xs=v at *;simp only [Span.cells,ea,eb] at bI;(repeat' first|simp [*,za,c118,Fact.cells,Span.cells,zT]|(apply zb<;>intro _ h<;>try simp [-Nat.le_zero_eq] at h))
theorem zur:G.shared 102=false:=by decide
theorem e102 (n:Nat) (f:Fact) (l:Sl Box) (hr:rq f l.xs) (hq:f.kind=3->0<=f.quarter/\f.quarter<=3):zF G (n+7) 102 [.agg f.cells,l.pv Box.cells 4]=some (.bool (zJ f l.xs)):=by
 refine zx (zw _) rfl g102 rfl ?_
 have h1:=fun H=>zg (G:=G) (n:=n+6) (H:=H) (caps:=[]) (ps:=[.agg f.cells,l.pv Box.cells 4]) zuX (e119 n f l hr hq);have h2:=fun H=>zg (G:=G) (n:=n+6) (H:=H) (caps:=[]) (ps:=[.agg f.cells,l.pv Box.cells 4]) zuy (e118 n f l hr hq);simp only [Fact.cells,List.map] at h1 h2;clear hr hq;unfold zJ;generalize BN f l.xs=b at *
 cases hn:f.nt
 .simp only [hn] at h1 h2;simp [*,za,c102,Fact.cells]
 .simp only [hn] at h1 h2;simp [*,za,c102,Fact.cells]
end Go.Proofs.YtmmhnfghklppiaaGreat.Vm
