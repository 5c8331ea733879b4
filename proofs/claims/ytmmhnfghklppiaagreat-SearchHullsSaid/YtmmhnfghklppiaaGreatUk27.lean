/- What facts say of boxes, as the specification computes it. -/
import Derived.Test.YtmmhnfghklppiaaGreatUk16
import Derived.Test.YtmmhnfghklppiaaGreatUk17
namespace Go.Proofs.YtmmhnfghklppiaaGreat.Vm
open Go
set_option linter.unusedSimpArgs false
set_option linter.unusedVariables false
set_option maxHeartbeats 1000000
theorem zrQ (a:Nat):Int.tmod (a:Int) 2=((a % 2:Nat):Int):=rfl
theorem zup (a:Nat):Int.tdiv (a:Int) 2=((a / 2:Nat):Int):=rfl
theorem zuJ (a:Nat):Int.tdiv (a:Int) 4=((a / 4:Nat):Int):=rfl
theorem zuq (a:Nat):Int.tdiv (a:Int) 8=((a / 8:Nat):Int):=rfl
theorem ztm (a:Nat):Int.tdiv (a:Int) 16=((a / 16:Nat):Int):=rfl
theorem zts (a:Nat):Int.tdiv (a:Int) 32=((a / 32:Nat):Int):=rfl
theorem sh57:G.shared 57=false:=by decide
theorem e57 (n:Nat) (s:Span) (k:Nat):zF G (n+1) 57 [.agg s.cells,.int .i64 k]=some (.int .i64 (bE s k)):=by
 refine zy (zx _) rfl g57 rfl ?_
 have h2:k % 2=0\/k % 2=1:=by omega
 unfold bE;rcases h2 with h2|h2
 .have h:Int.tmod (k:Int) 2=0:=by rw [zrQ,h2];rfl
  rw [if_pos h2];simp [*,zb,c57,Span.cells]
 .have h:Int.tmod (k:Int) 2=1:=by rw [zrQ,h2];rfl
  rw [if_neg (by omega)];simp [*,zb,c57,Span.cells]
theorem Tu {s:Span} {M:Int} (h:fK s M) (k:Nat):-M<=bE s k/\bE s k<=M:=by
 unfold bE fK at *
 split<;>omega
theorem zlT {a b c:Box} {k:Nat} {v:Span} (h:P6 a b c (max k 1) v):P6 a b c (max (k+1) 1) ⟨min v.lo (AJ a b c k),max v.hi (AJ a b c k)⟩:=by
 by_cases hk:k=0
 .subst hk;have h0:=zgx a b c;have e:v=⟨AJ a b c 0,AJ a b c 0⟩:=mE.unique h h0;subst e
  simpa using h0
 .rw [show max (k+1) 1=max k 1+1 by omega,show max k 1=k by omega];rw [show max k 1=k by omega] at h;exact zmW h
theorem zvJ:G.shared 154=false:=by decide
theorem e154 (n:Nat) (a b c:Box) (ha:mJ a=true) (hb:mJ b=true) (hc:mJ c=true):zF G (n+3) 154 [.agg a.cells,.agg b.cells,.agg c.cells]=some (.agg (sJ a b c).cells):=by
 refine zy (zx _) rfl g154 rfl ?_
 have va:=aH.1 ha;have vb:=aH.1 hb;have vc:=aH.1 hc;have sax:fK a.x 1048576:=by unfold fK;omega
 have say:fK a.y 1048576:=by unfold fK;omega
 have sbx:fK b.x 1048576:=by unfold fK;omega
 have sby:fK b.y 1048576:=by unfold fK;omega
 have scx:fK c.x 1048576:=by unfold fK;omega
 have scy:fK c.y 1048576:=by unfold fK;omega
 clear va vb vc ha hb hc;have hT:∀ i j x y z w H,zG (zt G (n+2)) H (.pure (.func 157 [])) [.pure (.int .i64 (bE a.x i)),.pure (.int .i64 (bE a.y j)),.pure (.int .i64 (bE b.x x)),.pure (.int .i64 (bE b.y y)),.pure (.int .i64 (bE c.x z)),.pure (.int .i64 (bE c.y w))]=some (.val (.pure (.int .i64 (oJ ⟨bE a.x i,bE a.y j⟩ ⟨bE b.x x,bE b.y y⟩ ⟨bE c.x z,bE c.y w⟩)))):=fun i j x y z w H =>
  zf (caps:=[]) (ps:=[_,_,_,_,_,_]) zvM (e157 (n+1) _ _ _ _ _ _ ⟨Tu sax i,Tu say j⟩ ⟨Tu sbx x,Tu sby y⟩ ⟨Tu scx z,Tu scy w⟩)
 have hE:∀ (s:Span) (k:Nat) H,zG (zt G (n+2)) H (.pure (.func 57 [])) [.pure (.agg s.cells),.pure (.int .i64 k)]=some (.val (.pure (.int .i64 (bE s k)))):=fun s k H=>zf (caps:=[]) (ps:=[_,_]) sh57 (e57 (n+1) s k);clear sax say sbx sby scx scy;have Ec:=hT 0 0 0 0 0 0;have k0:oJ ⟨bE a.x 0,bE a.y 0⟩ ⟨bE b.x 0,bE b.y 0⟩ ⟨bE c.x 0,bE c.y 0⟩=AJ a b c 0:=rfl;rw [k0] at Ec;simp only [bE,Nat.zero_mod,if_true] at Ec;have hT:=Hide.mk hT;have hE:=Hide.mk hE;have hs:=zgx a b c;generalize AX:AJ a b c 0=t0 at *;clear k0 AX;have hs:=Hide.mk hs;(repeat' first|simp [*,zb,c154,Box.cells,Span.cells]|(apply za<;>intro _ h<;>try simp [-Nat.le_zero_eq] at h))
 refine zA [(9,10),(33,76)] (fun (k:Nat) env H=>env 9=.pure (.int .i64 k)/\k<=64/\H.nx=2/\H.get 0=.cells true [.pure (.int .i64 0),.pure (.int .i64 0)]/\∃ v:Span,H.get 1=.cells true [.pure (.int .i64 v.lo),.pure (.int .i64 v.hi)]/\Hide (P6 a b c (max k 1) v)) (fun k=>64 - k) 0 ?_ ?_ ?_ ?_
 .decide
 .exact ⟨by simp,by omega,by simp,by simp,⟨t0,t0⟩,by simp,hs⟩
 .simp only [zz];omega
 clear hs Ec;rintro k env H ⟨g9,hk,bU,g0,v,gv,hv⟩
 by_cases aK:k < 64
 .have Jd:(k:Int) < 64:=by omega
  have w1:IntKind.i64.wrap ((k:Int)+1)=(k+1:Nat):=by rw [wrap64 (by omega) (by omega)];omega
  have q1:=zup k;have q2:=zuJ k;have q3:=zuq k;have q4:=ztm k;have q5:=zts k;have u1:IntKind.i64.wrap ((k / 2:Nat):Int)=(k / 2:Nat):=wrap64 (by omega) (by omega);have u2:IntKind.i64.wrap ((k / 4:Nat):Int)=(k / 4:Nat):=wrap64 (by omega) (by omega);have u3:IntKind.i64.wrap ((k / 8:Nat):Int)=(k / 8:Nat):=wrap64 (by omega) (by omega);have u4:IntKind.i64.wrap ((k / 16:Nat):Int)=(k / 16:Nat):=wrap64 (by omega) (by omega);have u5:IntKind.i64.wrap ((k / 32:Nat):Int)=(k / 32:Nat):=wrap64 (by omega) (by omega);have e1:=hE.h a.x k;have e2:=hE.h a.y (k / 2);have e3:=hE.h b.x (k / 4);have e4:=hE.h b.y (k / 8);have e5:=hE.h c.x (k / 16);have e6:=hE.h c.y (k / 32);have hTk:=hT.h k (k / 2) (k / 4) (k / 8) (k / 16) (k / 32);have k0:oJ ⟨bE a.x k,bE a.y (k / 2)⟩ ⟨bE b.x (k / 4),bE b.y (k / 8)⟩ ⟨bE c.x (k / 16),bE c.y (k / 32)⟩=AJ a b c k:=rfl;rw [k0] at hTk;have hm:=Hide.mk (zlT hv.h);clear hE hT k0 hv;generalize AJ a b c k=tk at *;generalize bE a.x k=x1 at *;generalize bE a.y (k / 2)=x2 at *;generalize bE b.x (k / 4)=x3 at *;generalize bE b.y (k / 8)=x4 at *;generalize bE c.x (k / 16)=x5 at *;generalize bE c.y (k / 32)=x6 at *;generalize k / 2=y2 at *;generalize k / 4=y3 at *;generalize k / 8=y4 at *;generalize k / 16=y5 at *;generalize k / 32=y6 at *;simp only [Span.cells] at e1 e2 e3 e4 e5 e6;(repeat' first|simp [*,zb]|(apply za<;>intro _ h<;>try simp [-Nat.le_zero_eq] at h));exact ⟨k+1,by omega,by omega,by omega,⟨min v.lo tk,max v.hi tk⟩,⟨rfl,rfl⟩,hm⟩
 .have hk64:k=64:=by omega
  subst hk64;have:=zod hv.h;subst this;clear hE hT hv;simp [*,zb]
theorem rT.vec {f:Fact} {l:List Box} (h:rT f l) (n:Nat):∃ (i j:Nat) (hi:i < l.length) (hj:j < l.length),f.a=i/\f.b=j/\aG f l=(rD l[j].x l[i].x,rD l[j].y l[i].y) /\
  (∀ H,zG (zt G (n+1)) H (.pure (.func 141 [])) [.pure (.agg (l[j]).x.cells),.pure (.agg (l[i]).x.cells)]=some (.val (.pure (.agg (aG f l).1.cells)))) /\
  (∀ H,zG (zt G (n+1)) H (.pure (.func 141 [])) [.pure (.agg (l[j]).y.cells),.pure (.agg (l[i]).y.cells)]=some (.val (.pure (.agg (aG f l).2.cells)))):=by
 obtain ⟨i,hi,ea,ga⟩:=sM h.a.1 h.a.2;obtain ⟨j,hj,eb,gb⟩:=sM h.b.1 h.b.2;obtain ⟨h1,h2⟩:=h.box hi;obtain ⟨h3,h4⟩:=h.box hj;have hv:aG f l=(rD l[j].x l[i].x,rD l[j].y l[i].y):=by unfold aG;rw [ga,gb]
 refine ⟨i,j,hi,hj,ea,eb,hv,fun H=>?_,fun H=>?_⟩
 .rw [hv];exact zf (caps:=[]) (ps:=[_,_]) ztZ (e141 n _ _ h3 h1)
 .rw [hv];exact zf (caps:=[]) (ps:=[_,_]) ztZ (e141 n _ _ h4 h2)
theorem rT.amt {f:Fact} {l:List Box} (h:rT f l) (n:Nat):(∀ H,zG (zt G (n+1)) H (.pure (.func 140 [])) [.pure (.agg (aG f l).1.cells)]=some (.val (.pure (.agg (zB (aG f l).1).cells)))) /\
  (∀ H,zG (zt G (n+1)) H (.pure (.func 140 [])) [.pure (.agg (aG f l).2.cells)]=some (.val (.pure (.agg (zB (aG f l).2).cells)))):=by
 obtain ⟨v1,v2⟩:=Kt h;exact ⟨fun H=>zf (caps:=[]) (ps:=[_]) YC (e140 n _ (Hm v1 (by omega))),fun H=>zf (caps:=[]) (ps:=[_]) YC (e140 n _ (Hm v2 (by omega)))⟩
def H8 (f:Fact) (l:List Box):Span:=if f.kind=2 then sJ l[f.a.toNat]! l[f.b.toNat]! l[f.c.toNat]! else if f.kind=5 then (aG f l).1 else if f.kind=6 then (aG f l).2 else Bq (zB (aG f l).1) (zB (aG f l).2)
theorem ztA:G.shared 142=false:=by decide
theorem e142 (n:Nat) (f:Fact) (l:Sl Box) (hr:rT f l.xs):zF G (n+4) 142 [.agg f.cells,l.pv Box.cells 4]=some (.agg (H8 f l.xs).cells):=by
 refine zy (zx _) rfl g142 rfl ?_
 obtain ⟨i,j,hi,hj,ea,eb,hv,hx,hy⟩:=hr.vec (n+2);obtain ⟨sx,sy⟩:=hr.amt (n+2);have ga:l.xs[f.a.toNat]! = l.xs[i]:=by rw [ea];simp [hi]
 have gb:l.xs[f.b.toNat]! = l.xs[j]:=by rw [eb];simp [hj]
 have va:mJ l.xs[i]=true:=hr.v _ (List.getElem_mem hi);have vb:mJ l.xs[j]=true:=hr.v _ (List.getElem_mem hj);obtain ⟨v1,v2⟩:=Kt hr;obtain ⟨a1,a2,a3⟩:=YD v1;obtain ⟨b1,b2,b3⟩:=YD v2;have hc:=hr.c;have wG:=hr.v;clear v1 v2 hr;unfold H8;rw [ga,gb];clear hv ga gb;generalize (aG f l.xs).1=x at *;generalize (aG f l.xs).2=y at *;generalize zB x=ax at *;generalize zB y=ay at *;have s1:=N9 a1 (by omega);have s2:=N9 (a:=ax.hi) (by omega) a3;have s3:=N9 b1 (by omega);have s4:=N9 (a:=ay.hi) (by omega) b3;have w1:IntKind.i64.wrap (ax.lo*ax.lo)=ax.lo*ax.lo:=wrap64 (by omega) (by omega);have w2:IntKind.i64.wrap (ax.hi*ax.hi)=ax.hi*ax.hi:=wrap64 (by omega) (by omega);have w3:IntKind.i64.wrap (ay.lo*ay.lo)=ay.lo*ay.lo:=wrap64 (by omega) (by omega);have w4:IntKind.i64.wrap (ay.hi*ay.hi)=ay.hi*ay.hi:=wrap64 (by omega) (by omega);have w5:IntKind.i64.wrap (ax.lo*ax.lo+ay.lo*ay.lo)=ax.lo*ax.lo+ay.lo*ay.lo:=wrap64 (by omega) (by omega);have w6:IntKind.i64.wrap (ax.hi*ax.hi+ay.hi*ay.hi)=ax.hi*ax.hi+ay.hi*ay.hi:=wrap64 (by omega) (by omega);clear a1 a2 a3 b1 b2 b3 s1 s2 s3 s4;simp only [Span.cells] at hx hy sx sy
 by_cases k2:f.kind=2
 .rw [if_pos k2];obtain ⟨k,hk,ec,gc⟩:=sM (hc k2).1 (hc k2).2;have vc:mJ l.xs[k]=true:=wG _ (List.getElem_mem hk);have ht:=fun H=>zf (G:=G) (n:=n+3) (H:=H) (caps:=[]) (ps:=[.agg (l.xs[i]).cells,.agg (l.xs[j]).cells,.agg (l.xs[k]).cells]) zvJ (e154 n _ _ _ va vb vc);rw [gc];simp only [Box.cells,Span.cells,List.map] at ht;clear va vb vc wG hc gc;generalize sJ l.xs[i] l.xs[j] l.xs[k]=T at *;simp [*,zb,c142,Fact.cells,Box.cells,Span.cells]
 rw [if_neg k2];clear va vb wG hc
 by_cases k5:f.kind=5
 .rw [if_pos k5];simp [*,zb,c142,Fact.cells,Box.cells,Span.cells]
 rw [if_neg k5]
 by_cases k6:f.kind=6
 .rw [if_pos k6];simp [*,zb,c142,Fact.cells,Box.cells,Span.cells]
 rw [if_neg k6];simp [*,zb,c142,Fact.cells,Box.cells,Span.cells,Bq]
theorem zoZ {s:Span} (h:fK s 2097152):IntKind.i64.wrap (0 - s.lo)=- s.lo/\IntKind.i64.wrap (0 - s.hi)=- s.hi/\IntKind.i64.wrap (- s.lo)=- s.lo/\IntKind.i64.wrap (- s.hi)=- s.hi:=by
 unfold fK at h;exact ⟨by rw [wrap64 (by omega) (by omega)];omega,by rw [wrap64 (by omega) (by omega)];omega,wrap64 (by omega) (by omega),wrap64 (by omega) (by omega)⟩
theorem ztM:G.shared 139=false:=by decide
theorem e139 (n:Nat) (f:Fact) (l:Sl Box) (hr:rT f l.xs) (hq:0<=f.quarter/\f.quarter<=3):zF G (n+2) 139 [.agg f.cells,l.pv Box.cells 4]=some (.aQ [.agg (mK f.quarter (aG f l.xs).1 (aG f l.xs).2).1.cells,.agg (mK f.quarter (aG f l.xs).1 (aG f l.xs).2).2.cells]):=by
 refine zy (zx _) rfl g139 rfl ?_
 obtain ⟨i,j,hi,hj,ea,eb,hv,hx,hy⟩:=hr.vec n;obtain ⟨v1,v2⟩:=Kt hr;have n1:=zoZ v1;have n2:=zoZ v2;clear hr hv v1 v2;generalize (aG f l.xs).1=x at *;generalize (aG f l.xs).2=y at *;obtain ⟨w1,w2,w3,w4⟩:=n1;obtain ⟨w5,w6,w7,w8⟩:=n2;simp only [Span.cells] at hx hy;have hq:f.quarter=0\/f.quarter=1\/f.quarter=2\/f.quarter=3:=by omega
 rcases hq with q|q|q|q
 .rw [q];simp [*,zb,c139,Fact.cells,Box.cells,Span.cells,mK,beside]
 .rw [q];simp [*,zb,c139,Fact.cells,Box.cells,Span.cells,mK,beside]
 .rw [q];simp [*,zb,c139,Fact.cells,Box.cells,Span.cells,mK,beside]
 .rw [q];simp [*,zb,c139,Fact.cells,Box.cells,Span.cells,mK,beside]
theorem zvo:G.shared 119=false:=by decide
theorem e119 (n:Nat) (f:Fact) (l:Sl Box) (hr:rT f l.xs) (hq:f.kind=3->0<=f.quarter/\f.quarter<=3):zF G (n+6) 119 [.agg f.cells,l.pv Box.cells 4]=some (.bool (D7 f l.xs).1):=by
 refine zy (zx _) rfl g119 rfl ?_
 obtain ⟨i,j,hi,hj,ea,eb,hv,hx,hy⟩:=hr.vec (n+4);obtain ⟨sx,sy⟩:=hr.amt (n+4);have bX:=fun H=>zf (G:=G) (n:=n+5) (H:=H) (caps:=[]) (ps:=[.agg f.cells,l.pv Box.cells 4]) ztA (e142 (n+1) f l hr);have GG:=fun hq H=>zf (G:=G) (n:=n+5) (H:=H) (caps:=[]) (ps:=[.agg f.cells,l.pv Box.cells 4]) ztM (e139 (n+3) f l hr hq);have fF:=fun (s:Span) (hs:fK s 4194304) H=>zf (G:=G) (n:=n+5) (H:=H) (caps:=[]) (ps:=[.agg s.cells]) YC (e140 (n+4) s hs);obtain ⟨v1,v2⟩:=Kt hr;clear hr hv;rw [zhb];unfold H8 at bX;simp only [Fact.cells,List.map] at bX GG
 by_cases k3:f.kind=3
 .have GG:=GG (hq k3);have hw:fK (mK f.quarter (aG f l.xs).1 (aG f l.xs).2).2 4194304:=by
   unfold mK;(repeat' split)<;>first|exact Hm v1 (by omega)|exact Hm v2 (by omega)
  have fF:=fF _ hw;simp only [k3,ea,eb] at GG;rw [if_neg (by rw [k3];omega),if_pos k3];simp only [Span.cells,List.map] at fF GG;clear bX hx hy sx sy v1 v2 hq hw;generalize (mK f.quarter (aG f l.xs).1 (aG f l.xs).2).1=u at *;generalize (mK f.quarter (aG f l.xs).1 (aG f l.xs).2).2=w at *;generalize hA:zB w=aw at *;(repeat' first|simp [*,zb,c119,Fact.cells,Span.cells,Gh]|(apply za<;>intro _ h<;>try simp [-Nat.le_zero_eq] at h))
 clear GG fF v1 v2 hq
 by_cases k4:f.kind=4
 .rw [if_neg (by omega),if_neg k3,if_pos k4];simp only [Span.cells] at hx hy sx sy;clear bX;generalize (aG f l.xs).1=x at *;generalize (aG f l.xs).2=y at *;generalize zB x=ax at *;generalize zB y=ay at *;(repeat' first|simp [*,zb,c119,Fact.cells,Box.cells,Span.cells,Gi]|(apply za<;>intro _ h<;>try simp [-Nat.le_zero_eq] at h))
  all_goals omega
 clear hx hy sx sy;have hb:(if f.kind=2 then zS f.span (sJ l.xs[f.a.toNat]! l.xs[f.b.toNat]! l.xs[f.c.toNat]!) else if f.kind=3 then Gh (mK f.quarter (aG f l.xs).1 (aG f l.xs).2).1 (mK f.quarter (aG f l.xs).1 (aG f l.xs).2).2
   else if f.kind=4 then Gi f.span (zB (aG f l.xs).1) (zB (aG f l.xs).2) else if f.kind=5 then zS f.span (aG f l.xs).1 else if f.kind=6 then zS f.span (aG f l.xs).2 else zS f.span (Bq (zB (aG f l.xs).1) (zB (aG f l.xs).2)))=zS f.span (H8 f l.xs):=by
  unfold H8;rw [if_neg k3,if_neg k4];(repeat' split)<;>rfl
 rw [hb];clear hb;have hv:H8 f l.xs=if f.kind=2 then sJ l.xs[f.a.toNat]! l.xs[f.b.toNat]! l.xs[f.c.toNat]! else if f.kind=5 then (aG f l.xs).1 else if f.kind=6 then (aG f l.xs).2 else Bq (zB (aG f l.xs).1) (zB (aG f l.xs).2):=rfl
 rw [<- hv] at bX;clear hv;generalize H8 f l.xs=v at *;simp only [Span.cells,ea,eb] at bX;(repeat' first|simp [*,zb,c119,Fact.cells,Span.cells,zS]|(apply za<;>intro _ h<;>try simp [-Nat.le_zero_eq] at h))
theorem zwp:G.shared 118=false:=by decide
theorem e118 (n:Nat) (f:Fact) (l:Sl Box) (hr:rT f l.xs) (hq:f.kind=3->0<=f.quarter/\f.quarter<=3):zF G (n+6) 118 [.agg f.cells,l.pv Box.cells 4]=some (.bool (D7 f l.xs).2):=by
 refine zy (zx _) rfl g118 rfl ?_
 obtain ⟨i,j,hi,hj,ea,eb,hv,hx,hy⟩:=hr.vec (n+4);obtain ⟨sx,sy⟩:=hr.amt (n+4);have bX:=fun H=>zf (G:=G) (n:=n+5) (H:=H) (caps:=[]) (ps:=[.agg f.cells,l.pv Box.cells 4]) ztA (e142 (n+1) f l hr);have GG:=fun hq H=>zf (G:=G) (n:=n+5) (H:=H) (caps:=[]) (ps:=[.agg f.cells,l.pv Box.cells 4]) ztM (e139 (n+3) f l hr hq);have fF:=fun (s:Span) (hs:fK s 4194304) H=>zf (G:=G) (n:=n+5) (H:=H) (caps:=[]) (ps:=[.agg s.cells]) YC (e140 (n+4) s hs);obtain ⟨v1,v2⟩:=Kt hr;clear hr hv;rw [zhb];unfold H8 at bX;simp only [Fact.cells,List.map] at bX GG
 by_cases k3:f.kind=3
 .have GG:=GG (hq k3);have hw:fK (mK f.quarter (aG f l.xs).1 (aG f l.xs).2).2 4194304:=by
   unfold mK;(repeat' split)<;>first|exact Hm v1 (by omega)|exact Hm v2 (by omega)
  have fF:=fF _ hw;simp only [k3,ea,eb] at GG;rw [if_neg (by rw [k3];omega),if_pos k3];simp only [Span.cells,List.map] at fF GG;clear bX hx hy sx sy v1 v2 hq hw;generalize (mK f.quarter (aG f l.xs).1 (aG f l.xs).2).1=u at *;generalize (mK f.quarter (aG f l.xs).1 (aG f l.xs).2).2=w at *;generalize hA:zB w=aw at *;(repeat' first|simp [*,zb,c118,Fact.cells,Span.cells,Gh]|(apply za<;>intro _ h<;>try simp [-Nat.le_zero_eq] at h))
 clear GG fF v1 v2 hq
 by_cases k4:f.kind=4
 .rw [if_neg (by omega),if_neg k3,if_pos k4];simp only [Span.cells] at hx hy sx sy;clear bX;generalize (aG f l.xs).1=x at *;generalize (aG f l.xs).2=y at *;generalize zB x=ax at *;generalize zB y=ay at *;(repeat' first|simp [*,zb,c118,Fact.cells,Box.cells,Span.cells,Gi]|(apply za<;>intro _ h<;>try simp [-Nat.le_zero_eq] at h))
  all_goals omega
 clear hx hy sx sy;have hb:(if f.kind=2 then zS f.span (sJ l.xs[f.a.toNat]! l.xs[f.b.toNat]! l.xs[f.c.toNat]!) else if f.kind=3 then Gh (mK f.quarter (aG f l.xs).1 (aG f l.xs).2).1 (mK f.quarter (aG f l.xs).1 (aG f l.xs).2).2
   else if f.kind=4 then Gi f.span (zB (aG f l.xs).1) (zB (aG f l.xs).2) else if f.kind=5 then zS f.span (aG f l.xs).1 else if f.kind=6 then zS f.span (aG f l.xs).2 else zS f.span (Bq (zB (aG f l.xs).1) (zB (aG f l.xs).2)))=zS f.span (H8 f l.xs):=by
  unfold H8;rw [if_neg k3,if_neg k4];(repeat' split)<;>rfl
 rw [hb];clear hb;have hv:H8 f l.xs=if f.kind=2 then sJ l.xs[f.a.toNat]! l.xs[f.b.toNat]! l.xs[f.c.toNat]! else if f.kind=5 then (aG f l.xs).1 else if f.kind=6 then (aG f l.xs).2 else Bq (zB (aG f l.xs).1) (zB (aG f l.xs).2):=rfl
 rw [<- hv] at bX;clear hv;generalize H8 f l.xs=v at *;simp only [Span.cells,ea,eb] at bX;(repeat' first|simp [*,zb,c118,Fact.cells,Span.cells,zS]|(apply za<;>intro _ h<;>try simp [-Nat.le_zero_eq] at h))
theorem zra {f:Fact} {l:List Box} (h:P9 f l=true):f.kind=3->0<=f.quarter/\f.quarter<=3:=fun hk=>by
 unfold P9 at h;rw [Bool.and_eq_true] at h;have:=(vR f l.length).1 h.2;omega
theorem zr4:G.shared 102=false:=by decide
theorem e102 (n:Nat) (f:Fact) (l:Sl Box) (hr:rT f l.xs) (hq:f.kind=3->0<=f.quarter/\f.quarter<=3):zF G (n+7) 102 [.agg f.cells,l.pv Box.cells 4]=some (.bool (zD f l.xs)):=by
 refine zy (zx _) rfl g102 rfl ?_
 have h1:=fun H=>zf (G:=G) (n:=n+6) (H:=H) (caps:=[]) (ps:=[.agg f.cells,l.pv Box.cells 4]) zvo (e119 n f l hr hq);have h2:=fun H=>zf (G:=G) (n:=n+6) (H:=H) (caps:=[]) (ps:=[.agg f.cells,l.pv Box.cells 4]) zwp (e118 n f l hr hq);simp only [Fact.cells,List.map] at h1 h2;clear hr hq;unfold zD;generalize D7 f l.xs=b at *
 cases hn:f.nt
 .simp only [hn] at h1 h2;simp [*,zb,c102,Fact.cells]
 .simp only [hn] at h1 h2;simp [*,zb,c102,Fact.cells]
theorem zvN:G.shared 101=false:=by decide
theorem e101 (n:Nat) (l:Sl Pt) (hl:l.xs.length < 1000):zF G (n+1) 101 [l.pv Pt.cells 2]=some ((Sl.of (l.xs.map bf)).pv Box.cells 4):=by
 refine zy (zx _) rfl g101 rfl ?_
 (repeat' first|simp [*,zb,c101]|(apply za<;>intro _ h<;>try simp [-Nat.le_zero_eq] at h)|(show wpE 0 (zh ..) ..;refine zm ?_)|(refine ze fun v2 H2 aV aD ae af ai aj=>?_))
 refine zA [(3,36)] (fun (i:Nat) env H=>env 4=.pure (.int .i64 i)/\i<=l.xs.length/\aC Box.cells 4 H (env 3) ((l.xs.map bf).take i)) (fun i=>l.xs.length - i) 0 ?_ ?_ ?_ ?_
 .decide
 .exact ⟨by simp,by omega,by simpa using aC.nil⟩
 .simp only [zz];omega
 rintro i env H ⟨g0,hi,pq⟩;generalize g3:env 3=v at *
 by_cases aK:i < l.xs.length
 .have w1:IntKind.i64.wrap ((i:Int)+1)=(i+1:Nat):=by rw [wrap64 (by omega) (by omega)];omega
  have qx:((l.xs.map bf).take i).length=i:=by simp;omega
  have bu:=Hide.mk (zee (f:=bf) aK);(repeat' first|simp [*,zb,Pt.cells]|(apply za<;>intro _ h<;>try simp [-Nat.le_zero_eq] at h)|(show wpE 0 (zh ..) ..;refine zm ?_)|(refine ze fun v2 H2 aV aD ae af ai aj=>?_));exact ⟨i+1,by omega,by omega,by omega,aV.cast bu.h⟩
 .have aT:i=l.xs.length:=by omega
  subst aT;have h1:=(aC.cast (m:=l.xs.map bf) pq (List.take_of_length_le (by rw [List.length_map];exact Nat.le_refl _))).res (n:=10) (fun _=>rfl);(repeat' first|simp [*,zb]|(apply za<;>intro _ h<;>try simp [-Nat.le_zero_eq] at h)|(show wpE 0 (zh ..) ..;refine zm ?_)|(refine ze fun v2 H2 aV aD ae af ai aj=>?_));exact h1
end Go.Proofs.YtmmhnfghklppiaaGreat.Vm
