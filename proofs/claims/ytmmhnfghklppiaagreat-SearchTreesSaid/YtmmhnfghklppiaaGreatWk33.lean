/- What facts say of boxes, as the specification computes it. (*ref3.walk).fits: walked. -/
import Derived.Test.YtmmhnfghklppiaaGreatWk16
import Derived.Test.YtmmhnfghklppiaaGreatWk17
import Derived.Test.YtmmhnfghklppiaaGreatWk25
import Derived.Test.YtmmhnfghklppiaaGreatWk29
import Derived.Test.YtmmhnfghklppiaaGreatWk31
import Derived.Test.YtmmhnfghklppiaaGreatWk30
namespace Go.Proofs.YtmmhnfghklppiaaGreat.Vm
open Go
set_option linter.unusedSimpArgs false
set_option linter.unusedVariables false
set_option maxHeartbeats 1000000
theorem zqZ (a:Nat):Int.tmod (a:Int) 2=((a % 2:Nat):Int):=rfl
theorem ztZ (a:Nat):Int.tdiv (a:Int) 2=((a / 2:Nat):Int):=rfl
theorem zui (a:Nat):Int.tdiv (a:Int) 4=((a / 4:Nat):Int):=rfl
theorem zux (a:Nat):Int.tdiv (a:Int) 8=((a / 8:Nat):Int):=rfl
theorem zsv (a:Nat):Int.tdiv (a:Int) 16=((a / 16:Nat):Int):=rfl
theorem zs7 (a:Nat):Int.tdiv (a:Int) 32=((a / 32:Nat):Int):=rfl
theorem sh57:G.shared 57=false:=by decide
theorem e57 (n:Nat) (s:Span) (k:Nat):zK G (n+1) 57 [.agg s.cells,.int .i64 k]=some (.int .i64 (bE s k)):=by
 refine zz (zy _) rfl g57 rfl ?_
 have h2:k % 2=0\/k % 2=1:=by omega
 unfold bE;rcases h2 with h2|h2
 .have h:Int.tmod (k:Int) 2=0:=by rw [zqZ,h2];rfl
  rw [if_pos h2];simp [*,zb,c57,Span.cells]
 .have h:Int.tmod (k:Int) 2=1:=by rw [zqZ,h2];rfl
  rw [if_neg (by omega)];simp [*,zb,c57,Span.cells]
theorem Rj {s:Span} {M:Int} (h:fT s M) (k:Nat):-M<=bE s k/\bE s k<=M:=by
 unfold bE fT at *
 split<;>omega
theorem zmu {a b c:Box} {k:Nat} {v:Span} (h:OC a b c (max k 1) v):OC a b c (max (k+1) 1) ⟨min v.lo (yg a b c k),max v.hi (yg a b c k)⟩:=by
 by_cases hk:k=0
 .subst hk;have h0:=zgs a b c;have e:v=⟨yg a b c 0,yg a b c 0⟩:=mH.unique h h0;subst e
  simpa using h0
 .rw [show max (k+1) 1=max k 1+1 by omega,show max k 1=k by omega];rw [show max k 1=k by omega] at h;exact zlX h
theorem zvf:G.shared 154=false:=by decide
theorem e154 (n:Nat) (a b c:Box) (ha:o7 a=true) (hb:o7 b=true) (hc:o7 c=true):zK G (n+3) 154 [.agg a.cells,.agg b.cells,.agg c.cells]=some (.agg (sP a b c).cells):=by
 refine zz (zy _) rfl g154 rfl ?_
 have va:=aF.1 ha;have vb:=aF.1 hb;have vc:=aF.1 hc;have sax:fT a.x 1048576:=by unfold fT;omega
 have say:fT a.y 1048576:=by unfold fT;omega
 have sbx:fT b.x 1048576:=by unfold fT;omega
 have sby:fT b.y 1048576:=by unfold fT;omega
 have scx:fT c.x 1048576:=by unfold fT;omega
 have scy:fT c.y 1048576:=by unfold fT;omega
 clear va vb vc ha hb hc;have hT:∀ i j x y z w H,zH (zu G (n+2)) H (.pure (.func 157 [])) [.pure (.int .i64 (bE a.x i)),.pure (.int .i64 (bE a.y j)),.pure (.int .i64 (bE b.x x)),.pure (.int .i64 (bE b.y y)),.pure (.int .i64 (bE c.x z)),.pure (.int .i64 (bE c.y w))]=some (.val (.pure (.int .i64 (qC ⟨bE a.x i,bE a.y j⟩ ⟨bE b.x x,bE b.y y⟩ ⟨bE c.x z,bE c.y w⟩)))):=fun i j x y z w H =>
  ze (caps:=[]) (ps:=[_,_,_,_,_,_]) zv2 (e157 (n+1) _ _ _ _ _ _ ⟨Rj sax i,Rj say j⟩ ⟨Rj sbx x,Rj sby y⟩ ⟨Rj scx z,Rj scy w⟩)
 have hE:∀ (s:Span) (k:Nat) H,zH (zu G (n+2)) H (.pure (.func 57 [])) [.pure (.agg s.cells),.pure (.int .i64 k)]=some (.val (.pure (.int .i64 (bE s k)))):=fun s k H=>ze (caps:=[]) (ps:=[_,_]) sh57 (e57 (n+1) s k);clear sax say sbx sby scx scy;have MZ:=hT 0 0 0 0 0 0;have k0:qC ⟨bE a.x 0,bE a.y 0⟩ ⟨bE b.x 0,bE b.y 0⟩ ⟨bE c.x 0,bE c.y 0⟩=yg a b c 0:=rfl;rw [k0] at MZ;simp only [bE,Nat.zero_mod,if_true] at MZ;have hT:=Hide.mk hT;have hE:=Hide.mk hE;have hs:=zgs a b c;generalize hk0:yg a b c 0=t0 at *;clear k0 hk0;have hs:=Hide.mk hs;(repeat' first|simp [*,zb,c154,Box.cells,Span.cells]|(apply za<;>intro _ h<;>try simp [-Nat.le_zero_eq] at h))
 refine zL [(9,10),(33,76)] (fun (k:Nat) env H=>env 9=.pure (.int .i64 k)/\k<=64/\H.nx=2/\H.get 0=.cells true [.pure (.int .i64 0),.pure (.int .i64 0)]/\∃ v:Span,H.get 1=.cells true [.pure (.int .i64 v.lo),.pure (.int .i64 v.hi)]/\Hide (OC a b c (max k 1) v)) (fun k=>64 - k) 0 ?_ ?_ ?_ ?_
 .decide
 .exact ⟨by simp,by omega,by simp,by simp,⟨t0,t0⟩,by simp,hs⟩
 .simp only [zF];omega
 clear hs MZ;rintro k env H ⟨g9,hk,bX,g0,v,gv,hv⟩
 by_cases aO:k < 64
 .have Ii:(k:Int) < 64:=by omega
  have w1:IntKind.i64.wrap ((k:Int)+1)=(k+1:Nat):=by rw [wrap64 (by omega) (by omega)];omega
  have q1:=ztZ k;have q2:=zui k;have q3:=zux k;have q4:=zsv k;have q5:=zs7 k;have u1:IntKind.i64.wrap ((k / 2:Nat):Int)=(k / 2:Nat):=wrap64 (by omega) (by omega);have u2:IntKind.i64.wrap ((k / 4:Nat):Int)=(k / 4:Nat):=wrap64 (by omega) (by omega);have u3:IntKind.i64.wrap ((k / 8:Nat):Int)=(k / 8:Nat):=wrap64 (by omega) (by omega);have u4:IntKind.i64.wrap ((k / 16:Nat):Int)=(k / 16:Nat):=wrap64 (by omega) (by omega);have u5:IntKind.i64.wrap ((k / 32:Nat):Int)=(k / 32:Nat):=wrap64 (by omega) (by omega);have e1:=hE.h a.x k;have e2:=hE.h a.y (k / 2);have e3:=hE.h b.x (k / 4);have e4:=hE.h b.y (k / 8);have e5:=hE.h c.x (k / 16);have e6:=hE.h c.y (k / 32);have hTk:=hT.h k (k / 2) (k / 4) (k / 8) (k / 16) (k / 32);have k0:qC ⟨bE a.x k,bE a.y (k / 2)⟩ ⟨bE b.x (k / 4),bE b.y (k / 8)⟩ ⟨bE c.x (k / 16),bE c.y (k / 32)⟩=yg a b c k:=rfl;rw [k0] at hTk;have hm:=Hide.mk (zmu hv.h);clear hE hT k0 hv;generalize yg a b c k=tk at *;generalize bE a.x k=x1 at *;generalize bE a.y (k / 2)=x2 at *;generalize bE b.x (k / 4)=x3 at *;generalize bE b.y (k / 8)=x4 at *;generalize bE c.x (k / 16)=x5 at *;generalize bE c.y (k / 32)=x6 at *;generalize k / 2=y2 at *;generalize k / 4=y3 at *;generalize k / 8=y4 at *;generalize k / 16=y5 at *;generalize k / 32=y6 at *;simp only [Span.cells] at e1 e2 e3 e4 e5 e6;(repeat' first|simp [*,zb]|(apply za<;>intro _ h<;>try simp [-Nat.le_zero_eq] at h));exact ⟨k+1,by omega,by omega,by omega,⟨min v.lo tk,max v.hi tk⟩,⟨rfl,rfl⟩,hm⟩
 .have hk64:k=64:=by omega
  subst hk64;have:=znf hv.h;subst this;clear hE hT hv;simp [*,zb]
theorem ui.vec {f:Fact} {l:List Box} (h:ui f l) (n:Nat):∃ (i j:Nat) (hi:i < l.length) (hj:j < l.length),f.a=i/\f.b=j/\az f l=(sw l[j].x l[i].x,sw l[j].y l[i].y) /\
  (∀ H,zH (zu G (n+1)) H (.pure (.func 141 [])) [.pure (.agg (l[j]).x.cells),.pure (.agg (l[i]).x.cells)]=some (.val (.pure (.agg (az f l).1.cells)))) /\
  (∀ H,zH (zu G (n+1)) H (.pure (.func 141 [])) [.pure (.agg (l[j]).y.cells),.pure (.agg (l[i]).y.cells)]=some (.val (.pure (.agg (az f l).2.cells)))):=by
 obtain ⟨i,hi,ea,ga⟩:=wm h.a.1 h.a.2;obtain ⟨j,hj,eb,gb⟩:=wm h.b.1 h.b.2;obtain ⟨h1,h2⟩:=h.box hi;obtain ⟨h3,h4⟩:=h.box hj;have hv:az f l=(sw l[j].x l[i].x,sw l[j].y l[i].y):=by unfold az;rw [ga,gb]
 refine ⟨i,j,hi,hj,ea,eb,hv,fun H=>?_,fun H=>?_⟩
 .rw [hv];exact ze (caps:=[]) (ps:=[_,_]) ztO (e141 n _ _ h3 h1)
 .rw [hv];exact ze (caps:=[]) (ps:=[_,_]) ztO (e141 n _ _ h4 h2)
theorem ui.amt {f:Fact} {l:List Box} (h:ui f l) (n:Nat):(∀ H,zH (zu G (n+1)) H (.pure (.func 140 [])) [.pure (.agg (az f l).1.cells)]=some (.val (.pure (.agg (zB (az f l).1).cells)))) /\
  (∀ H,zH (zu G (n+1)) H (.pure (.func 140 [])) [.pure (.agg (az f l).2.cells)]=some (.val (.pure (.agg (zB (az f l).2).cells)))):=by
 obtain ⟨v1,v2⟩:=Jr h;exact ⟨fun H=>ze (caps:=[]) (ps:=[_]) WT (e140 n _ (Gn v1 (by omega))),fun H=>ze (caps:=[]) (ps:=[_]) WT (e140 n _ (Gn v2 (by omega)))⟩
def Gu (f:Fact) (l:List Box):Span:=if f.kind=2 then sP l[f.a.toNat]! l[f.b.toNat]! l[f.c.toNat]! else if f.kind=5 then (az f l).1 else if f.kind=6 then (az f l).2 else CW (zB (az f l).1) (zB (az f l).2)
theorem ztl:G.shared 142=false:=by decide
theorem e142 (n:Nat) (f:Fact) (l:Sl Box) (hr:ui f l.xs):zK G (n+4) 142 [.agg f.cells,l.pv Box.cells 4]=some (.agg (Gu f l.xs).cells):=by
 refine zz (zy _) rfl g142 rfl ?_
 obtain ⟨i,j,hi,hj,ea,eb,hv,hx,hy⟩:=hr.vec (n+2);obtain ⟨sx,sy⟩:=hr.amt (n+2);have ga:l.xs[f.a.toNat]! = l.xs[i]:=by rw [ea];simp [hi]
 have gb:l.xs[f.b.toNat]! = l.xs[j]:=by rw [eb];simp [hj]
 have va:o7 l.xs[i]=true:=hr.v _ (List.getElem_mem hi);have vb:o7 l.xs[j]=true:=hr.v _ (List.getElem_mem hj);obtain ⟨v1,v2⟩:=Jr hr;obtain ⟨a1,a2,a3⟩:=WU v1;obtain ⟨b1,b2,b3⟩:=WU v2;have hc:=hr.c;have F8:=hr.v;clear v1 v2 hr;unfold Gu;rw [ga,gb];clear hv ga gb;generalize (az f l.xs).1=x at *;generalize (az f l.xs).2=y at *;generalize zB x=ax at *;generalize zB y=ay at *;have s1:=MO a1 (by omega);have s2:=MO (a:=ax.hi) (by omega) a3;have s3:=MO b1 (by omega);have s4:=MO (a:=ay.hi) (by omega) b3;have w1:IntKind.i64.wrap (ax.lo*ax.lo)=ax.lo*ax.lo:=wrap64 (by omega) (by omega);have w2:IntKind.i64.wrap (ax.hi*ax.hi)=ax.hi*ax.hi:=wrap64 (by omega) (by omega);have w3:IntKind.i64.wrap (ay.lo*ay.lo)=ay.lo*ay.lo:=wrap64 (by omega) (by omega);have w4:IntKind.i64.wrap (ay.hi*ay.hi)=ay.hi*ay.hi:=wrap64 (by omega) (by omega);have w5:IntKind.i64.wrap (ax.lo*ax.lo+ay.lo*ay.lo)=ax.lo*ax.lo+ay.lo*ay.lo:=wrap64 (by omega) (by omega);have w6:IntKind.i64.wrap (ax.hi*ax.hi+ay.hi*ay.hi)=ax.hi*ax.hi+ay.hi*ay.hi:=wrap64 (by omega) (by omega);clear a1 a2 a3 b1 b2 b3 s1 s2 s3 s4;simp only [Span.cells] at hx hy sx sy
 by_cases k2:f.kind=2
 .rw [if_pos k2];obtain ⟨k,hk,ec,gc⟩:=wm (hc k2).1 (hc k2).2;have vc:o7 l.xs[k]=true:=F8 _ (List.getElem_mem hk);have ht:=fun H=>ze (G:=G) (n:=n+3) (H:=H) (caps:=[]) (ps:=[.agg (l.xs[i]).cells,.agg (l.xs[j]).cells,.agg (l.xs[k]).cells]) zvf (e154 n _ _ _ va vb vc);rw [gc];simp only [Box.cells,Span.cells,List.map] at ht;clear va vb vc F8 hc gc;generalize sP l.xs[i] l.xs[j] l.xs[k]=T at *;simp [*,zb,c142,Fact.cells,Box.cells,Span.cells]
 rw [if_neg k2];clear va vb F8 hc
 by_cases k5:f.kind=5
 .rw [if_pos k5];simp [*,zb,c142,Fact.cells,Box.cells,Span.cells]
 rw [if_neg k5]
 by_cases k6:f.kind=6
 .rw [if_pos k6];simp [*,zb,c142,Fact.cells,Box.cells,Span.cells]
 rw [if_neg k6];simp [*,zb,c142,Fact.cells,Box.cells,Span.cells,CW]
theorem zoK {s:Span} (h:fT s 2097152):IntKind.i64.wrap (0 - s.lo)=- s.lo/\IntKind.i64.wrap (0 - s.hi)=- s.hi/\IntKind.i64.wrap (- s.lo)=- s.lo/\IntKind.i64.wrap (- s.hi)=- s.hi:=by
 unfold fT at h;exact ⟨by rw [wrap64 (by omega) (by omega)];omega,by rw [wrap64 (by omega) (by omega)];omega,wrap64 (by omega) (by omega),wrap64 (by omega) (by omega)⟩
theorem ztw:G.shared 139=false:=by decide
theorem e139 (n:Nat) (f:Fact) (l:Sl Box) (hr:ui f l.xs) (hq:0<=f.quarter/\f.quarter<=3):zK G (n+2) 139 [.agg f.cells,l.pv Box.cells 4]=some (.aQ [.agg (nA f.quarter (az f l.xs).1 (az f l.xs).2).1.cells,.agg (nA f.quarter (az f l.xs).1 (az f l.xs).2).2.cells]):=by
 refine zz (zy _) rfl g139 rfl ?_
 obtain ⟨i,j,hi,hj,ea,eb,hv,hx,hy⟩:=hr.vec n;obtain ⟨v1,v2⟩:=Jr hr;have n1:=zoK v1;have n2:=zoK v2;clear hr hv v1 v2;generalize (az f l.xs).1=x at *;generalize (az f l.xs).2=y at *;obtain ⟨w1,w2,w3,w4⟩:=n1;obtain ⟨w5,w6,w7,w8⟩:=n2;simp only [Span.cells] at hx hy;have hq:f.quarter=0\/f.quarter=1\/f.quarter=2\/f.quarter=3:=by omega
 rcases hq with q|q|q|q
 .rw [q];simp [*,zb,c139,Fact.cells,Box.cells,Span.cells,nA,beside]
 .rw [q];simp [*,zb,c139,Fact.cells,Box.cells,Span.cells,nA,beside]
 .rw [q];simp [*,zb,c139,Fact.cells,Box.cells,Span.cells,nA,beside]
 .rw [q];simp [*,zb,c139,Fact.cells,Box.cells,Span.cells,nA,beside]
theorem zvA:G.shared 119=false:=by decide
theorem e119 (n:Nat) (f:Fact) (l:Sl Box) (hr:ui f l.xs) (hq:f.kind=3->0<=f.quarter/\f.quarter<=3):zK G (n+6) 119 [.agg f.cells,l.pv Box.cells 4]=some (.bool (Es f l.xs).1):=by
 refine zz (zy _) rfl g119 rfl ?_
 obtain ⟨i,j,hi,hj,ea,eb,hv,hx,hy⟩:=hr.vec (n+4);obtain ⟨sx,sy⟩:=hr.amt (n+4);have fe:=fun H=>ze (G:=G) (n:=n+5) (H:=H) (caps:=[]) (ps:=[.agg f.cells,l.pv Box.cells 4]) ztl (e142 (n+1) f l hr);have FT:=fun hq H=>ze (G:=G) (n:=n+5) (H:=H) (caps:=[]) (ps:=[.agg f.cells,l.pv Box.cells 4]) ztw (e139 (n+3) f l hr hq);have bZ:=fun (s:Span) (hs:fT s 4194304) H=>ze (G:=G) (n:=n+5) (H:=H) (caps:=[]) (ps:=[.agg s.cells]) WT (e140 (n+4) s hs);obtain ⟨v1,v2⟩:=Jr hr;clear hr hv;rw [zhc];unfold Gu at fe;simp only [Fact.cells,List.map] at fe FT
 by_cases k3:f.kind=3
 .have FT:=FT (hq k3);have hw:fT (nA f.quarter (az f l.xs).1 (az f l.xs).2).2 4194304:=by
   unfold nA;(repeat' split)<;>first|exact Gn v1 (by omega)|exact Gn v2 (by omega)
  have bZ:=bZ _ hw;simp only [k3,ea,eb] at FT;rw [if_neg (by rw [k3];omega),if_pos k3];simp only [Span.cells,List.map] at bZ FT;clear fe hx hy sx sy v1 v2 hq hw;generalize (nA f.quarter (az f l.xs).1 (az f l.xs).2).1=u at *;generalize (nA f.quarter (az f l.xs).1 (az f l.xs).2).2=w at *;generalize hA:zB w=aw at *;(repeat' first|simp [*,zb,c119,Fact.cells,Span.cells,Ia]|(apply za<;>intro _ h<;>try simp [-Nat.le_zero_eq] at h))
 clear FT bZ v1 v2 hq
 by_cases k4:f.kind=4
 .rw [if_neg (by omega),if_neg k3,if_pos k4];simp only [Span.cells] at hx hy sx sy;clear fe;generalize (az f l.xs).1=x at *;generalize (az f l.xs).2=y at *;generalize zB x=ax at *;generalize zB y=ay at *;(repeat' first|simp [*,zb,c119,Fact.cells,Box.cells,Span.cells,Ib]|(apply za<;>intro _ h<;>try simp [-Nat.le_zero_eq] at h))
  all_goals omega
 clear hx hy sx sy;have hb:(if f.kind=2 then ng f.span (sP l.xs[f.a.toNat]! l.xs[f.b.toNat]! l.xs[f.c.toNat]!) else if f.kind=3 then Ia (nA f.quarter (az f l.xs).1 (az f l.xs).2).1 (nA f.quarter (az f l.xs).1 (az f l.xs).2).2
   else if f.kind=4 then Ib f.span (zB (az f l.xs).1) (zB (az f l.xs).2) else if f.kind=5 then ng f.span (az f l.xs).1 else if f.kind=6 then ng f.span (az f l.xs).2 else ng f.span (CW (zB (az f l.xs).1) (zB (az f l.xs).2)))=ng f.span (Gu f l.xs):=by
  unfold Gu;rw [if_neg k3,if_neg k4];(repeat' split)<;>rfl
 rw [hb];clear hb;have hv:Gu f l.xs=if f.kind=2 then sP l.xs[f.a.toNat]! l.xs[f.b.toNat]! l.xs[f.c.toNat]! else if f.kind=5 then (az f l.xs).1 else if f.kind=6 then (az f l.xs).2 else CW (zB (az f l.xs).1) (zB (az f l.xs).2):=rfl
 rw [<- hv] at fe;clear hv;generalize Gu f l.xs=v at *;simp only [Span.cells,ea,eb] at fe;(repeat' first|simp [*,zb,c119,Fact.cells,Span.cells,ng]|(apply za<;>intro _ h<;>try simp [-Nat.le_zero_eq] at h))
theorem zvI:G.shared 118=false:=by decide
theorem e118 (n:Nat) (f:Fact) (l:Sl Box) (hr:ui f l.xs) (hq:f.kind=3->0<=f.quarter/\f.quarter<=3):zK G (n+6) 118 [.agg f.cells,l.pv Box.cells 4]=some (.bool (Es f l.xs).2):=by
 refine zz (zy _) rfl g118 rfl ?_
 obtain ⟨i,j,hi,hj,ea,eb,hv,hx,hy⟩:=hr.vec (n+4);obtain ⟨sx,sy⟩:=hr.amt (n+4);have fe:=fun H=>ze (G:=G) (n:=n+5) (H:=H) (caps:=[]) (ps:=[.agg f.cells,l.pv Box.cells 4]) ztl (e142 (n+1) f l hr);have FT:=fun hq H=>ze (G:=G) (n:=n+5) (H:=H) (caps:=[]) (ps:=[.agg f.cells,l.pv Box.cells 4]) ztw (e139 (n+3) f l hr hq);have bZ:=fun (s:Span) (hs:fT s 4194304) H=>ze (G:=G) (n:=n+5) (H:=H) (caps:=[]) (ps:=[.agg s.cells]) WT (e140 (n+4) s hs);obtain ⟨v1,v2⟩:=Jr hr;clear hr hv;rw [zhc];unfold Gu at fe;simp only [Fact.cells,List.map] at fe FT
 by_cases k3:f.kind=3
 .have FT:=FT (hq k3);have hw:fT (nA f.quarter (az f l.xs).1 (az f l.xs).2).2 4194304:=by
   unfold nA;(repeat' split)<;>first|exact Gn v1 (by omega)|exact Gn v2 (by omega)
  have bZ:=bZ _ hw;simp only [k3,ea,eb] at FT;rw [if_neg (by rw [k3];omega),if_pos k3];simp only [Span.cells,List.map] at bZ FT;clear fe hx hy sx sy v1 v2 hq hw;generalize (nA f.quarter (az f l.xs).1 (az f l.xs).2).1=u at *;generalize (nA f.quarter (az f l.xs).1 (az f l.xs).2).2=w at *;generalize hA:zB w=aw at *;(repeat' first|simp [*,zb,c118,Fact.cells,Span.cells,Ia]|(apply za<;>intro _ h<;>try simp [-Nat.le_zero_eq] at h))
 clear FT bZ v1 v2 hq
 by_cases k4:f.kind=4
 .rw [if_neg (by omega),if_neg k3,if_pos k4];simp only [Span.cells] at hx hy sx sy;clear fe;generalize (az f l.xs).1=x at *;generalize (az f l.xs).2=y at *;generalize zB x=ax at *;generalize zB y=ay at *;(repeat' first|simp [*,zb,c118,Fact.cells,Box.cells,Span.cells,Ib]|(apply za<;>intro _ h<;>try simp [-Nat.le_zero_eq] at h))
  all_goals omega
 clear hx hy sx sy;have hb:(if f.kind=2 then ng f.span (sP l.xs[f.a.toNat]! l.xs[f.b.toNat]! l.xs[f.c.toNat]!) else if f.kind=3 then Ia (nA f.quarter (az f l.xs).1 (az f l.xs).2).1 (nA f.quarter (az f l.xs).1 (az f l.xs).2).2
   else if f.kind=4 then Ib f.span (zB (az f l.xs).1) (zB (az f l.xs).2) else if f.kind=5 then ng f.span (az f l.xs).1 else if f.kind=6 then ng f.span (az f l.xs).2 else ng f.span (CW (zB (az f l.xs).1) (zB (az f l.xs).2)))=ng f.span (Gu f l.xs):=by
  unfold Gu;rw [if_neg k3,if_neg k4];(repeat' split)<;>rfl
 rw [hb];clear hb;have hv:Gu f l.xs=if f.kind=2 then sP l.xs[f.a.toNat]! l.xs[f.b.toNat]! l.xs[f.c.toNat]! else if f.kind=5 then (az f l.xs).1 else if f.kind=6 then (az f l.xs).2 else CW (zB (az f l.xs).1) (zB (az f l.xs).2):=rfl
 rw [<- hv] at fe;clear hv;generalize Gu f l.xs=v at *;simp only [Span.cells,ea,eb] at fe;(repeat' first|simp [*,zb,c118,Fact.cells,Span.cells,ng]|(apply za<;>intro _ h<;>try simp [-Nat.le_zero_eq] at h))
theorem zt1 {f:Fact} {l:List Box} (h:QP f l=true):f.kind=3->0<=f.quarter/\f.quarter<=3:=fun hk=>by
 unfold QP at h;rw [Bool.and_eq_true] at h;have:=(CZ f l.length).1 h.2;omega
theorem ztx:G.shared 102=false:=by decide
theorem e102 (n:Nat) (f:Fact) (l:Sl Box) (hr:ui f l.xs) (hq:f.kind=3->0<=f.quarter/\f.quarter<=3):zK G (n+7) 102 [.agg f.cells,l.pv Box.cells 4]=some (.bool (zJ f l.xs)):=by
 refine zz (zy _) rfl g102 rfl ?_
 have h1:=fun H=>ze (G:=G) (n:=n+6) (H:=H) (caps:=[]) (ps:=[.agg f.cells,l.pv Box.cells 4]) zvA (e119 n f l hr hq);have h2:=fun H=>ze (G:=G) (n:=n+6) (H:=H) (caps:=[]) (ps:=[.agg f.cells,l.pv Box.cells 4]) zvI (e118 n f l hr hq);simp only [Fact.cells,List.map] at h1 h2;clear hr hq;unfold zJ;generalize Es f l.xs=b at *
 cases hn:f.nt
 .simp only [hn] at h1 h2;simp [*,zb,c102,Fact.cells]
 .simp only [hn] at h1 h2;simp [*,zb,c102,Fact.cells]
theorem zv7:G.shared 101=false:=by decide
theorem e101 (n:Nat) (l:Sl Pt) (hl:l.xs.length < 1000):zK G (n+1) 101 [l.pv Pt.cells 2]=some ((Sl.of (l.xs.map bT)).pv Box.cells 4):=by
 refine zz (zy _) rfl g101 rfl ?_
 (repeat' first|simp [*,zb,c101]|(apply za<;>intro _ h<;>try simp [-Nat.le_zero_eq] at h)|(show wpE 0 (zm ..) ..;refine zA ?_)|(refine zt fun v2 H2 fD aY aJ aK aL aM=>?_))
 refine zL [(3,36)] (fun (i:Nat) env H=>env 4=.pure (.int .i64 i)/\i<=l.xs.length/\aD Box.cells 4 H (env 3) ((l.xs.map bT).take i)) (fun i=>l.xs.length - i) 0 ?_ ?_ ?_ ?_
 .decide
 .exact ⟨by simp,by omega,by simpa using aD.nil⟩
 .simp only [zF];omega
 rintro i env H ⟨g0,hi,vC⟩;generalize g3:env 3=v at *
 by_cases aO:i < l.xs.length
 .have w1:IntKind.i64.wrap ((i:Int)+1)=(i+1:Nat):=by rw [wrap64 (by omega) (by omega)];omega
  have wu:((l.xs.map bT).take i).length=i:=by simp;omega
  have fA:=Hide.mk (zfM (f:=bT) aO);(repeat' first|simp [*,zb,Pt.cells]|(apply za<;>intro _ h<;>try simp [-Nat.le_zero_eq] at h)|(show wpE 0 (zm ..) ..;refine zA ?_)|(refine zt fun v2 H2 fD aY aJ aK aL aM=>?_));exact ⟨i+1,by omega,by omega,by omega,fD.cast fA.h⟩
 .have aX:i=l.xs.length:=by omega
  subst aX;have h1:=(aD.cast (m:=l.xs.map bT) vC (List.take_of_length_le (by rw [List.length_map];exact Nat.le_refl _))).res (n:=10) (fun _=>rfl);(repeat' first|simp [*,zb]|(apply za<;>intro _ h<;>try simp [-Nat.le_zero_eq] at h)|(show wpE 0 (zm ..) ..;refine zA ?_)|(refine zt fun v2 H2 fD aY aJ aK aL aM=>?_));exact h1
set_option maxHeartbeats 8000000
set_option maxRecDepth 4000
theorem Vl:G.shared 90=true:=by decide
def qD (p:Problem) (tree:Sl Node) (a:Nat) (b:Bool):aU:=.cells true [.pure (p.boxes.pv Box.cells 4),.pure (p.facts.pv Fact.cells 9),.pure (tree.pv Node.cells 4),.pure (.int .i64 a),.pure (.bool b)]
structure EK (p:Problem) (tree:Sl Node) (wb:Nat) (H H':Heap) (r:Bool×Nat):Prop where
 same:Sm (·=wb) H H'
 at_:H'.get wb=qD p tree r.2 r.1
def Gv (p:Problem) (tree:Sl Node) (m:Nat) (l:List Box) (a:Nat) (b:Bool):Bool×Nat:=if b=true then rG p.facts.xs tree.xs m l a else (false,a)
theorem znK {p:Problem} (ok:ae p) {tree:Sl Node} (wu:tree.xs.length < 4000000000000000000) {wb lb m F N:Nat} (bJ:wb≠lb) (hN:N=p.boxes.xs.length)
  (ih:∀ (H:Heap) (l:List Box) (a:Nat) (b:Bool),iq l < m->aP l p.boxes.xs->Wf l->a<=tree.xs.length->H.get wb=qD p tree a b->H.get lb=.cells true (zq Box.cells l) ->
   ∃ H',Vm.call G (F+8) (.fn 90) [.box wb 0,.row lb 4 0 N] H=some (.aQ [],H')/\EK p tree wb H H' (Gv p tree m l a b))
  (H:Heap) (l:List Box) (a:Nat) (b:Bool) (hm:iq l < m+1) (hs:aP l p.boxes.xs) (hw:Wf l) (ha:a<=tree.xs.length) (uo:H.get wb=qD p tree a b) (nY:H.get lb=.cells true (zq Box.cells l)) :
  ∃ H',Vm.call G (F+8+1) (.fn 90) [.box wb 0,.row lb 4 0 N] H=some (.aQ [],H')/\EK p tree wb H H' (Gv p tree (m+1) l a b):=by
 have La:=zx uo;have hln:=zx nY;have BM:l.length=N:=by rw [hN];exact hs.1
 have Vf:N<=12:=by rw [hN];exact ok.nb
 clear hN;have nf:=ok.nf;have main:∃ v' H',Vm.call G (F+8+1) (.fn 90) [.box wb 0,.row lb 4 0 N] H=some (v',H')/\(v'=.aQ []/\EK p tree wb H H' (Gv p tree (m+1) l a b)):=by
  refine Jl rfl g90 rfl ?_
  generalize hR:Gv p tree (m+1) l a b=R;unfold Gv at hR;unfold qD at uo
  cases b with
  | false =>
   rw [if_neg (by simp)] at hR;subst hR;clear ih
   by_cases sJ:a < tree.xs.length
   .have IZ:(a:Int) < tree.xs.length:=by omega
    have Lc:¬ tree.xs.length<=a:=by omega
    (repeat' first|simp [*,zb,c90]|(apply za<;>intro _ h<;>try simp [-Nat.le_zero_eq] at h));exact ⟨(by repeat (first|exact Sm.refl _ _|refine Sm.alloc ?_|refine Sm.set ?_ (by first|exact .inl rfl|exact .inr (by first|omega|simp|(simp;omega))))),(by rw [zn (by first|omega|(simp;omega))];unfold qD;push_cast;rfl)⟩
   .have IZ:¬ (a:Int) < tree.xs.length:=by omega
    have Nv:(tree.xs.length:Int)<=a:=by omega
    have Lc:tree.xs.length<=a:=by omega
    (repeat' first|simp [*,zb,c90]|(apply za<;>intro _ h<;>try simp [-Nat.le_zero_eq] at h));exact ⟨(by repeat (first|exact Sm.refl _ _|refine Sm.alloc ?_|refine Sm.set ?_ (by first|exact .inl rfl|exact .inr (by first|omega|simp|(simp;omega))))),(by rw [zn (by first|omega|(simp;omega))];unfold qD;push_cast;rfl)⟩
  | true =>
   rw [if_pos rfl] at hR;unfold rG at hR
   by_cases sJ:a < tree.xs.length
   case neg =>
    have e:tree.xs[a]?=none:=List.getElem?_eq_none (by omega);rw [e] at hR;subst hR;have IZ:¬ (a:Int) < tree.xs.length:=by omega
    have Nv:(tree.xs.length:Int)<=a:=by omega
    have Lc:tree.xs.length<=a:=by omega
    clear ih;(repeat' first|simp [*,zb,c90]|(apply za<;>intro _ h<;>try simp [-Nat.le_zero_eq] at h));exact ⟨(by repeat (first|exact Sm.refl _ _|refine Sm.alloc ?_|refine Sm.set ?_ (by first|exact .inl rfl|exact .inr (by first|omega|simp|(simp;omega))))),(by rw [zn (by first|omega|(simp;omega))];unfold qD;push_cast;rfl)⟩
   have e:tree.xs[a]?=some tree.xs[a]:=List.getElem?_eq_getElem sJ;rw [e] at hR;simp only at hR;have IZ:(a:Int) < tree.xs.length:=by omega
   have Lc:¬ tree.xs.length<=a:=by omega
   have w1:IntKind.i64.wrap ((a:Int)+1)=(a:Int)+1:=wrap64 (by omega) (by omega);obtain ⟨⟨df,dp,dx,dt⟩,hd⟩:∃ d,d=tree.xs[a]:=⟨_,rfl⟩
   have M7:=rQ (k:=.i64) (f:=Node.cells) (sz:=4) (s:=tree) sJ;rw [<- hd] at hR M7;simp only at hR;have K7:wb≠H.nx:=by omega
   have sW:H.nx≠wb:=by omega
   have Bw:lb≠H.nx:=by omega
   have wI:H.nx≠lb:=by omega
   have sZ:lb≠wb:=fun e=>bJ e.symm;have AA:wb < H.nx+1:=by omega
   have AB:wb≠H.nx+1:=by omega
   have tq:H.nx+1≠wb:=by omega
   have AJ:wb < H.nx+1+1:=by omega
   have AL:wb≠H.nx+1+1:=by omega
   have AO:H.nx+1+1≠wb:=by omega
   have AP:wb < H.nx+1+1+1:=by omega
   have AQ:wb≠H.nx+1+1+1:=by omega
   have wJ:H.nx+1+1+1≠wb:=by omega
   have AR:wb < H.nx+1+1+1+1:=by omega
   have AU:wb≠H.nx+1+1+1+1:=by omega
   have AX:H.nx+1+1+1+1≠wb:=by omega
   have AY:wb < H.nx+1+1+1+1+1:=by omega
   have AZ:lb < H.nx+1:=by omega
   have A7:lb≠H.nx+1:=by omega
   have wK:H.nx+1≠lb:=by omega
   have A8:lb < H.nx+1+1:=by omega
   have A9:lb≠H.nx+1+1:=by omega
   have Ba:H.nx+1+1≠lb:=by omega
   have Bc:lb < H.nx+1+1+1:=by omega
   have Bd:lb≠H.nx+1+1+1:=by omega
   have Be:H.nx+1+1+1≠lb:=by omega
   have Bf:lb < H.nx+1+1+1+1:=by omega
   have Bg:lb≠H.nx+1+1+1+1:=by omega
   have Bh:H.nx+1+1+1+1≠lb:=by omega
   have Bi:lb < H.nx+1+1+1+1+1:=by omega
   by_cases OH:df=-1
   case neg =>
    rw [if_pos OH] at hR
    by_cases c0:0<=df
    case neg =>
     have jC:R=(false,a+1):=by rw [<- hR];simp [c0]
     subst jC;clear ih hR hd;(repeat' first|simp [*,zb,c90,Node.cells]|(apply za<;>intro _ h<;>try simp [-Nat.le_zero_eq] at h));exact ⟨(by repeat (first|exact Sm.refl _ _|refine Sm.alloc ?_|refine Sm.set ?_ (by first|exact .inl rfl|exact .inr (by first|omega|simp|(simp;omega))))),(by rw [zn (by first|omega|(simp;omega))];unfold qD;push_cast;rfl)⟩
    by_cases c1:df < p.facts.xs.length
    case neg =>
     have jC:R=(false,a+1):=by rw [<- hR];simp [c1]
     subst jC;clear ih hR hd;(repeat' first|simp [*,zb,c90,Node.cells]|(apply za<;>intro _ h<;>try simp [-Nat.le_zero_eq] at h));exact ⟨(by repeat (first|exact Sm.refl _ _|refine Sm.alloc ?_|refine Sm.set ?_ (by first|exact .inl rfl|exact .inr (by first|omega|simp|(simp;omega))))),(by rw [zn (by first|omega|(simp;omega))];unfold qD;push_cast;rfl)⟩
    obtain ⟨k,rfl⟩:∃ k:Nat,df=k:=⟨df.toNat,by omega⟩
    have hk:k < p.facts.xs.length:=by omega
    have mr:=rQ (k:=.i64) (f:=Fact.cells) (sz:=9) (s:=p.facts) hk;rw [Int.toNat_natCast,getElem!_pos p.facts.xs k hk] at hR;have jC:R=(decide (dp=0)&&(decide (dx=0)&&(decide (dt=0)&&zJ p.facts.xs[k] l)),a+1):=by
     rw [<- hR];simp [c0,c1]
    clear hR
    by_cases c2:dp=0
    case neg =>
     have yc:R=(false,a+1):=by rw [jC];simp [c2]
     subst yc;clear ih hd jC;(repeat' first|simp [*,zb,c90,Node.cells]|(apply za<;>intro _ h<;>try simp [-Nat.le_zero_eq] at h));exact ⟨(by repeat (first|exact Sm.refl _ _|refine Sm.alloc ?_|refine Sm.set ?_ (by first|exact .inl rfl|exact .inr (by first|omega|simp|(simp;omega))))),(by rw [zn (by first|omega|(simp;omega))];unfold qD;push_cast;rfl)⟩
    by_cases c3:dx=0
    case neg =>
     have yc:R=(false,a+1):=by rw [jC];simp [c3]
     subst yc;clear ih hd jC;(repeat' first|simp [*,zb,c90,Node.cells]|(apply za<;>intro _ h<;>try simp [-Nat.le_zero_eq] at h));exact ⟨(by repeat (first|exact Sm.refl _ _|refine Sm.alloc ?_|refine Sm.set ?_ (by first|exact .inl rfl|exact .inr (by first|omega|simp|(simp;omega))))),(by rw [zn (by first|omega|(simp;omega))];unfold qD;push_cast;rfl)⟩
    by_cases c4:dt=0
    case neg =>
     have yc:R=(false,a+1):=by rw [jC];simp [c4]
     subst yc;clear ih hd jC;(repeat' first|simp [*,zb,c90,Node.cells]|(apply za<;>intro _ h<;>try simp [-Nat.le_zero_eq] at h));exact ⟨(by repeat (first|exact Sm.refl _ _|refine Sm.alloc ?_|refine Sm.set ?_ (by first|exact .inl rfl|exact .inr (by first|omega|simp|(simp;omega))))),(by rw [zn (by first|omega|(simp;omega))];unfold qD;push_cast;rfl)⟩
    have yc:R=(zJ p.facts.xs[k] l,a+1):=by rw [jC];simp [c2,c3,c4]
    subst yc;have bH:=QU ok hs hw (List.getElem_mem hk);have hq:=(CZ _ _).1 (ok.fact _ (List.getElem_mem hk));have hq3:p.facts.xs[k].kind=3->0<=p.facts.xs[k].quarter/\p.facts.xs[k].quarter<=3:=fun h3=>by
     have:=(hq.2.2.2.2.2.2 (by omega)).2.2.2.2.2 h3;omega
    have pR:∀ H2:Heap,H2.get lb=.cells true (zq Box.cells l)->zH (zu G (F+8)) H2 (.pure (.func 102 [])) [.pure (.agg p.facts.xs[k].cells),.row lb 4 0 N]=some (.val (.pure (.bool (zJ p.facts.xs[k] l)))):=fun H2 h=>by
     obtain ⟨s0,pM,Ao⟩:=Jm (n:=10) (f:=Box.cells) (sz:=4) (fun _=>rfl) h BM;subst pM;exact JE ztx (.cons (.pure _) (.cons Ao .nil)) (e102 (F+1) p.facts.xs[k] s0 bH hq3) rfl
    simp only [Fact.cells,Span.cells] at pR mr;clear ih hd jC bH hq hq3;generalize zJ p.facts.xs[k] l=B at *;(repeat' first|simp [*,zb,c90,Node.cells,Fact.cells,Span.cells]|(apply za<;>intro _ h<;>try simp [-Nat.le_zero_eq] at h));exact ⟨(by repeat (first|exact Sm.refl _ _|refine Sm.alloc ?_|refine Sm.set ?_ (by first|exact .inl rfl|exact .inr (by first|omega|simp|(simp;omega))))),(by rw [zn (by first|omega|(simp;omega))];unfold qD;push_cast;rfl)⟩
   subst OH;rw [if_neg (by simp)] at hR
   by_cases p0:0<=dp
   case neg =>
    have q0:dp < 0:=by omega
    rw [if_neg (fun h=>p0 h.1)] at hR;subst hR;clear ih hd;(repeat' first|simp [*,zb,c90,Node.cells]|(apply za<;>intro _ h<;>try simp [-Nat.le_zero_eq] at h));exact ⟨(by repeat (first|exact Sm.refl _ _|refine Sm.alloc ?_|refine Sm.set ?_ (by first|exact .inl rfl|exact .inr (by first|omega|simp|(simp;omega))))),(by rw [zn (by first|omega|(simp;omega))];unfold qD;push_cast;rfl)⟩
   have q0:¬ dp < 0:=by omega
   by_cases p1:dp < N
   case neg =>
    have q1:(N:Int)<=dp:=by omega
    rw [if_neg (fun h=>p1 (by rw [<- BM];exact h.2.1))] at hR;subst hR;clear ih hd;(repeat' first|simp [*,zb,c90,Node.cells]|(apply za<;>intro _ h<;>try simp [-Nat.le_zero_eq] at h));exact ⟨(by repeat (first|exact Sm.refl _ _|refine Sm.alloc ?_|refine Sm.set ?_ (by first|exact .inl rfl|exact .inr (by first|omega|simp|(simp;omega))))),(by rw [zn (by first|omega|(simp;omega))];unfold qD;push_cast;rfl)⟩
   have q1:¬ (N:Int)<=dp:=by omega
   by_cases x0:0<=dx
   case neg =>
    have q2:dx < 0:=by omega
    rw [if_neg (fun h=>x0 h.2.2.1)] at hR;subst hR;clear ih hd;(repeat' first|simp [*,zb,c90,Node.cells]|(apply za<;>intro _ h<;>try simp [-Nat.le_zero_eq] at h));exact ⟨(by repeat (first|exact Sm.refl _ _|refine Sm.alloc ?_|refine Sm.set ?_ (by first|exact .inl rfl|exact .inr (by first|omega|simp|(simp;omega))))),(by rw [zn (by first|omega|(simp;omega))];unfold qD;push_cast;rfl)⟩
   have q2:¬ dx < 0:=by omega
   by_cases x1:dx<=1
   case neg =>
    have x1':1 < dx:=by omega
    rw [if_neg (fun h=>x1 h.2.2.2)] at hR;subst hR;clear ih hd;(repeat' first|simp [*,zb,c90,Node.cells]|(apply za<;>intro _ h<;>try simp [-Nat.le_zero_eq] at h));exact ⟨(by repeat (first|exact Sm.refl _ _|refine Sm.alloc ?_|refine Sm.set ?_ (by first|exact .inl rfl|exact .inr (by first|omega|simp|(simp;omega))))),(by rw [zn (by first|omega|(simp;omega))];unfold qD;push_cast;rfl)⟩
   have q3:¬ 1 < dx:=by omega
   rw [if_pos ⟨p0,by rw [BM];exact p1,x0,x1⟩] at hR;obtain ⟨i,rfl⟩:∃ i:Nat,dp=i:=⟨dp.toNat,by omega⟩
   obtain ⟨x,rfl⟩:∃ x:Nat,dx=x:=⟨dx.toNat,by omega⟩
   have xO:i < N:=by omega
   have hi:i < l.length:=by omega
   have vF:x < 2:=by omega
   rw [Int.toNat_natCast,Int.toNat_natCast,getElem!_pos l i hi] at hR;have Dp:=aF.1 (KF ok hs hw _ (List.getElem_mem hi));have xU:x=0\/x=1:=by omega
   by_cases r2:(bz l[i] x).lo<=dt/\dt < (bz l[i] x).hi
   case neg =>
    rw [if_neg r2] at hR;subst hR;clear ih hd;rcases xU with rfl|rfl
    .have r3:¬ (l[i].x.lo<=dt/\dt < l[i].x.hi):=r2
     by_cases r4:dt < l[i].x.lo
     .clear r2 r3;(repeat' first|simp [*,zb,c90,Node.cells,Box.cells,Span.cells]|(apply za<;>intro _ h<;>try simp [-Nat.le_zero_eq] at h));exact ⟨(by repeat (first|exact Sm.refl _ _|refine Sm.alloc ?_|refine Sm.set ?_ (by first|exact .inl rfl|exact .inr (by first|omega|simp|(simp;omega))))),(by rw [zn (by first|omega|(simp;omega))];unfold qD;push_cast;rfl)⟩
     .have r5:l[i].x.hi<=dt:=by omega
      clear r2 r3;(repeat' first|simp [*,zb,c90,Node.cells,Box.cells,Span.cells]|(apply za<;>intro _ h<;>try simp [-Nat.le_zero_eq] at h));exact ⟨(by repeat (first|exact Sm.refl _ _|refine Sm.alloc ?_|refine Sm.set ?_ (by first|exact .inl rfl|exact .inr (by first|omega|simp|(simp;omega))))),(by rw [zn (by first|omega|(simp;omega))];unfold qD;push_cast;rfl)⟩
    .have r3:¬ (l[i].y.lo<=dt/\dt < l[i].y.hi):=r2
     by_cases r4:dt < l[i].y.lo
     .clear r2 r3;(repeat' first|simp [*,zb,c90,Node.cells,Box.cells,Span.cells]|(apply za<;>intro _ h<;>try simp [-Nat.le_zero_eq] at h));exact ⟨(by repeat (first|exact Sm.refl _ _|refine Sm.alloc ?_|refine Sm.set ?_ (by first|exact .inl rfl|exact .inr (by first|omega|simp|(simp;omega))))),(by rw [zn (by first|omega|(simp;omega))];unfold qD;push_cast;rfl)⟩
     .have r5:l[i].y.hi<=dt:=by omega
      clear r2 r3;(repeat' first|simp [*,zb,c90,Node.cells,Box.cells,Span.cells]|(apply za<;>intro _ h<;>try simp [-Nat.le_zero_eq] at h));exact ⟨(by repeat (first|exact Sm.refl _ _|refine Sm.alloc ?_|refine Sm.set ?_ (by first|exact .inl rfl|exact .inr (by first|omega|simp|(simp;omega))))),(by rw [zn (by first|omega|(simp;omega))];unfold qD;push_cast;rfl)⟩
   rw [if_pos r2] at hR;have hp:jI l i x dt:=⟨hi,vF,r2.1,r2.2⟩
   have m1:=TB hp;have m2:=TC hp;obtain ⟨z1,z2,z3,z4⟩:=WK (hw _ (List.getElem_mem hi)) r2.1 r2.2;have k1:=(aP.refl l).set (i:=i) z3;have k2:=(aP.refl l).set (i:=i) z4;rw [List.set_getElem_self,<- Gi hi] at k1;rw [List.set_getElem_self,<- Gj hi] at k2;have j1:=hw.set (i:=i) z1;have j2:=hw.set (i:=i) z2;rw [<- Gi hi] at j1;rw [<- Gj hi] at j2;have i1:=Hide.mk fun (H:Heap)=>ih H (fU l i x dt) (a+1) true (by omega) (k1.trans hs) j1 (by omega);have i2:=Hide.mk fun (H:Heap) (a':Nat) (b':Bool)=>ih H (pq l i x dt) a' b' (by omega) (k2.trans hs) j2;have hle:=UQ p.facts.xs tree.xs m (fU l i x dt) (a+1) (by omega);have p1':=H7 (f:=Box.cells) (sz:=4) (l:=l) (i:=i) (a:=pg l[i] x dt) (fun _=>rfl) (fun _=>rfl) (by decide) hi;have Vn:=H7 (f:=Box.cells) (sz:=4) (l:=l.set i (pg l[i] x dt)) (i:=i) (a:=BD l[i] x dt) (fun _=>rfl) (fun _=>rfl) (by decide) (by simpa using hi);have Vo:=H7 (f:=Box.cells) (sz:=4) (l:=l.set i (BD l[i] x dt)) (i:=i) (a:=l[i]) (fun _=>rfl) (fun _=>rfl) (by decide) (by simpa using hi);rw [List.set_set] at Vn Vo;rw [List.set_getElem_self] at Vo;rw [<- Gi hi] at p1' Vn;rw [<- Gj hi] at Vn Vo;have w2:IntKind.i64.wrap (dt+1)=dt+1:=by
    have h1:=r2.1;have h2:=r2.2
    refine wrap64 ?_ ?_<;>(unfold bz at h1 h2;by_cases e:x=0<;>simp only [e,if_true,if_false] at h1 h2<;>omega)
   obtain ⟨⟨b1,a1⟩,uj⟩:∃ r,rG p.facts.xs tree.xs m (fU l i x dt) (a+1)=r:=⟨_,rfl⟩
   have vK:Gv p tree m (fU l i x dt) (a+1) true=(b1,a1):=by unfold Gv;rw [if_pos rfl];exact uj
   rw [uj] at hR hle;rw [vK] at i1;simp only at hR hle;have jC:Gv p tree m (pq l i x dt) a1 b1=R:=by unfold Gv;exact hR
   have Dw:=hle.2;have Iq:=Hide.mk (i2.h);clear hle uj vK hR ih hp m1 m2 z1 z2 z3 z4 k1 k2 j1 j2 i2 hd hm hs hw;generalize fU l i x dt=L1 at *;generalize pq l i x dt=L2 at *;rcases xU with rfl|rfl
   .have r3:l[i].x.lo<=dt/\dt < l[i].x.hi:=r2;have r4:¬ dt < l[i].x.lo:=by omega
    have r5:¬ l[i].x.hi<=dt:=by omega
    simp only [pg,BD,mG,bz,Box.cells,Span.cells,if_true,if_false,Nat.one_ne_zero,List.map] at p1' Vn Vo;clear r2 r3;(repeat' first|simp [*,zb,c90,Node.cells,Box.cells,Span.cells]|(apply za<;>intro _ h<;>try simp [-Nat.le_zero_eq] at h))
    refine QF Vl (yl (i1.h _ ?_ ?_) ?_)
    .unfold qD;simp [K7,sW,Bw,wI,bJ,sZ,AA,AB,tq,AJ,AL,AO,AP,AQ,wJ,AR,AU,AX,AY,AZ,A7,wK,A8,A9,Ba,Bc,Bd,Be,Bf,Bg,Bh,Bi]
    .rw [zn (by simp [K7,sW,Bw,wI,bJ,sZ,AA,AB,tq,AJ,AL,AO,AP,AQ,wJ,AR,AU,AX,AY,AZ,A7,wK,A8,A9,Ba,Bc,Bd,Be,Bf,Bg,Bh,Bi])]
    .intro H1 o1;have e0:=o1.same.get H.nx (by simp) sW;have e1:=o1.same.get (H.nx+1) (by simp) tq;have e3:=o1.same.get (H.nx+1+1+1) (by simp) wJ;have el:=o1.same.get lb (by simp [K7,sW,Bw,wI,bJ,sZ,AA,AB,tq,AJ,AL,AO,AP,AQ,wJ,AR,AU,AX,AY,AZ,A7,wK,A8,A9,Ba,Bc,Bd,Be,Bf,Bg,Bh,Bi]) sZ;have n1:=o1.same.nx;have Dx:=o1.at_;have s1:Sm (fun j=>j=wb\/j=lb) H H1:=Sm.trans (by repeat (first|exact Sm.refl _ _|refine Sm.alloc ?_|refine Sm.set ?_ (by first|exact .inl (.inl rfl)|exact .inl (.inr rfl)|exact .inr (by first|omega|simp|(simp;omega))))) o1.same (fun j _ h=>.inl h);simp [K7,sW,Bw,wI,bJ,sZ,AA,AB,tq,AJ,AL,AO,AP,AQ,wJ,AR,AU,AX,AY,AZ,A7,wK,A8,A9,Ba,Bc,Bd,Be,Bf,Bg,Bh,Bi] at e0 e1 e3 el n1;unfold qD at Dx;simp only at Dx;have Rk:H.nx < H1.nx:=by omega
     have hA1:H.nx+1 < H1.nx:=by omega
     have hA3:H.nx+1+1+1 < H1.nx:=by omega
     have PM:lb < H1.nx:=by omega
     have hAw:wb < H1.nx:=by omega
     have I4:=Hide.mk o1.at_;clear o1 i1 n1 uo M7;(repeat' first|simp [*,zb]|(apply za<;>intro _ h<;>try simp [-Nat.le_zero_eq] at h))
     refine QF Vl (yl (Iq.h _ a1 b1 Dw ?_ ?_) ?_)
     .rw [zf bJ];exact I4.h
     .rw [zn PM]
     .intro H2 o2;have f0:=o2.same.get H.nx (by rw [mi];exact Rk) sW;have f1:=o2.same.get (H.nx+1) (by rw [mi];exact hA1) tq;have fl:=o2.same.get lb (by rw [mi];exact PM) sZ;rw [zf wI,e0] at f0;rw [zf wK,e1] at f1;rw [zn PM] at fl;have n2:=o2.same.nx;rw [mi] at n2;have s2:Sm (fun j=>j=wb\/j=lb) H H2:=Sm.trans (s1.set (.inl (.inr rfl))) o2.same (fun j _ h=>.inl h);have at2:=o2.at_;rw [jC] at at2;have hB0:H.nx < H2.nx:=by omega
      have FU:H.nx+1 < H2.nx:=by omega
      have hBl:lb < H2.nx:=by omega
      have PN:=Hide.mk at2;have Vp:=Hide.mk s2;clear o2 Iq e0 e1 e3 el Dx at2 s1 s2 I4 jC;(repeat' first|simp [*,zb]|(apply za<;>intro _ h<;>try simp [-Nat.le_zero_eq] at h))
      refine ⟨⟨by rw [mi];exact Vp.h.nx,fun j h1 h2=>?_⟩,by rw [zf bJ];exact PN.h⟩
      by_cases hj:j=lb
      .rw [hj,zn hBl];exact nY.symm
      .rw [zf hj]
       refine Vp.h.get j h1 fun h=>?_
       rcases h with h|h
       .exact h2 h
       .exact hj h
   .have r3:l[i].y.lo<=dt/\dt < l[i].y.hi:=r2;have r4:¬ dt < l[i].y.lo:=by omega
    have r5:¬ l[i].y.hi<=dt:=by omega
    simp only [pg,BD,mG,bz,Box.cells,Span.cells,if_true,if_false,Nat.one_ne_zero,List.map] at p1' Vn Vo;clear r2 r3;(repeat' first|simp [*,zb,c90,Node.cells,Box.cells,Span.cells]|(apply za<;>intro _ h<;>try simp [-Nat.le_zero_eq] at h))
    refine QF Vl (yl (i1.h _ ?_ ?_) ?_)
    .unfold qD;simp [K7,sW,Bw,wI,bJ,sZ,AA,AB,tq,AJ,AL,AO,AP,AQ,wJ,AR,AU,AX,AY,AZ,A7,wK,A8,A9,Ba,Bc,Bd,Be,Bf,Bg,Bh,Bi]
    .rw [zn (by simp [K7,sW,Bw,wI,bJ,sZ,AA,AB,tq,AJ,AL,AO,AP,AQ,wJ,AR,AU,AX,AY,AZ,A7,wK,A8,A9,Ba,Bc,Bd,Be,Bf,Bg,Bh,Bi])]
    .intro H1 o1;have e0:=o1.same.get H.nx (by simp) sW;have e1:=o1.same.get (H.nx+1) (by simp) tq;have e3:=o1.same.get (H.nx+1+1+1) (by simp) wJ;have el:=o1.same.get lb (by simp [K7,sW,Bw,wI,bJ,sZ,AA,AB,tq,AJ,AL,AO,AP,AQ,wJ,AR,AU,AX,AY,AZ,A7,wK,A8,A9,Ba,Bc,Bd,Be,Bf,Bg,Bh,Bi]) sZ;have n1:=o1.same.nx;have Dx:=o1.at_;have s1:Sm (fun j=>j=wb\/j=lb) H H1:=Sm.trans (by repeat (first|exact Sm.refl _ _|refine Sm.alloc ?_|refine Sm.set ?_ (by first|exact .inl (.inl rfl)|exact .inl (.inr rfl)|exact .inr (by first|omega|simp|(simp;omega))))) o1.same (fun j _ h=>.inl h);simp [K7,sW,Bw,wI,bJ,sZ,AA,AB,tq,AJ,AL,AO,AP,AQ,wJ,AR,AU,AX,AY,AZ,A7,wK,A8,A9,Ba,Bc,Bd,Be,Bf,Bg,Bh,Bi] at e0 e1 e3 el n1;unfold qD at Dx;simp only at Dx;have Rk:H.nx < H1.nx:=by omega
     have hA1:H.nx+1 < H1.nx:=by omega
     have hA3:H.nx+1+1+1 < H1.nx:=by omega
     have PM:lb < H1.nx:=by omega
     have hAw:wb < H1.nx:=by omega
     have I4:=Hide.mk o1.at_;clear o1 i1 n1 uo M7;(repeat' first|simp [*,zb]|(apply za<;>intro _ h<;>try simp [-Nat.le_zero_eq] at h))
     refine QF Vl (yl (Iq.h _ a1 b1 Dw ?_ ?_) ?_)
     .rw [zf bJ];exact I4.h
     .rw [zn PM]
     .intro H2 o2;have f0:=o2.same.get H.nx (by rw [mi];exact Rk) sW;have f1:=o2.same.get (H.nx+1) (by rw [mi];exact hA1) tq;have fl:=o2.same.get lb (by rw [mi];exact PM) sZ;rw [zf wI,e0] at f0;rw [zf wK,e1] at f1;rw [zn PM] at fl;have n2:=o2.same.nx;rw [mi] at n2;have s2:Sm (fun j=>j=wb\/j=lb) H H2:=Sm.trans (s1.set (.inl (.inr rfl))) o2.same (fun j _ h=>.inl h);have at2:=o2.at_;rw [jC] at at2;have hB0:H.nx < H2.nx:=by omega
      have FU:H.nx+1 < H2.nx:=by omega
      have hBl:lb < H2.nx:=by omega
      have PN:=Hide.mk at2;have Vp:=Hide.mk s2;clear o2 Iq e0 e1 e3 el Dx at2 s1 s2 I4 jC;(repeat' first|simp [*,zb]|(apply za<;>intro _ h<;>try simp [-Nat.le_zero_eq] at h))
      refine ⟨⟨by rw [mi];exact Vp.h.nx,fun j h1 h2=>?_⟩,by rw [zf bJ];exact PN.h⟩
      by_cases hj:j=lb
      .rw [hj,zn hBl];exact nY.symm
      .rw [zf hj]
       refine Vp.h.get j h1 fun h=>?_
       rcases h with h|h
       .exact h2 h
       .exact hj h
 obtain ⟨v',H',h1,rfl,h2⟩:=main;exact ⟨H',h1,h2⟩
theorem ziv {p:Problem} (ok:ae p) {tree:Sl Node} (wu:tree.xs.length < 4000000000000000000) {wb lb N:Nat} (bJ:wb≠lb) (hN:N=p.boxes.xs.length):∀ (m n:Nat) (H:Heap) (l:List Box) (a:Nat) (b:Bool),iq l < m->aP l p.boxes.xs->Wf l->a<=tree.xs.length->H.get wb=qD p tree a b->H.get lb=.cells true (zq Box.cells l) ->
  ∃ H',Vm.call G (n+m+8) (.fn 90) [.box wb 0,.row lb 4 0 N] H=some (.aQ [],H')/\EK p tree wb H H' (Gv p tree m l a b)
 | 0,n,H,l,a,b,hm,_,_,_,_,_=>absurd hm (Nat.not_lt_zero _)
 | m+1,n,H,l,a,b,hm,hs,hw,ha,hn,hg=>by
  have:=znK ok wu (m:=m) (F:=n+m) bJ hN (fun H l a b hm hs hw ha hn hg=>ziv ok wu bJ hN m n H l a b hm hs hw ha hn hg) H l a b hm hs hw ha hn hg;exact this
end Go.Proofs.YtmmhnfghklppiaaGreat.Vm
