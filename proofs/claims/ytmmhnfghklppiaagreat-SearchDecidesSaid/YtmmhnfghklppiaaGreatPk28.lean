/- What facts say of boxes, as the specification computes it. -/
import Derived.Test.YtmmhnfghklppiaaGreatPk17
import Derived.Test.YtmmhnfghklppiaaGreatPk18
namespace Go.Proofs.YtmmhnfghklppiaaGreat.Vm
open Go
set_option linter.unusedSimpArgs false
set_option linter.unusedVariables false
set_option maxHeartbeats 1000000
theorem zqG (a:Nat):Int.tmod (a:Int) 2=((a % 2:Nat):Int):=rfl
theorem zuk (a:Nat):Int.tdiv (a:Int) 2=((a / 2:Nat):Int):=rfl
theorem zuu (a:Nat):Int.tdiv (a:Int) 4=((a / 4:Nat):Int):=rfl
theorem zt1 (a:Nat):Int.tdiv (a:Int) 8=((a / 8:Nat):Int):=rfl
theorem zs7 (a:Nat):Int.tdiv (a:Int) 16=((a / 16:Nat):Int):=rfl
theorem zta (a:Nat):Int.tdiv (a:Int) 32=((a / 32:Nat):Int):=rfl
theorem sh57:G.shared 57=false:=by decide
theorem e57 (n:Nat) (s:Span) (k:Nat):zH G (n+1) 57 [.agg s.cells,.int .i64 k]=some (.int .i64 (endS s k)):=by
 refine zy (zx _) rfl g57 rfl ?_
 have h2:k % 2=0\/k % 2=1:=by omega
 unfold endS;rcases h2 with h2|h2
 ·have h:Int.tmod (k:Int) 2=0:=by rw [zqG,h2];rfl
  rw [if_pos h2];(repeat' first|simp [*,za,c57,Span.cells]|(apply zb<;>intro _ h<;>try simp [-Nat.le_zero_eq] at h))
 ·have h:Int.tmod (k:Int) 2=1:=by rw [zqG,h2];rfl
  rw [if_neg (by omega)];(repeat' first|simp [*,za,c57,Span.cells]|(apply zb<;>intro _ h<;>try simp [-Nat.le_zero_eq] at h))
theorem zfo {s:Span} {M:Int} (h:inS s M) (k:Nat):-M<=endS s k/\endS s k<=M:=by
 unfold endS inS at *
 split<;>omega
theorem zmb {a b c:Box} {k:Nat} {v:Span} (h:zfV a b c (max k 1) v):zfV a b c (max (k+1) 1) ⟨min v.lo (zcD a b c k),max v.hi (zcD a b c k)⟩:=by
 by_cases hk:k=0
 ·subst hk;have h0:=zga a b c;have e:v=⟨zcD a b c 0,zcD a b c 0⟩:=SpanOf.unique h h0;subst e
  simpa using h0
 ·rw [show max (k+1) 1=max k 1+1 by omega,show max k 1=k by omega];rw [show max k 1=k by omega] at h;exact zmJ h
theorem zvy:G.shared 154=false:=by decide
theorem e154 (n:Nat) (a b c:Box) (ha:zan a=true) (hb:zan b=true) (hc:zan c=true):zH G (n+3) 154 [.agg a.cells,.agg b.cells,.agg c.cells]=some (.agg (zbm a b c).cells):=by
 refine zy (zx _) rfl g154 rfl ?_
 have va:=valid_iff.1 ha;have vb:=valid_iff.1 hb;have vc:=valid_iff.1 hc;have sax:inS a.x 1048576:=by unfold inS;omega
 have say:inS a.y 1048576:=by unfold inS;omega
 have sbx:inS b.x 1048576:=by unfold inS;omega
 have sby:inS b.y 1048576:=by unfold inS;omega
 have scx:inS c.x 1048576:=by unfold inS;omega
 have scy:inS c.y 1048576:=by unfold inS;omega
 clear va vb vc ha hb hc;have hT:∀ i j x y z w H,zG (zt G (n+2)) H (.pure (.func 157 [])) [.pure (.int .i64 (endS a.x i)),.pure (.int .i64 (endS a.y j)),.pure (.int .i64 (endS b.x x)),.pure (.int .i64 (endS b.y y)),.pure (.int .i64 (endS c.x z)),.pure (.int .i64 (endS c.y w))]=some (.val (.pure (.int .i64 (zaW ⟨endS a.x i,endS a.y j⟩ ⟨endS b.x x,endS b.y y⟩ ⟨endS c.x z,endS c.y w⟩)))):=fun i j x y z w H =>
  zf (caps:=[]) (ps:=[_,_,_,_,_,_]) zvF (e157 (n+1) _ _ _ _ _ _ ⟨zfo sax i,zfo say j⟩ ⟨zfo sbx x,zfo sby y⟩ ⟨zfo scx z,zfo scy w⟩)
 have hE:∀ (s:Span) (k:Nat) H,zG (zt G (n+2)) H (.pure (.func 57 [])) [.pure (.agg s.cells),.pure (.int .i64 k)]=some (.val (.pure (.int .i64 (endS s k)))):=fun s k H=>zf (caps:=[]) (ps:=[_,_]) sh57 (e57 (n+1) s k);clear sax say sbx sby scx scy;have hT0:=hT 0 0 0 0 0 0;have k0:zaW ⟨endS a.x 0,endS a.y 0⟩ ⟨endS b.x 0,endS b.y 0⟩ ⟨endS c.x 0,endS c.y 0⟩=zcD a b c 0:=rfl;rw [k0] at hT0;simp only [endS,Nat.zero_mod,if_true] at hT0;have hT:=Hide.mk hT;have hE:=Hide.mk hE;have hs:=zga a b c;generalize hk0:zcD a b c 0=t0 at *;clear k0 hk0;have hs:=Hide.mk hs;(repeat' first|simp [*,za,c154,Box.cells,Span.cells]|(apply zb<;>intro _ h<;>try simp [-Nat.le_zero_eq] at h))
 refine zB [(9,10),(33,76)] (fun (k:Nat) env H=>env 9=.pure (.int .i64 k)/\k<=64/\H.nx=2/\H.get 0=.cells true [.pure (.int .i64 0),.pure (.int .i64 0)]/\∃ v:Span,H.get 1=.cells true [.pure (.int .i64 v.lo),.pure (.int .i64 v.hi)]/\Hide (zfV a b c (max k 1) v)) (fun k=>64 - k) 0 ?_ ?_ ?_ ?_
 ·decide
 ·exact ⟨by simp,by omega,by simp,by simp,⟨t0,t0⟩,by simp,hs⟩
 ·simp only [zz];omega
 clear hs hT0;rintro k env H ⟨g9,hk,hnx,g0,v,gv,hv⟩
 by_cases hlt:k < 64
 ·have hlI:(k:Int) < 64:=by omega
  have w1:IntKind.i64.wrap ((k:Int)+1)=(k+1:Nat):=by rw [wrap64 (by omega) (by omega)];omega
  have q1:=zuk k;have q2:=zuu k;have q3:=zt1 k;have q4:=zs7 k;have q5:=zta k;have u1:IntKind.i64.wrap ((k / 2:Nat):Int)=(k / 2:Nat):=wrap64 (by omega) (by omega);have u2:IntKind.i64.wrap ((k / 4:Nat):Int)=(k / 4:Nat):=wrap64 (by omega) (by omega);have u3:IntKind.i64.wrap ((k / 8:Nat):Int)=(k / 8:Nat):=wrap64 (by omega) (by omega);have u4:IntKind.i64.wrap ((k / 16:Nat):Int)=(k / 16:Nat):=wrap64 (by omega) (by omega);have u5:IntKind.i64.wrap ((k / 32:Nat):Int)=(k / 32:Nat):=wrap64 (by omega) (by omega);have e1:=hE.h a.x k;have e2:=hE.h a.y (k / 2);have e3:=hE.h b.x (k / 4);have e4:=hE.h b.y (k / 8);have e5:=hE.h c.x (k / 16);have e6:=hE.h c.y (k / 32);have hTk:=hT.h k (k / 2) (k / 4) (k / 8) (k / 16) (k / 32);have k0:zaW ⟨endS a.x k,endS a.y (k / 2)⟩ ⟨endS b.x (k / 4),endS b.y (k / 8)⟩ ⟨endS c.x (k / 16),endS c.y (k / 32)⟩=zcD a b c k:=rfl;rw [k0] at hTk;have hm:=Hide.mk (zmb hv.h);clear hE hT k0 hv;generalize zcD a b c k=tk at *;generalize endS a.x k=x1 at *;generalize endS a.y (k / 2)=x2 at *;generalize endS b.x (k / 4)=x3 at *;generalize endS b.y (k / 8)=x4 at *;generalize endS c.x (k / 16)=x5 at *;generalize endS c.y (k / 32)=x6 at *;generalize k / 2=y2 at *;generalize k / 4=y3 at *;generalize k / 8=y4 at *;generalize k / 16=y5 at *;generalize k / 32=y6 at *;simp only [Span.cells] at e1 e2 e3 e4 e5 e6;(repeat' first|simp [*,za]|(apply zb<;>intro _ h<;>try simp [-Nat.le_zero_eq] at h));exact ⟨k+1,by omega,by omega,by omega,⟨min v.lo tk,max v.hi tk⟩,⟨rfl,rfl⟩,hm⟩
 ·have hk64:k=64:=by omega
  subst hk64;have:=znc hv.h;subst this;clear hE hT hv;(repeat' first|simp [*,za]|(apply zb<;>intro _ h<;>try simp [-Nat.le_zero_eq] at h))
theorem ROk.vec {f:Fact} {l:List Box} (h:ROk f l) (n:Nat):∃ (i j:Nat) (hi:i < l.length) (hj:j < l.length),f.a=i/\f.b=j/\vecS f l=(zbe l[j].x l[i].x,zbe l[j].y l[i].y) /\
  (∀ H,zG (zt G (n+1)) H (.pure (.func 141 [])) [.pure (.agg (l[j]).x.cells),.pure (.agg (l[i]).x.cells)]=some (.val (.pure (.agg (vecS f l).1.cells)))) /\
  (∀ H,zG (zt G (n+1)) H (.pure (.func 141 [])) [.pure (.agg (l[j]).y.cells),.pure (.agg (l[i]).y.cells)]=some (.val (.pure (.agg (vecS f l).2.cells)))):=by
 obtain ⟨i,hi,ea,ga⟩:=getB h.a.1 h.a.2;obtain ⟨j,hj,eb,gb⟩:=getB h.b.1 h.b.2;obtain ⟨h1,h2⟩:=h.box hi;obtain ⟨h3,h4⟩:=h.box hj;have hv:vecS f l=(zbe l[j].x l[i].x,zbe l[j].y l[i].y):=by unfold vecS;rw [ga,gb]
 refine ⟨i,j,hi,hj,ea,eb,hv,fun H=>?_,fun H=>?_⟩
 ·rw [hv];exact zf (caps:=[]) (ps:=[_,_]) ztJ (e141 n _ _ h3 h1)
 ·rw [hv];exact zf (caps:=[]) (ps:=[_,_]) ztJ (e141 n _ _ h4 h2)
theorem ROk.amt {f:Fact} {l:List Box} (h:ROk f l) (n:Nat):(∀ H,zG (zt G (n+1)) H (.pure (.func 140 [])) [.pure (.agg (vecS f l).1.cells)]=some (.val (.pure (.agg (zA (vecS f l).1).cells)))) /\
  (∀ H,zG (zt G (n+1)) H (.pure (.func 140 [])) [.pure (.agg (vecS f l).2.cells)]=some (.val (.pure (.agg (zA (vecS f l).2).cells)))):=by
 obtain ⟨v1,v2⟩:=zcO h;exact ⟨fun H=>zf (caps:=[]) (ps:=[_]) zoH (e140 n _ (zbE v1 (by omega))),fun H=>zf (caps:=[]) (ps:=[_]) zoH (e140 n _ (zbE v2 (by omega)))⟩
def zcc (f:Fact) (l:List Box):Span:=if f.kind=2 then zbm l[f.a.toNat]! l[f.b.toNat]! l[f.c.toNat]! else if f.kind=5 then (vecS f l).1 else if f.kind=6 then (vecS f l).2 else zcU (zA (vecS f l).1) (zA (vecS f l).2)
theorem ztE:G.shared 142=false:=by decide
theorem e142 (n:Nat) (f:Fact) (l:Sl Box) (hr:ROk f l.xs):zH G (n+4) 142 [.agg f.cells,l.pv Box.cells 4]=some (.agg (zcc f l.xs).cells):=by
 refine zy (zx _) rfl g142 rfl ?_
 obtain ⟨i,j,hi,hj,ea,eb,hv,hx,hy⟩:=hr.vec (n+2);obtain ⟨sx,sy⟩:=hr.amt (n+2);have ga:l.xs[f.a.toNat]! = l.xs[i]:=by rw [ea];simp [hi]
 have gb:l.xs[f.b.toNat]! = l.xs[j]:=by rw [eb];simp [hj]
 have va:zan l.xs[i]=true:=hr.v _ (List.getElem_mem hi);have vb:zan l.xs[j]=true:=hr.v _ (List.getElem_mem hj);obtain ⟨v1,v2⟩:=zcO hr;obtain ⟨a1,a2,a3⟩:=zeu v1;obtain ⟨b1,b2,b3⟩:=zeu v2;have hc:=hr.c;have hvv:=hr.v;clear v1 v2 hr;unfold zcc;rw [ga,gb];clear hv ga gb;generalize (vecS f l.xs).1=x at *;generalize (vecS f l.xs).2=y at *;generalize zA x=ax at *;generalize zA y=ay at *;have s1:=zhb a1 (by omega);have s2:=zhb (a:=ax.hi) (by omega) a3;have s3:=zhb b1 (by omega);have s4:=zhb (a:=ay.hi) (by omega) b3;have w1:IntKind.i64.wrap (ax.lo*ax.lo)=ax.lo*ax.lo:=wrap64 (by omega) (by omega);have w2:IntKind.i64.wrap (ax.hi*ax.hi)=ax.hi*ax.hi:=wrap64 (by omega) (by omega);have w3:IntKind.i64.wrap (ay.lo*ay.lo)=ay.lo*ay.lo:=wrap64 (by omega) (by omega);have w4:IntKind.i64.wrap (ay.hi*ay.hi)=ay.hi*ay.hi:=wrap64 (by omega) (by omega);have w5:IntKind.i64.wrap (ax.lo*ax.lo+ay.lo*ay.lo)=ax.lo*ax.lo+ay.lo*ay.lo:=wrap64 (by omega) (by omega);have w6:IntKind.i64.wrap (ax.hi*ax.hi+ay.hi*ay.hi)=ax.hi*ax.hi+ay.hi*ay.hi:=wrap64 (by omega) (by omega);clear a1 a2 a3 b1 b2 b3 s1 s2 s3 s4;simp only [Span.cells] at hx hy sx sy
 by_cases k2:f.kind=2
 ·rw [if_pos k2];obtain ⟨k,hk,ec,gc⟩:=getB (hc k2).1 (hc k2).2;have vc:zan l.xs[k]=true:=hvv _ (List.getElem_mem hk);have ht:=fun H=>zf (G:=G) (n:=n+3) (H:=H) (caps:=[]) (ps:=[.agg (l.xs[i]).cells,.agg (l.xs[j]).cells,.agg (l.xs[k]).cells]) zvy (e154 n _ _ _ va vb vc);rw [gc];simp only [Box.cells,Span.cells,List.map_cons,List.map_nil] at ht;clear va vb vc hvv hc gc;generalize zbm l.xs[i] l.xs[j] l.xs[k]=T at *;(repeat' first|simp [*,za,c142,Fact.cells,Box.cells,Span.cells]|(apply zb<;>intro _ h<;>try simp [-Nat.le_zero_eq] at h))
 rw [if_neg k2];clear va vb hvv hc
 by_cases k5:f.kind=5
 ·rw [if_pos k5];(repeat' first|simp [*,za,c142,Fact.cells,Box.cells,Span.cells]|(apply zb<;>intro _ h<;>try simp [-Nat.le_zero_eq] at h))
 rw [if_neg k5]
 by_cases k6:f.kind=6
 ·rw [if_pos k6];(repeat' first|simp [*,za,c142,Fact.cells,Box.cells,Span.cells]|(apply zb<;>intro _ h<;>try simp [-Nat.le_zero_eq] at h))
 rw [if_neg k6];(repeat' first|simp [*,za,c142,Fact.cells,Box.cells,Span.cells,zcU]|(apply zb<;>intro _ h<;>try simp [-Nat.le_zero_eq] at h))
theorem zoN {s:Span} (h:inS s 2097152):IntKind.i64.wrap (0 - s.lo)=- s.lo/\IntKind.i64.wrap (0 - s.hi)=- s.hi/\IntKind.i64.wrap (- s.lo)=- s.lo/\IntKind.i64.wrap (- s.hi)=- s.hi:=by
 unfold inS at h;exact ⟨by rw [wrap64 (by omega) (by omega)];omega,by rw [wrap64 (by omega) (by omega)];omega,wrap64 (by omega) (by omega),wrap64 (by omega) (by omega)⟩
theorem ztk:G.shared 139=false:=by decide
theorem e139 (n:Nat) (f:Fact) (l:Sl Box) (hr:ROk f l.xs) (hq:0<=f.quarter/\f.quarter<=3):zH G (n+2) 139 [.agg f.cells,l.pv Box.cells 4]=some (.tup [.agg (zaj f.quarter (vecS f l.xs).1 (vecS f l.xs).2).1.cells,.agg (zaj f.quarter (vecS f l.xs).1 (vecS f l.xs).2).2.cells]):=by
 refine zy (zx _) rfl g139 rfl ?_
 obtain ⟨i,j,hi,hj,ea,eb,hv,hx,hy⟩:=hr.vec n;obtain ⟨v1,v2⟩:=zcO hr;have n1:=zoN v1;have n2:=zoN v2;clear hr hv v1 v2;generalize (vecS f l.xs).1=x at *;generalize (vecS f l.xs).2=y at *;obtain ⟨w1,w2,w3,w4⟩:=n1;obtain ⟨w5,w6,w7,w8⟩:=n2;simp only [Span.cells] at hx hy;have hq:f.quarter=0\/f.quarter=1\/f.quarter=2\/f.quarter=3:=by omega
 rcases hq with q|q|q|q
 ·rw [q];(repeat' first|simp [*,za,c139,Fact.cells,Box.cells,Span.cells,zaj,beside]|(apply zb<;>intro _ h<;>try simp [-Nat.le_zero_eq] at h))
 ·rw [q];(repeat' first|simp [*,za,c139,Fact.cells,Box.cells,Span.cells,zaj,beside]|(apply zb<;>intro _ h<;>try simp [-Nat.le_zero_eq] at h))
 ·rw [q];(repeat' first|simp [*,za,c139,Fact.cells,Box.cells,Span.cells,zaj,beside]|(apply zb<;>intro _ h<;>try simp [-Nat.le_zero_eq] at h))
 ·rw [q];(repeat' first|simp [*,za,c139,Fact.cells,Box.cells,Span.cells,zaj,beside]|(apply zb<;>intro _ h<;>try simp [-Nat.le_zero_eq] at h))
theorem zvs:G.shared 119=false:=by decide
theorem e119 (n:Nat) (f:Fact) (l:Sl Box) (hr:ROk f l.xs) (hq:f.kind=3->0<=f.quarter/\f.quarter<=3):zH G (n+6) 119 [.agg f.cells,l.pv Box.cells 4]=some (.bool (zdC f l.xs).1):=by
 refine zy (zx _) rfl g119 rfl ?_
 obtain ⟨i,j,hi,hj,ea,eb,hv,hx,hy⟩:=hr.vec (n+4);obtain ⟨sx,sy⟩:=hr.amt (n+4);have hval:=fun H=>zf (G:=G) (n:=n+5) (H:=H) (caps:=[]) (ps:=[.agg f.cells,l.pv Box.cells 4]) ztE (e142 (n+1) f l hr);have hah:=fun hq H=>zf (G:=G) (n:=n+5) (H:=H) (caps:=[]) (ps:=[.agg f.cells,l.pv Box.cells 4]) ztk (e139 (n+3) f l hr hq);have hsz:=fun (s:Span) (hs:inS s 4194304) H=>zf (G:=G) (n:=n+5) (H:=H) (caps:=[]) (ps:=[.agg s.cells]) zoH (e140 (n+4) s hs);obtain ⟨v1,v2⟩:=zcO hr;clear hr hv;rw [zgW];unfold zcc at hval;simp only [Fact.cells,List.map_cons,List.map_nil] at hval hah
 by_cases k3:f.kind=3
 ·have hah:=hah (hq k3);have hw:inS (zaj f.quarter (vecS f l.xs).1 (vecS f l.xs).2).2 4194304:=by
   unfold zaj;(repeat' split)<;>first|exact zbE v1 (by omega)|exact zbE v2 (by omega)
  have hsz:=hsz _ hw;simp only [k3,ea,eb] at hah;rw [if_neg (by rw [k3];omega),if_pos k3];simp only [Span.cells,List.map_cons,List.map_nil] at hsz hah;clear hval hx hy sx sy v1 v2 hq hw;generalize (zaj f.quarter (vecS f l.xs).1 (vecS f l.xs).2).1=u at *;generalize (zaj f.quarter (vecS f l.xs).1 (vecS f l.xs).2).2=w at *;generalize hA:zA w=aw at *;(repeat' first|simp [*,za,c119,Fact.cells,Span.cells,zbn]|(apply zb<;>intro _ h<;>try simp [-Nat.le_zero_eq] at h))
 clear hah hsz v1 v2 hq
 by_cases k4:f.kind=4
 ·rw [if_neg (by omega),if_neg k3,if_pos k4];simp only [Span.cells] at hx hy sx sy;clear hval;generalize (vecS f l.xs).1=x at *;generalize (vecS f l.xs).2=y at *;generalize zA x=ax at *;generalize zA y=ay at *;(repeat' first|simp [*,za,c119,Fact.cells,Box.cells,Span.cells,zcN]|(apply zb<;>intro _ h<;>try simp [-Nat.le_zero_eq] at h))
  all_goals omega
 clear hx hy sx sy;have hb:(if f.kind=2 then zQ f.span (zbm l.xs[f.a.toNat]! l.xs[f.b.toNat]! l.xs[f.c.toNat]!) else if f.kind=3 then zbn (zaj f.quarter (vecS f l.xs).1 (vecS f l.xs).2).1 (zaj f.quarter (vecS f l.xs).1 (vecS f l.xs).2).2
   else if f.kind=4 then zcN f.span (zA (vecS f l.xs).1) (zA (vecS f l.xs).2) else if f.kind=5 then zQ f.span (vecS f l.xs).1 else if f.kind=6 then zQ f.span (vecS f l.xs).2 else zQ f.span (zcU (zA (vecS f l.xs).1) (zA (vecS f l.xs).2)))=zQ f.span (zcc f l.xs):=by
  unfold zcc;rw [if_neg k3,if_neg k4];(repeat' split)<;>rfl
 rw [hb];clear hb;have hv:zcc f l.xs=if f.kind=2 then zbm l.xs[f.a.toNat]! l.xs[f.b.toNat]! l.xs[f.c.toNat]! else if f.kind=5 then (vecS f l.xs).1 else if f.kind=6 then (vecS f l.xs).2 else zcU (zA (vecS f l.xs).1) (zA (vecS f l.xs).2):=rfl
 rw [<- hv] at hval;clear hv;generalize zcc f l.xs=v at *;simp only [Span.cells,ea,eb] at hval;(repeat' first|simp [*,za,c119,Fact.cells,Span.cells,zQ]|(apply zb<;>intro _ h<;>try simp [-Nat.le_zero_eq] at h))
theorem zvY:G.shared 118=false:=by decide
theorem e118 (n:Nat) (f:Fact) (l:Sl Box) (hr:ROk f l.xs) (hq:f.kind=3->0<=f.quarter/\f.quarter<=3):zH G (n+6) 118 [.agg f.cells,l.pv Box.cells 4]=some (.bool (zdC f l.xs).2):=by
 refine zy (zx _) rfl g118 rfl ?_
 obtain ⟨i,j,hi,hj,ea,eb,hv,hx,hy⟩:=hr.vec (n+4);obtain ⟨sx,sy⟩:=hr.amt (n+4);have hval:=fun H=>zf (G:=G) (n:=n+5) (H:=H) (caps:=[]) (ps:=[.agg f.cells,l.pv Box.cells 4]) ztE (e142 (n+1) f l hr);have hah:=fun hq H=>zf (G:=G) (n:=n+5) (H:=H) (caps:=[]) (ps:=[.agg f.cells,l.pv Box.cells 4]) ztk (e139 (n+3) f l hr hq);have hsz:=fun (s:Span) (hs:inS s 4194304) H=>zf (G:=G) (n:=n+5) (H:=H) (caps:=[]) (ps:=[.agg s.cells]) zoH (e140 (n+4) s hs);obtain ⟨v1,v2⟩:=zcO hr;clear hr hv;rw [zgW];unfold zcc at hval;simp only [Fact.cells,List.map_cons,List.map_nil] at hval hah
 by_cases k3:f.kind=3
 ·have hah:=hah (hq k3);have hw:inS (zaj f.quarter (vecS f l.xs).1 (vecS f l.xs).2).2 4194304:=by
   unfold zaj;(repeat' split)<;>first|exact zbE v1 (by omega)|exact zbE v2 (by omega)
  have hsz:=hsz _ hw;simp only [k3,ea,eb] at hah;rw [if_neg (by rw [k3];omega),if_pos k3];simp only [Span.cells,List.map_cons,List.map_nil] at hsz hah;clear hval hx hy sx sy v1 v2 hq hw;generalize (zaj f.quarter (vecS f l.xs).1 (vecS f l.xs).2).1=u at *;generalize (zaj f.quarter (vecS f l.xs).1 (vecS f l.xs).2).2=w at *;generalize hA:zA w=aw at *;(repeat' first|simp [*,za,c118,Fact.cells,Span.cells,zbn]|(apply zb<;>intro _ h<;>try simp [-Nat.le_zero_eq] at h))
 clear hah hsz v1 v2 hq
 by_cases k4:f.kind=4
 ·rw [if_neg (by omega),if_neg k3,if_pos k4];simp only [Span.cells] at hx hy sx sy;clear hval;generalize (vecS f l.xs).1=x at *;generalize (vecS f l.xs).2=y at *;generalize zA x=ax at *;generalize zA y=ay at *;(repeat' first|simp [*,za,c118,Fact.cells,Box.cells,Span.cells,zcN]|(apply zb<;>intro _ h<;>try simp [-Nat.le_zero_eq] at h))
  all_goals omega
 clear hx hy sx sy;have hb:(if f.kind=2 then zQ f.span (zbm l.xs[f.a.toNat]! l.xs[f.b.toNat]! l.xs[f.c.toNat]!) else if f.kind=3 then zbn (zaj f.quarter (vecS f l.xs).1 (vecS f l.xs).2).1 (zaj f.quarter (vecS f l.xs).1 (vecS f l.xs).2).2
   else if f.kind=4 then zcN f.span (zA (vecS f l.xs).1) (zA (vecS f l.xs).2) else if f.kind=5 then zQ f.span (vecS f l.xs).1 else if f.kind=6 then zQ f.span (vecS f l.xs).2 else zQ f.span (zcU (zA (vecS f l.xs).1) (zA (vecS f l.xs).2)))=zQ f.span (zcc f l.xs):=by
  unfold zcc;rw [if_neg k3,if_neg k4];(repeat' split)<;>rfl
 rw [hb];clear hb;have hv:zcc f l.xs=if f.kind=2 then zbm l.xs[f.a.toNat]! l.xs[f.b.toNat]! l.xs[f.c.toNat]! else if f.kind=5 then (vecS f l.xs).1 else if f.kind=6 then (vecS f l.xs).2 else zcU (zA (vecS f l.xs).1) (zA (vecS f l.xs).2):=rfl
 rw [<- hv] at hval;clear hv;generalize zcc f l.xs=v at *;simp only [Span.cells,ea,eb] at hval;(repeat' first|simp [*,za,c118,Fact.cells,Span.cells,zQ]|(apply zb<;>intro _ h<;>try simp [-Nat.le_zero_eq] at h))
theorem zt9 {f:Fact} {l:List Box} (h:zis f l=true):f.kind=3->0<=f.quarter/\f.quarter<=3:=fun hk=>by
 unfold zis at h;rw [Bool.and_eq_true] at h;have:=(z8 f l.length).1 h.2;omega
theorem ztI:G.shared 102=false:=by decide
theorem e102 (n:Nat) (f:Fact) (l:Sl Box) (hr:ROk f l.xs) (hq:f.kind=3->0<=f.quarter/\f.quarter<=3):zH G (n+7) 102 [.agg f.cells,l.pv Box.cells 4]=some (.bool (zJ f l.xs)):=by
 refine zy (zx _) rfl g102 rfl ?_
 have h1:=fun H=>zf (G:=G) (n:=n+6) (H:=H) (caps:=[]) (ps:=[.agg f.cells,l.pv Box.cells 4]) zvs (e119 n f l hr hq);have h2:=fun H=>zf (G:=G) (n:=n+6) (H:=H) (caps:=[]) (ps:=[.agg f.cells,l.pv Box.cells 4]) zvY (e118 n f l hr hq);simp only [Fact.cells,List.map_cons,List.map_nil] at h1 h2;clear hr hq;unfold zJ;generalize zdC f l.xs=b at *
 cases hn:f.nt
 ·simp only [hn] at h1 h2;(repeat' first|simp [*,za,c102,Fact.cells]|(apply zb<;>intro _ h<;>try simp [-Nat.le_zero_eq] at h))
 ·simp only [hn] at h1 h2;(repeat' first|simp [*,za,c102,Fact.cells]|(apply zb<;>intro _ h<;>try simp [-Nat.le_zero_eq] at h))
end Go.Proofs.YtmmhnfghklppiaaGreat.Vm
