/- The law SearchTrees, on the machine. 'boundstonelaw03.SearchTrees': whatever the input, the call returns true, and each argument reads afterwards as it read before.
   No conditions. -/
import Derived.Test.YtmmhnfghklppiaaGreatWk43
import Derived.Test.YtmmhnfghklppiaaGreatWk44
import Derived.Test.YtmmhnfghklppiaaGreatWk45
import Derived.Test.YtmmhnfghklppiaaGreatWk47
import Derived.Test.YtmmhnfghklppiaaGreatWk49
import Derived.Test.YtmmhnfghklppiaaGreatWk46
namespace Go.Proofs.YtmmhnfghklppiaaGreat.Vm
open Go
set_option linter.unusedSimpArgs false
set_option linter.unusedVariables false
set_option maxHeartbeats 4000000
set_option maxRecDepth 4000
theorem zrk:G.shared 9=false:=by decide
theorem zsy (H:Heap):zH (zu G 2060) H (.pure (.func 9 [])) []=some (.val (.pure (.bool true))):=zp2 (ps:=[]) zrk zpE
theorem zqu {p:Problem} (tu:oO p=true):∃ D e gs k,jL p D e/\(e=0->D.empty=true->ja p gs k/\iq p.boxes.xs<=600/\(wH p gs k).length<=200000000000)/\(Gw D.empty e (wH p gs k)).1.length<=200000000000:=by
 obtain ⟨D,e,so⟩:=zqi p
 by_cases hc:e=0/\D.empty=true
 .obtain ⟨rfl,hb⟩:=hc;rcases so with ⟨h1,_,h2⟩|⟨h0,hf⟩
  .exact absurd h2.symm h1
  .obtain ⟨gs,k,gi,nX,hl⟩:=zp6 tu h0 hf hb
   refine ⟨D,0,gs,k,.inr ⟨h0,hf⟩,fun _ _=>⟨gi,nX,hl⟩,?_⟩
   rw [hb];unfold Gw
   simpa using hl
 .refine ⟨D,e,[],0,so,fun h1 h2=>absurd ⟨h1,h2⟩ hc,?_⟩
  unfold Gw
  split
  .simp
  .rename_i he;rw [if_pos (by
    cases hb:D.empty with
    | false=>rfl
    | true=>exact absurd ⟨by omega,hb⟩ hc)]
   simp
structure P7 (x:iC):Prop where
 ends:∀ k,k < 4->(x.ends k).xs.length < 1000
 trees:∀ k,k < 4->(x.trees k).xs.length<=200000000000
theorem zpy {p:Problem} (tu:oO p=true) (pt:Int):∃ x e,zg3 p pt x e/\P7 x:=by
 obtain ⟨x,e,hx,hg⟩:=zpi p tu pt
 refine ⟨x,e,hx,?_⟩
 by_cases he:e=0
 .obtain ⟨D,h0,_,bH⟩:=hg he;have ck:=zsK h0 bH;have nb:=(bW.1 h0).nb;exact ⟨fun k hk=>by rw [(ck.sides k hk).len];omega,fun k hk=>by have:=(ck.sides k hk).tl;omega⟩
 .have hz:x=nQ:=by
   rcases hx with ⟨_,h,_⟩|⟨_,_,h,_⟩|⟨_,_,D,e',_,⟨_,h,_⟩|⟨_,_,h,_⟩|⟨_,h,_⟩⟩
   .exact h
   .exact h
   .exact h
   .exact h
   .exact absurd h he
  subst hz;exact ⟨fun k _=>by show 0 < 1000;decide,fun k _=>by show 0<=200000000000;decide⟩
def pW (b:Box) (e0 e1 e2 e3:Sl Pt) (t0 t1 t2 t3:Sl Node):iC:=⟨b,fun j=>match j with|0=>e0|1=>e1|2=>e2|_=>e3,fun j=>match j with|0=>t0|1=>t1|2=>t2|_=>t3⟩
theorem zW (b:Box) (e0 e1 e2 e3:Sl Pt) (t0 t1 t2 t3:Sl Node):(pW b e0 e1 e2 e3 t0 t1 t2 t3).cells=[.int .i64 b.x.lo,.int .i64 b.x.hi,.int .i64 b.y.lo,.int .i64 b.y.hi,e0.pv Pt.cells 2,e1.pv Pt.cells 2,e2.pv Pt.cells 2,e3.pv Pt.cells 2,t0.pv Node.cells 4,t1.pv Node.cells 4,t2.pv Node.cells 4,t3.pv Node.cells 4]:=rfl
theorem zvX {p:Problem} {b:Box} {e0 e1 e2 e3:Sl Pt} {t0 t1 t2 t3:Sl Node} (he:e0.xs.length < 1000/\e1.xs.length < 1000/\e2.xs.length < 1000/\e3.xs.length < 1000) (ht:t0.xs.length<=200000000001/\t1.xs.length<=200000000001/\t2.xs.length<=200000000001/\t3.xs.length<=200000000001) (nX:zQ p=0->iq p.boxes.xs<=600):I9 p (pW b e0 e1 e2 e3 t0 t1 t2 t3):=by
 refine ⟨fun k hk=>?_,fun k hk=>?_,nX⟩
 .have nW:k=0\/k=1\/k=2\/k=3:=by omega
  rcases nW with rfl|rfl|rfl|rfl
  .exact he.1
  .exact he.2.1
  .exact he.2.2.1
  .exact he.2.2.2
 .have nW:k=0\/k=1\/k=2\/k=3:=by omega
  rcases nW with rfl|rfl|rfl|rfl
  .show t0.xs.length < 4000000000000000000;omega
  .show t1.xs.length < 4000000000000000000;omega
  .show t2.xs.length < 4000000000000000000;omega
  .show t3.xs.length < 4000000000000000000;omega
theorem zpH (p:Problem) (point:Int) (x:bQ) (yt:Four):zK G 2061 5 [.agg p.cells,.int .i64 point,.agg x.cells,.agg yt.cells]=some (.bool true):=by
 refine zz (n:=2060) (zy _) rfl g5 rfl ?_
 have hh:=zsy;have hs:=fun H=>ze (G:=G) (n:=2060) (H:=H) (caps:=[]) (ps:=[.agg p.cells]) sh10 (e10 2057 p);simp only [Problem.cells,List.map] at hs
 cases xc:oO p with
 | false =>
  rw [xc] at hs;clear xc;(repeat' first|simp [*,zb,c5,Problem.cells,bQ.cells,Node.cells,Four.cells]|(apply za<;>intro _ h<;>try simp [-Nat.le_zero_eq] at h))
 | true =>
  rw [xc] at hs;have nX:zQ p=0->iq p.boxes.xs<=600:=fun h0=>zqG xc (bW.1 h0);obtain ⟨D0,e0,gs,k0,so,hg,hlen⟩:=zqu xc;have a3:=fun H=>ze (G:=G) (n:=2060) (H:=H) (caps:=[]) (ps:=[.agg p.cells]) sh11 (e11b 1360 p D0 e0 so gs k0 hg);obtain ⟨⟨T0,pe⟩,hT⟩:∃ r,Gw D0.empty e0 (wH p gs k0)=r:=⟨_,rfl⟩
  rw [hT] at a3 hlen;obtain ⟨T,hTd⟩:∃ T,T=Sl.of T0:=⟨_,rfl⟩
  have hTl:T.xs.length<=200000000000:=by rw [hTd,Sl.iV];simp only at hlen;omega
  have a4:=fun H=>ze (G:=G) (n:=2060) (H:=H) (caps:=[]) (ps:=[T.pv Node.cells 4,.agg x.cells]) sh20 (e20 2059 T x hTl);obtain ⟨S,hS⟩:∃ S:Sl Node,S=Sl.mk false (FY T.xs x):=⟨_,rfl⟩
  have rZ:S.xs.length < 4000000000000000000:=by
   rw [hS,Sl.iW];have:=zmE T.xs x;omega
  rw [<- hTd] at a3;rw [<- hS] at a4;have a5:=fun H=>ze (G:=G) (n:=2060) (H:=H) (caps:=[]) (ps:=[.agg p.cells,S.pv Node.cells 4]) sh14 (e14 1360 p S rZ nX);have a6:=fun H=>ze (G:=G) (n:=2060) (H:=H) (caps:=[]) (ps:=[.agg p.cells,S.pv Node.cells 4]) sh13 (e13 1360 p S rZ nX);generalize DC p S.xs=z1 at *;obtain ⟨y,ye,hy,Su⟩:=zpy xc point;have a7:=fun H=>ze (G:=G) (n:=2060) (H:=H) (caps:=[]) (ps:=[.agg p.cells,.int .i64 point]) sh21 (e21 1360 p point y ye hy);have a8:=Hide.mk fun (k:Nat) (hk:k < 4) (b:bQ) H=>ze (G:=G) (n:=2060) (H:=H) (caps:=[]) (ps:=[(y.trees k).pv Node.cells 4,.agg b.cells]) sh20 (e20 2059 (y.trees k) b (Su.trees k hk));have a9:=Hide.mk fun (x:iC) (h:I9 p x) H=>ze (G:=G) (n:=2060) (H:=H) (caps:=[]) (ps:=[.agg p.cells,.int .i64 point,.agg x.cells]) sh22 (e22b 1360 p point x h);have b9:=Hide.mk fun (x:iC) (h:I9 p x) H=>ze (G:=G) (n:=2060) (H:=H) (caps:=[]) (ps:=[.agg p.cells,.int .i64 point,.agg x.cells]) sh23 (e23b 1360 p point x h);have xY:=Hide.mk Su;have je:=Hide.mk nX;have hxc:y.cells=[.int .i64 y.box.x.lo,.int .i64 y.box.x.hi,.int .i64 y.box.y.lo,.int .i64 y.box.y.hi,(y.ends 0).pv Pt.cells 2,(y.ends 1).pv Pt.cells 2,(y.ends 2).pv Pt.cells 2,(y.ends 3).pv Pt.cells 2,(y.trees 0).pv Node.cells 4,(y.trees 1).pv Node.cells 4,(y.trees 2).pv Node.cells 4,(y.trees 3).pv Node.cells 4]:=rfl;rw [hxc] at a7;simp only [Problem.cells,bQ.cells,Node.cells,List.map] at a3 a4 a5 a6 a7;clear hg hlen hT hTd hTl hS rZ xc so hy Su nX hxc;have le:=And.intro (xY.h.ends 0 (by decide)) (And.intro (xY.h.ends 1 (by decide)) (And.intro (xY.h.ends 2 (by decide)) (xY.h.ends 3 (by decide))));have lt:=And.intro (xY.h.trees 0 (by decide)) (And.intro (xY.h.trees 1 (by decide)) (And.intro (xY.h.trees 2 (by decide)) (xY.h.trees 3 (by decide))));have a80:=a8.h 0 (by decide) ⟨IntKind.i64.wrap (x.what - 7),x.yt,1,x.node⟩;have a81:=a8.h 1 (by decide) ⟨IntKind.i64.wrap (x.what - 7),x.yt,1,x.node⟩;have a82:=a8.h 2 (by decide) ⟨IntKind.i64.wrap (x.what - 7),x.yt,1,x.node⟩;have a83:=a8.h 3 (by decide) ⟨IntKind.i64.wrap (x.what - 7),x.yt,1,x.node⟩;generalize y.ends 0=e0 at *;generalize y.ends 1=e1 at *;generalize y.ends 2=e2 at *;generalize y.ends 3=e3 at *;generalize y.trees 0=t0 at *;generalize y.trees 1=t1 at *;generalize y.trees 2=t2 at *;generalize y.trees 3=t3 at *;obtain ⟨⟨⟨y0,y1⟩,⟨y2,y3⟩⟩,_,_⟩:=y;simp only at a7;clear a8 xY;have bD:=Hide.mk fun {b:Box} {e0 e1 e2 e3:Sl Pt} {t0 t1 t2 t3:Sl Node} he ht=>zvX (p:=p) (b:=b) (e0:=e0) (e1:=e1) (e2:=e2) (e3:=e3) (t0:=t0) (t1:=t1) (t2:=t2) (t3:=t3) he ht je.h;obtain ⟨xw,xa,xb,⟨n0,n1,n2,n3⟩⟩:=x;obtain ⟨ba,bb,bc,bd⟩:=yt;have lT:=fun (l:List Node)=>zmE l ⟨IntKind.i64.wrap (xw - 7),xb,1,⟨n0,n1,n2,n3⟩⟩
  by_cases h7:7 < xw
  case neg =>
   by_cases h3:0 < bd
   case neg =>
    have hx:=bD.h (b:=⟨⟨IntKind.i64.wrap (y0+ba),IntKind.i64.wrap (y1+bb)⟩,⟨IntKind.i64.wrap (y2+bc),y3⟩⟩) (e0:=e0) (e1:=e1) (e2:=e2) (e3:=e3) (t0:=t0) (t1:=t1) (t2:=t2) (t3:=t3) ⟨by omega,by omega,by omega,by omega⟩ ⟨by omega,by omega,by omega,by omega⟩;have c1:=a9.h _ hx;have c2:=b9.h _ hx;generalize jY p point (pW _ _ _ _ _ _ _ _ _)=z2 at *;rw [zW] at c1 c2;simp only [Problem.cells,List.map] at c1 c2;clear a9 b9 je bD hx le lt a80 a81 a82 a83 lT;(repeat' first|simp [*,zb,c5,Problem.cells,bQ.cells,Node.cells,Four.cells,zl,zM]|(apply za<;>intro _ h<;>try simp [-Nat.le_zero_eq] at h))
   by_cases h4:bd < 4
   case neg =>
    have hx:=bD.h (b:=⟨⟨IntKind.i64.wrap (y0+ba),IntKind.i64.wrap (y1+bb)⟩,⟨IntKind.i64.wrap (y2+bc),y3⟩⟩) (e0:=e0) (e1:=e1) (e2:=e2) (e3:=e3) (t0:=t0) (t1:=t1) (t2:=t2) (t3:=t3) ⟨by omega,by omega,by omega,by omega⟩ ⟨by omega,by omega,by omega,by omega⟩;have c1:=a9.h _ hx;have c2:=b9.h _ hx;generalize jY p point (pW _ _ _ _ _ _ _ _ _)=z2 at *;rw [zW] at c1 c2;simp only [Problem.cells,List.map] at c1 c2;clear a9 b9 je bD hx le lt a80 a81 a82 a83 lT;(repeat' first|simp [*,zb,c5,Problem.cells,bQ.cells,Node.cells,Four.cells,zl,zM]|(apply za<;>intro _ h<;>try simp [-Nat.le_zero_eq] at h))
   have hd:bd=1\/bd=2\/bd=3:=by omega
   rcases hd with rfl|rfl|rfl
   .clear h3 h4;have hx:=bD.h (b:=⟨⟨IntKind.i64.wrap (y0+ba),IntKind.i64.wrap (y1+bb)⟩,⟨IntKind.i64.wrap (y2+bc),y3⟩⟩) (e0:=e1) (e1:=e1) (e2:=e2) (e3:=e3) (t0:=t0) (t1:=t1) (t2:=t2) (t3:=t3) ⟨by omega,by omega,by omega,by omega⟩ ⟨by omega,by omega,by omega,by omega⟩;have c1:=a9.h _ hx;have c2:=b9.h _ hx;generalize jY p point (pW _ _ _ _ _ _ _ _ _)=z2 at *;rw [zW] at c1 c2;simp only [Problem.cells,List.map] at c1 c2;clear a9 b9 je bD hx le lt a80 a81 a82 a83 lT;(repeat' first|simp [*,zb,c5,Problem.cells,bQ.cells,Node.cells,Four.cells,zl,zM]|(apply za<;>intro _ h<;>try simp [-Nat.le_zero_eq] at h))
   .clear h3 h4;have hx:=bD.h (b:=⟨⟨IntKind.i64.wrap (y0+ba),IntKind.i64.wrap (y1+bb)⟩,⟨IntKind.i64.wrap (y2+bc),y3⟩⟩) (e0:=e2) (e1:=e1) (e2:=e2) (e3:=e3) (t0:=t0) (t1:=t1) (t2:=t2) (t3:=t3) ⟨by omega,by omega,by omega,by omega⟩ ⟨by omega,by omega,by omega,by omega⟩;have c1:=a9.h _ hx;have c2:=b9.h _ hx;generalize jY p point (pW _ _ _ _ _ _ _ _ _)=z2 at *;rw [zW] at c1 c2;simp only [Problem.cells,List.map] at c1 c2;clear a9 b9 je bD hx le lt a80 a81 a82 a83 lT;(repeat' first|simp [*,zb,c5,Problem.cells,bQ.cells,Node.cells,Four.cells,zl,zM]|(apply za<;>intro _ h<;>try simp [-Nat.le_zero_eq] at h))
   .clear h3 h4;have hx:=bD.h (b:=⟨⟨IntKind.i64.wrap (y0+ba),IntKind.i64.wrap (y1+bb)⟩,⟨IntKind.i64.wrap (y2+bc),y3⟩⟩) (e0:=e3) (e1:=e1) (e2:=e2) (e3:=e3) (t0:=t0) (t1:=t1) (t2:=t2) (t3:=t3) ⟨by omega,by omega,by omega,by omega⟩ ⟨by omega,by omega,by omega,by omega⟩;have c1:=a9.h _ hx;have c2:=b9.h _ hx;generalize jY p point (pW _ _ _ _ _ _ _ _ _)=z2 at *;rw [zW] at c1 c2;simp only [Problem.cells,List.map] at c1 c2;clear a9 b9 je bD hx le lt a80 a81 a82 a83 lT;(repeat' first|simp [*,zb,c5,Problem.cells,bQ.cells,Node.cells,Four.cells,zl,zM]|(apply za<;>intro _ h<;>try simp [-Nat.le_zero_eq] at h))
  by_cases h0:0<=xa
  case neg =>
   by_cases h3:0 < bd
   case neg =>
    have hx:=bD.h (b:=⟨⟨IntKind.i64.wrap (y0+ba),IntKind.i64.wrap (y1+bb)⟩,⟨IntKind.i64.wrap (y2+bc),y3⟩⟩) (e0:=e0) (e1:=e1) (e2:=e2) (e3:=e3) (t0:=t0) (t1:=t1) (t2:=t2) (t3:=t3) ⟨by omega,by omega,by omega,by omega⟩ ⟨by omega,by omega,by omega,by omega⟩;have c1:=a9.h _ hx;have c2:=b9.h _ hx;generalize jY p point (pW _ _ _ _ _ _ _ _ _)=z2 at *;rw [zW] at c1 c2;simp only [Problem.cells,List.map] at c1 c2;clear a9 b9 je bD hx le lt a80 a81 a82 a83 lT;(repeat' first|simp [*,zb,c5,Problem.cells,bQ.cells,Node.cells,Four.cells,zl,zM]|(apply za<;>intro _ h<;>try simp [-Nat.le_zero_eq] at h))
   by_cases h4:bd < 4
   case neg =>
    have hx:=bD.h (b:=⟨⟨IntKind.i64.wrap (y0+ba),IntKind.i64.wrap (y1+bb)⟩,⟨IntKind.i64.wrap (y2+bc),y3⟩⟩) (e0:=e0) (e1:=e1) (e2:=e2) (e3:=e3) (t0:=t0) (t1:=t1) (t2:=t2) (t3:=t3) ⟨by omega,by omega,by omega,by omega⟩ ⟨by omega,by omega,by omega,by omega⟩;have c1:=a9.h _ hx;have c2:=b9.h _ hx;generalize jY p point (pW _ _ _ _ _ _ _ _ _)=z2 at *;rw [zW] at c1 c2;simp only [Problem.cells,List.map] at c1 c2;clear a9 b9 je bD hx le lt a80 a81 a82 a83 lT;(repeat' first|simp [*,zb,c5,Problem.cells,bQ.cells,Node.cells,Four.cells,zl,zM]|(apply za<;>intro _ h<;>try simp [-Nat.le_zero_eq] at h))
   have hd:bd=1\/bd=2\/bd=3:=by omega
   rcases hd with rfl|rfl|rfl
   .clear h3 h4;have hx:=bD.h (b:=⟨⟨IntKind.i64.wrap (y0+ba),IntKind.i64.wrap (y1+bb)⟩,⟨IntKind.i64.wrap (y2+bc),y3⟩⟩) (e0:=e1) (e1:=e1) (e2:=e2) (e3:=e3) (t0:=t0) (t1:=t1) (t2:=t2) (t3:=t3) ⟨by omega,by omega,by omega,by omega⟩ ⟨by omega,by omega,by omega,by omega⟩;have c1:=a9.h _ hx;have c2:=b9.h _ hx;generalize jY p point (pW _ _ _ _ _ _ _ _ _)=z2 at *;rw [zW] at c1 c2;simp only [Problem.cells,List.map] at c1 c2;clear a9 b9 je bD hx le lt a80 a81 a82 a83 lT;(repeat' first|simp [*,zb,c5,Problem.cells,bQ.cells,Node.cells,Four.cells,zl,zM]|(apply za<;>intro _ h<;>try simp [-Nat.le_zero_eq] at h))
   .clear h3 h4;have hx:=bD.h (b:=⟨⟨IntKind.i64.wrap (y0+ba),IntKind.i64.wrap (y1+bb)⟩,⟨IntKind.i64.wrap (y2+bc),y3⟩⟩) (e0:=e2) (e1:=e1) (e2:=e2) (e3:=e3) (t0:=t0) (t1:=t1) (t2:=t2) (t3:=t3) ⟨by omega,by omega,by omega,by omega⟩ ⟨by omega,by omega,by omega,by omega⟩;have c1:=a9.h _ hx;have c2:=b9.h _ hx;generalize jY p point (pW _ _ _ _ _ _ _ _ _)=z2 at *;rw [zW] at c1 c2;simp only [Problem.cells,List.map] at c1 c2;clear a9 b9 je bD hx le lt a80 a81 a82 a83 lT;(repeat' first|simp [*,zb,c5,Problem.cells,bQ.cells,Node.cells,Four.cells,zl,zM]|(apply za<;>intro _ h<;>try simp [-Nat.le_zero_eq] at h))
   .clear h3 h4;have hx:=bD.h (b:=⟨⟨IntKind.i64.wrap (y0+ba),IntKind.i64.wrap (y1+bb)⟩,⟨IntKind.i64.wrap (y2+bc),y3⟩⟩) (e0:=e3) (e1:=e1) (e2:=e2) (e3:=e3) (t0:=t0) (t1:=t1) (t2:=t2) (t3:=t3) ⟨by omega,by omega,by omega,by omega⟩ ⟨by omega,by omega,by omega,by omega⟩;have c1:=a9.h _ hx;have c2:=b9.h _ hx;generalize jY p point (pW _ _ _ _ _ _ _ _ _)=z2 at *;rw [zW] at c1 c2;simp only [Problem.cells,List.map] at c1 c2;clear a9 b9 je bD hx le lt a80 a81 a82 a83 lT;(repeat' first|simp [*,zb,c5,Problem.cells,bQ.cells,Node.cells,Four.cells,zl,zM]|(apply za<;>intro _ h<;>try simp [-Nat.le_zero_eq] at h))
  have hk:xa.tmod 4=0\/xa.tmod 4=1\/xa.tmod 4=2\/xa.tmod 4=3:=by
   rw [Int.tmod_eq_emod_of_nonneg h0];omega
  simp only [bQ.cells,Node.cells,List.map] at a80 a81 a82 a83;rcases hk with hk|hk|hk|hk
  .obtain ⟨S0,hS⟩:∃ S:Sl Node,S=Sl.mk false (FY t0.xs ⟨IntKind.i64.wrap (xw - 7),xb,1,⟨n0,n1,n2,n3⟩⟩):=⟨_,rfl⟩
   have rZ:S0.xs.length<=200000000001:=by
    rw [hS,Sl.iW];have:=lT t0.xs;omega
   rw [<- hS] at a80;clear hS
   by_cases h3:0 < bd
   case neg =>
    have hx:=bD.h (b:=⟨⟨IntKind.i64.wrap (y0+ba),IntKind.i64.wrap (y1+bb)⟩,⟨IntKind.i64.wrap (y2+bc),y3⟩⟩) (e0:=e0) (e1:=e1) (e2:=e2) (e3:=e3) (t0:=S0) (t1:=t1) (t2:=t2) (t3:=t3) ⟨by omega,by omega,by omega,by omega⟩ ⟨by omega,by omega,by omega,by omega⟩;have c1:=a9.h _ hx;have c2:=b9.h _ hx;generalize jY p point (pW _ _ _ _ _ _ _ _ _)=z2 at *;rw [zW] at c1 c2;simp only [Problem.cells,List.map] at c1 c2;clear a9 b9 je bD hx le lt a81 a82 a83 lT rZ;(repeat' first|simp [*,zb,c5,Problem.cells,bQ.cells,Node.cells,Four.cells,zl,zM]|(apply za<;>intro _ h<;>try simp [-Nat.le_zero_eq] at h))
   by_cases h4:bd < 4
   case neg =>
    have hx:=bD.h (b:=⟨⟨IntKind.i64.wrap (y0+ba),IntKind.i64.wrap (y1+bb)⟩,⟨IntKind.i64.wrap (y2+bc),y3⟩⟩) (e0:=e0) (e1:=e1) (e2:=e2) (e3:=e3) (t0:=S0) (t1:=t1) (t2:=t2) (t3:=t3) ⟨by omega,by omega,by omega,by omega⟩ ⟨by omega,by omega,by omega,by omega⟩;have c1:=a9.h _ hx;have c2:=b9.h _ hx;generalize jY p point (pW _ _ _ _ _ _ _ _ _)=z2 at *;rw [zW] at c1 c2;simp only [Problem.cells,List.map] at c1 c2;clear a9 b9 je bD hx le lt a81 a82 a83 lT rZ;(repeat' first|simp [*,zb,c5,Problem.cells,bQ.cells,Node.cells,Four.cells,zl,zM]|(apply za<;>intro _ h<;>try simp [-Nat.le_zero_eq] at h))
   have hd:bd=1\/bd=2\/bd=3:=by omega
   rcases hd with rfl|rfl|rfl
   .clear h3 h4;have hx:=bD.h (b:=⟨⟨IntKind.i64.wrap (y0+ba),IntKind.i64.wrap (y1+bb)⟩,⟨IntKind.i64.wrap (y2+bc),y3⟩⟩) (e0:=e1) (e1:=e1) (e2:=e2) (e3:=e3) (t0:=S0) (t1:=t1) (t2:=t2) (t3:=t3) ⟨by omega,by omega,by omega,by omega⟩ ⟨by omega,by omega,by omega,by omega⟩;have c1:=a9.h _ hx;have c2:=b9.h _ hx;generalize jY p point (pW _ _ _ _ _ _ _ _ _)=z2 at *;rw [zW] at c1 c2;simp only [Problem.cells,List.map] at c1 c2;clear a9 b9 je bD hx le lt a81 a82 a83 lT rZ;(repeat' first|simp [*,zb,c5,Problem.cells,bQ.cells,Node.cells,Four.cells,zl,zM]|(apply za<;>intro _ h<;>try simp [-Nat.le_zero_eq] at h))
   .clear h3 h4;have hx:=bD.h (b:=⟨⟨IntKind.i64.wrap (y0+ba),IntKind.i64.wrap (y1+bb)⟩,⟨IntKind.i64.wrap (y2+bc),y3⟩⟩) (e0:=e2) (e1:=e1) (e2:=e2) (e3:=e3) (t0:=S0) (t1:=t1) (t2:=t2) (t3:=t3) ⟨by omega,by omega,by omega,by omega⟩ ⟨by omega,by omega,by omega,by omega⟩;have c1:=a9.h _ hx;have c2:=b9.h _ hx;generalize jY p point (pW _ _ _ _ _ _ _ _ _)=z2 at *;rw [zW] at c1 c2;simp only [Problem.cells,List.map] at c1 c2;clear a9 b9 je bD hx le lt a81 a82 a83 lT rZ;(repeat' first|simp [*,zb,c5,Problem.cells,bQ.cells,Node.cells,Four.cells,zl,zM]|(apply za<;>intro _ h<;>try simp [-Nat.le_zero_eq] at h))
   .clear h3 h4;have hx:=bD.h (b:=⟨⟨IntKind.i64.wrap (y0+ba),IntKind.i64.wrap (y1+bb)⟩,⟨IntKind.i64.wrap (y2+bc),y3⟩⟩) (e0:=e3) (e1:=e1) (e2:=e2) (e3:=e3) (t0:=S0) (t1:=t1) (t2:=t2) (t3:=t3) ⟨by omega,by omega,by omega,by omega⟩ ⟨by omega,by omega,by omega,by omega⟩;have c1:=a9.h _ hx;have c2:=b9.h _ hx;generalize jY p point (pW _ _ _ _ _ _ _ _ _)=z2 at *;rw [zW] at c1 c2;simp only [Problem.cells,List.map] at c1 c2;clear a9 b9 je bD hx le lt a81 a82 a83 lT rZ;(repeat' first|simp [*,zb,c5,Problem.cells,bQ.cells,Node.cells,Four.cells,zl,zM]|(apply za<;>intro _ h<;>try simp [-Nat.le_zero_eq] at h))
  .obtain ⟨S1,hS⟩:∃ S:Sl Node,S=Sl.mk false (FY t1.xs ⟨IntKind.i64.wrap (xw - 7),xb,1,⟨n0,n1,n2,n3⟩⟩):=⟨_,rfl⟩
   have rZ:S1.xs.length<=200000000001:=by
    rw [hS,Sl.iW];have:=lT t1.xs;omega
   rw [<- hS] at a81;clear hS
   by_cases h3:0 < bd
   case neg =>
    have hx:=bD.h (b:=⟨⟨IntKind.i64.wrap (y0+ba),IntKind.i64.wrap (y1+bb)⟩,⟨IntKind.i64.wrap (y2+bc),y3⟩⟩) (e0:=e0) (e1:=e1) (e2:=e2) (e3:=e3) (t0:=t0) (t1:=S1) (t2:=t2) (t3:=t3) ⟨by omega,by omega,by omega,by omega⟩ ⟨by omega,by omega,by omega,by omega⟩;have c1:=a9.h _ hx;have c2:=b9.h _ hx;generalize jY p point (pW _ _ _ _ _ _ _ _ _)=z2 at *;rw [zW] at c1 c2;simp only [Problem.cells,List.map] at c1 c2;clear a9 b9 je bD hx le lt a80 a82 a83 lT rZ;(repeat' first|simp [*,zb,c5,Problem.cells,bQ.cells,Node.cells,Four.cells,zl,zM]|(apply za<;>intro _ h<;>try simp [-Nat.le_zero_eq] at h))
   by_cases h4:bd < 4
   case neg =>
    have hx:=bD.h (b:=⟨⟨IntKind.i64.wrap (y0+ba),IntKind.i64.wrap (y1+bb)⟩,⟨IntKind.i64.wrap (y2+bc),y3⟩⟩) (e0:=e0) (e1:=e1) (e2:=e2) (e3:=e3) (t0:=t0) (t1:=S1) (t2:=t2) (t3:=t3) ⟨by omega,by omega,by omega,by omega⟩ ⟨by omega,by omega,by omega,by omega⟩;have c1:=a9.h _ hx;have c2:=b9.h _ hx;generalize jY p point (pW _ _ _ _ _ _ _ _ _)=z2 at *;rw [zW] at c1 c2;simp only [Problem.cells,List.map] at c1 c2;clear a9 b9 je bD hx le lt a80 a82 a83 lT rZ;(repeat' first|simp [*,zb,c5,Problem.cells,bQ.cells,Node.cells,Four.cells,zl,zM]|(apply za<;>intro _ h<;>try simp [-Nat.le_zero_eq] at h))
   have hd:bd=1\/bd=2\/bd=3:=by omega
   rcases hd with rfl|rfl|rfl
   .clear h3 h4;have hx:=bD.h (b:=⟨⟨IntKind.i64.wrap (y0+ba),IntKind.i64.wrap (y1+bb)⟩,⟨IntKind.i64.wrap (y2+bc),y3⟩⟩) (e0:=e1) (e1:=e1) (e2:=e2) (e3:=e3) (t0:=t0) (t1:=S1) (t2:=t2) (t3:=t3) ⟨by omega,by omega,by omega,by omega⟩ ⟨by omega,by omega,by omega,by omega⟩;have c1:=a9.h _ hx;have c2:=b9.h _ hx;generalize jY p point (pW _ _ _ _ _ _ _ _ _)=z2 at *;rw [zW] at c1 c2;simp only [Problem.cells,List.map] at c1 c2;clear a9 b9 je bD hx le lt a80 a82 a83 lT rZ;(repeat' first|simp [*,zb,c5,Problem.cells,bQ.cells,Node.cells,Four.cells,zl,zM]|(apply za<;>intro _ h<;>try simp [-Nat.le_zero_eq] at h))
   .clear h3 h4;have hx:=bD.h (b:=⟨⟨IntKind.i64.wrap (y0+ba),IntKind.i64.wrap (y1+bb)⟩,⟨IntKind.i64.wrap (y2+bc),y3⟩⟩) (e0:=e2) (e1:=e1) (e2:=e2) (e3:=e3) (t0:=t0) (t1:=S1) (t2:=t2) (t3:=t3) ⟨by omega,by omega,by omega,by omega⟩ ⟨by omega,by omega,by omega,by omega⟩;have c1:=a9.h _ hx;have c2:=b9.h _ hx;generalize jY p point (pW _ _ _ _ _ _ _ _ _)=z2 at *;rw [zW] at c1 c2;simp only [Problem.cells,List.map] at c1 c2;clear a9 b9 je bD hx le lt a80 a82 a83 lT rZ;(repeat' first|simp [*,zb,c5,Problem.cells,bQ.cells,Node.cells,Four.cells,zl,zM]|(apply za<;>intro _ h<;>try simp [-Nat.le_zero_eq] at h))
   .clear h3 h4;have hx:=bD.h (b:=⟨⟨IntKind.i64.wrap (y0+ba),IntKind.i64.wrap (y1+bb)⟩,⟨IntKind.i64.wrap (y2+bc),y3⟩⟩) (e0:=e3) (e1:=e1) (e2:=e2) (e3:=e3) (t0:=t0) (t1:=S1) (t2:=t2) (t3:=t3) ⟨by omega,by omega,by omega,by omega⟩ ⟨by omega,by omega,by omega,by omega⟩;have c1:=a9.h _ hx;have c2:=b9.h _ hx;generalize jY p point (pW _ _ _ _ _ _ _ _ _)=z2 at *;rw [zW] at c1 c2;simp only [Problem.cells,List.map] at c1 c2;clear a9 b9 je bD hx le lt a80 a82 a83 lT rZ;(repeat' first|simp [*,zb,c5,Problem.cells,bQ.cells,Node.cells,Four.cells,zl,zM]|(apply za<;>intro _ h<;>try simp [-Nat.le_zero_eq] at h))
  .obtain ⟨S2,hS⟩:∃ S:Sl Node,S=Sl.mk false (FY t2.xs ⟨IntKind.i64.wrap (xw - 7),xb,1,⟨n0,n1,n2,n3⟩⟩):=⟨_,rfl⟩
   have rZ:S2.xs.length<=200000000001:=by
    rw [hS,Sl.iW];have:=lT t2.xs;omega
   rw [<- hS] at a82;clear hS
   by_cases h3:0 < bd
   case neg =>
    have hx:=bD.h (b:=⟨⟨IntKind.i64.wrap (y0+ba),IntKind.i64.wrap (y1+bb)⟩,⟨IntKind.i64.wrap (y2+bc),y3⟩⟩) (e0:=e0) (e1:=e1) (e2:=e2) (e3:=e3) (t0:=t0) (t1:=t1) (t2:=S2) (t3:=t3) ⟨by omega,by omega,by omega,by omega⟩ ⟨by omega,by omega,by omega,by omega⟩;have c1:=a9.h _ hx;have c2:=b9.h _ hx;generalize jY p point (pW _ _ _ _ _ _ _ _ _)=z2 at *;rw [zW] at c1 c2;simp only [Problem.cells,List.map] at c1 c2;clear a9 b9 je bD hx le lt a80 a81 a83 lT rZ;(repeat' first|simp [*,zb,c5,Problem.cells,bQ.cells,Node.cells,Four.cells,zl,zM]|(apply za<;>intro _ h<;>try simp [-Nat.le_zero_eq] at h))
   by_cases h4:bd < 4
   case neg =>
    have hx:=bD.h (b:=⟨⟨IntKind.i64.wrap (y0+ba),IntKind.i64.wrap (y1+bb)⟩,⟨IntKind.i64.wrap (y2+bc),y3⟩⟩) (e0:=e0) (e1:=e1) (e2:=e2) (e3:=e3) (t0:=t0) (t1:=t1) (t2:=S2) (t3:=t3) ⟨by omega,by omega,by omega,by omega⟩ ⟨by omega,by omega,by omega,by omega⟩;have c1:=a9.h _ hx;have c2:=b9.h _ hx;generalize jY p point (pW _ _ _ _ _ _ _ _ _)=z2 at *;rw [zW] at c1 c2;simp only [Problem.cells,List.map] at c1 c2;clear a9 b9 je bD hx le lt a80 a81 a83 lT rZ;(repeat' first|simp [*,zb,c5,Problem.cells,bQ.cells,Node.cells,Four.cells,zl,zM]|(apply za<;>intro _ h<;>try simp [-Nat.le_zero_eq] at h))
   have hd:bd=1\/bd=2\/bd=3:=by omega
   rcases hd with rfl|rfl|rfl
   .clear h3 h4;have hx:=bD.h (b:=⟨⟨IntKind.i64.wrap (y0+ba),IntKind.i64.wrap (y1+bb)⟩,⟨IntKind.i64.wrap (y2+bc),y3⟩⟩) (e0:=e1) (e1:=e1) (e2:=e2) (e3:=e3) (t0:=t0) (t1:=t1) (t2:=S2) (t3:=t3) ⟨by omega,by omega,by omega,by omega⟩ ⟨by omega,by omega,by omega,by omega⟩;have c1:=a9.h _ hx;have c2:=b9.h _ hx;generalize jY p point (pW _ _ _ _ _ _ _ _ _)=z2 at *;rw [zW] at c1 c2;simp only [Problem.cells,List.map] at c1 c2;clear a9 b9 je bD hx le lt a80 a81 a83 lT rZ;(repeat' first|simp [*,zb,c5,Problem.cells,bQ.cells,Node.cells,Four.cells,zl,zM]|(apply za<;>intro _ h<;>try simp [-Nat.le_zero_eq] at h))
   .clear h3 h4;have hx:=bD.h (b:=⟨⟨IntKind.i64.wrap (y0+ba),IntKind.i64.wrap (y1+bb)⟩,⟨IntKind.i64.wrap (y2+bc),y3⟩⟩) (e0:=e2) (e1:=e1) (e2:=e2) (e3:=e3) (t0:=t0) (t1:=t1) (t2:=S2) (t3:=t3) ⟨by omega,by omega,by omega,by omega⟩ ⟨by omega,by omega,by omega,by omega⟩;have c1:=a9.h _ hx;have c2:=b9.h _ hx;generalize jY p point (pW _ _ _ _ _ _ _ _ _)=z2 at *;rw [zW] at c1 c2;simp only [Problem.cells,List.map] at c1 c2;clear a9 b9 je bD hx le lt a80 a81 a83 lT rZ;(repeat' first|simp [*,zb,c5,Problem.cells,bQ.cells,Node.cells,Four.cells,zl,zM]|(apply za<;>intro _ h<;>try simp [-Nat.le_zero_eq] at h))
   .clear h3 h4;have hx:=bD.h (b:=⟨⟨IntKind.i64.wrap (y0+ba),IntKind.i64.wrap (y1+bb)⟩,⟨IntKind.i64.wrap (y2+bc),y3⟩⟩) (e0:=e3) (e1:=e1) (e2:=e2) (e3:=e3) (t0:=t0) (t1:=t1) (t2:=S2) (t3:=t3) ⟨by omega,by omega,by omega,by omega⟩ ⟨by omega,by omega,by omega,by omega⟩;have c1:=a9.h _ hx;have c2:=b9.h _ hx;generalize jY p point (pW _ _ _ _ _ _ _ _ _)=z2 at *;rw [zW] at c1 c2;simp only [Problem.cells,List.map] at c1 c2;clear a9 b9 je bD hx le lt a80 a81 a83 lT rZ;(repeat' first|simp [*,zb,c5,Problem.cells,bQ.cells,Node.cells,Four.cells,zl,zM]|(apply za<;>intro _ h<;>try simp [-Nat.le_zero_eq] at h))
  .obtain ⟨S3,hS⟩:∃ S:Sl Node,S=Sl.mk false (FY t3.xs ⟨IntKind.i64.wrap (xw - 7),xb,1,⟨n0,n1,n2,n3⟩⟩):=⟨_,rfl⟩
   have rZ:S3.xs.length<=200000000001:=by
    rw [hS,Sl.iW];have:=lT t3.xs;omega
   rw [<- hS] at a83;clear hS
   by_cases h3:0 < bd
   case neg =>
    have hx:=bD.h (b:=⟨⟨IntKind.i64.wrap (y0+ba),IntKind.i64.wrap (y1+bb)⟩,⟨IntKind.i64.wrap (y2+bc),y3⟩⟩) (e0:=e0) (e1:=e1) (e2:=e2) (e3:=e3) (t0:=t0) (t1:=t1) (t2:=t2) (t3:=S3) ⟨by omega,by omega,by omega,by omega⟩ ⟨by omega,by omega,by omega,by omega⟩;have c1:=a9.h _ hx;have c2:=b9.h _ hx;generalize jY p point (pW _ _ _ _ _ _ _ _ _)=z2 at *;rw [zW] at c1 c2;simp only [Problem.cells,List.map] at c1 c2;clear a9 b9 je bD hx le lt a80 a81 a82 lT rZ;(repeat' first|simp [*,zb,c5,Problem.cells,bQ.cells,Node.cells,Four.cells,zl,zM]|(apply za<;>intro _ h<;>try simp [-Nat.le_zero_eq] at h))
   by_cases h4:bd < 4
   case neg =>
    have hx:=bD.h (b:=⟨⟨IntKind.i64.wrap (y0+ba),IntKind.i64.wrap (y1+bb)⟩,⟨IntKind.i64.wrap (y2+bc),y3⟩⟩) (e0:=e0) (e1:=e1) (e2:=e2) (e3:=e3) (t0:=t0) (t1:=t1) (t2:=t2) (t3:=S3) ⟨by omega,by omega,by omega,by omega⟩ ⟨by omega,by omega,by omega,by omega⟩;have c1:=a9.h _ hx;have c2:=b9.h _ hx;generalize jY p point (pW _ _ _ _ _ _ _ _ _)=z2 at *;rw [zW] at c1 c2;simp only [Problem.cells,List.map] at c1 c2;clear a9 b9 je bD hx le lt a80 a81 a82 lT rZ;(repeat' first|simp [*,zb,c5,Problem.cells,bQ.cells,Node.cells,Four.cells,zl,zM]|(apply za<;>intro _ h<;>try simp [-Nat.le_zero_eq] at h))
   have hd:bd=1\/bd=2\/bd=3:=by omega
   rcases hd with rfl|rfl|rfl
   .clear h3 h4;have hx:=bD.h (b:=⟨⟨IntKind.i64.wrap (y0+ba),IntKind.i64.wrap (y1+bb)⟩,⟨IntKind.i64.wrap (y2+bc),y3⟩⟩) (e0:=e1) (e1:=e1) (e2:=e2) (e3:=e3) (t0:=t0) (t1:=t1) (t2:=t2) (t3:=S3) ⟨by omega,by omega,by omega,by omega⟩ ⟨by omega,by omega,by omega,by omega⟩;have c1:=a9.h _ hx;have c2:=b9.h _ hx;generalize jY p point (pW _ _ _ _ _ _ _ _ _)=z2 at *;rw [zW] at c1 c2;simp only [Problem.cells,List.map] at c1 c2;clear a9 b9 je bD hx le lt a80 a81 a82 lT rZ;(repeat' first|simp [*,zb,c5,Problem.cells,bQ.cells,Node.cells,Four.cells,zl,zM]|(apply za<;>intro _ h<;>try simp [-Nat.le_zero_eq] at h))
   .clear h3 h4;have hx:=bD.h (b:=⟨⟨IntKind.i64.wrap (y0+ba),IntKind.i64.wrap (y1+bb)⟩,⟨IntKind.i64.wrap (y2+bc),y3⟩⟩) (e0:=e2) (e1:=e1) (e2:=e2) (e3:=e3) (t0:=t0) (t1:=t1) (t2:=t2) (t3:=S3) ⟨by omega,by omega,by omega,by omega⟩ ⟨by omega,by omega,by omega,by omega⟩;have c1:=a9.h _ hx;have c2:=b9.h _ hx;generalize jY p point (pW _ _ _ _ _ _ _ _ _)=z2 at *;rw [zW] at c1 c2;simp only [Problem.cells,List.map] at c1 c2;clear a9 b9 je bD hx le lt a80 a81 a82 lT rZ;(repeat' first|simp [*,zb,c5,Problem.cells,bQ.cells,Node.cells,Four.cells,zl,zM]|(apply za<;>intro _ h<;>try simp [-Nat.le_zero_eq] at h))
   .clear h3 h4;have hx:=bD.h (b:=⟨⟨IntKind.i64.wrap (y0+ba),IntKind.i64.wrap (y1+bb)⟩,⟨IntKind.i64.wrap (y2+bc),y3⟩⟩) (e0:=e3) (e1:=e1) (e2:=e2) (e3:=e3) (t0:=t0) (t1:=t1) (t2:=t2) (t3:=S3) ⟨by omega,by omega,by omega,by omega⟩ ⟨by omega,by omega,by omega,by omega⟩;have c1:=a9.h _ hx;have c2:=b9.h _ hx;generalize jY p point (pW _ _ _ _ _ _ _ _ _)=z2 at *;rw [zW] at c1 c2;simp only [Problem.cells,List.map] at c1 c2;clear a9 b9 je bD hx le lt a80 a81 a82 lT rZ;(repeat' first|simp [*,zb,c5,Problem.cells,bQ.cells,Node.cells,Four.cells,zl,zM]|(apply za<;>intro _ h<;>try simp [-Nat.le_zero_eq] at h))
end Go.Proofs.YtmmhnfghklppiaaGreat.Vm
namespace Go.Proofs.YtmmhnfghklppiaaGreat
open Go Go.ChangeShapes Go.WideShapes Go.ChangeAt Go.RowKit Go.Proofs.YtmmhnfghklppiaaGreat.Vm
set_option linter.unusedVariables false
theorem own:ownKnob Tryz.prog.godebug=none:=by kernel_rfl
theorem XR:laidOutB Tryz.prog=true:=by kernel_rfl
theorem zpQ (p:Problem) (point:Int) (x:bQ) (yt:Four) (v0 v2 v3:Value) (w:World) (h0:bK (xW w) w (.agg p.cells) v0) (h2:bK (xW w) w (.agg x.cells) v2) (h3:bK (xW w) w (.agg yt.cells) v3):Calls Tryz.prog 5 #[v0,.int .i64 point,v2,v3] w
  fun e w'=>e=.returned (.bool true)/\Below w.heap.size w w':=by
 have h:=(zmb gOk (zpH p point x yt)).2 0 (xW w) w [v0,.int .i64 point,v2,v3] (fun _ _ h=>h) (.cons h0 (.cons (.int ..) (.cons h2 (.cons h3 .nil))))
 refine (callsIn_wide.1 h).mono fun e w' ⟨v,he,hb,hv⟩=>?_
 rw [hv.iF] at he;exact ⟨he,hb⟩
set_option maxRecDepth 100000 in
theorem zmK (os:Os) (started:os.Started) (H:Type) (enc:TypeId×Value->H) :
  ReturnsInHanded {} Tryz.checked os 5 .any (Rows.searchTreesSpec.pre6 enc Tryz.prog Tryz.f5 Rows.searchTreesRow.domain false) (Rows.searchTreesSpec.post enc Tryz.prog Tryz.f5 false true false false):=by
 refine returnsInHanded_of_change (C:=Tryz.checked) own started (by kernel_rfl) Tryz.func5
  (ChangeSpec.witness6 (enc:=enc) (C:=Tryz.checked) false ⟨#[],#[.agg #[.slice none 0 0,.slice none 0 0],.int .i64 0,.agg #[.int .i64 0,.int .i64 0,.int .i64 0,.int .i64 0,.int .i64 0,.int .i64 0,.int .i64 0],.agg #[.int .i64 0,.int .i64 0,.int .i64 0,.int .i64 0]],[]⟩ 8 (by kernel_rfl) (by kernel_rfl) (by kernel_rfl) (by kernel_rfl)) ?_
 intro W base args ds gs before NL hW hcnd _;have fe:∀ (j:Nat) t v,Tryz.f5.params[j]?=some t->args[j]?=some v->Value.okWide Tryz.prog W .any base t v:=NL;have hW':=hW;obtain ⟨p,q,Rk,hV,rfl,RP,Bz⟩:=hW;have hA:DataW.TrodAll enc Tryz.prog W 0 (fun _=>true) true Tryz.f5.params.toList args.toList ds p:=Rk;rw [Tryz.params5] at hA fe;obtain ⟨v0,vs0,d0,ds0,p0,q0,wU,rfl,rfl,h0,r0⟩:=trodAll_cons hA;obtain ⟨v1,vs1,d1,ds1,p1,q1,rfl,rfl,rfl,h1,r1⟩:=trodAll_cons r0;obtain ⟨v2,vs2,d2,ds2,p2,q2,rfl,rfl,rfl,h2,r2⟩:=trodAll_cons r1;obtain ⟨v3,vs3,d3,ds3,p3,q3,rfl,rfl,rfl,h3,r3⟩:=trodAll_cons r2;obtain ⟨rfl,rfl,rfl⟩:=trodAll_nil r3;obtain rfl:args=#[v0,v1,v2,v3]:=by cases args;simp_all
 obtain ⟨rfl,rfl⟩:=trodVars_none hV;have lt0:∀ x∈p0,x.block < W.heap.size:=by obtain ⟨m,hm⟩:=h0;exact DataW.trod_lt m _ _ _ hm
 have lt1:∀ x∈p1,x.block < W.heap.size:=by obtain ⟨m,hm⟩:=h1;exact DataW.trod_lt m _ _ _ hm
 have lt2:∀ x∈p2,x.block < W.heap.size:=by obtain ⟨m,hm⟩:=h2;exact DataW.trod_lt m _ _ _ hm
 have lt3:∀ x∈p3,x.block < W.heap.size:=by obtain ⟨m,hm⟩:=h3;exact DataW.trod_lt m _ _ _ hm
 obtain ⟨p,g0⟩:=znL (fe 0 25 v0 rfl rfl) h0;obtain ⟨point,rfl⟩:=okWide_int Tryz.underlying3 (fe 1 3 v1 rfl rfl);obtain ⟨x,g2⟩:=zrR (fe 2 51 v2 rfl rfl) h2;obtain ⟨yt,g3⟩:=zqy (fe 3 52 v3 rfl rfl) h3;clear Rk NL
 refine (zpQ p point x yt v0 v2 v3 W g0 g2 g3).mono fun e W' ⟨he,VE⟩=>?_
 subst he;exact ⟨_,rfl,_,_,_,[],_,[],hW',trodAll_mk1 (shut_bool Tryz.underlying4 _),(trodAll_cons_mk (Below.trod XR (by kernel_rfl) (of_decide_eq_true (by kernel_rfl)) h0 VE lt0) (trodAll_cons_mk (Below.trod XR (by kernel_rfl) (of_decide_eq_true (by kernel_rfl)) h1 VE lt1) (trodAll_cons_mk (Below.trod XR (by kernel_rfl) (of_decide_eq_true (by kernel_rfl)) h2 VE lt2) (trodAll_cons_mk (Below.trod XR (by kernel_rfl) (of_decide_eq_true (by kernel_rfl)) h3 VE lt3) trodAll_mk0)))),rfl,VE.frame _,fun h=>by cases h⟩
theorem zod:Rows.searchTreesRow.holds Tryz.pinned (OpenSpec.ofChange Rows.searchTreesSpec) :=
 OpenClaim.holds_of_wide 5 Tryz.f5 rfl rfl rfl rfl rfl rfl rfl ⟨rfl,rfl,rfl,rfl,rfl⟩ rfl rfl rfl rfl rfl (by kernel_rfl) Tryz.func5 (by kernel_rfl)
  (of_decide_eq_true (by kernel_rfl)) (by unfold Func.isWrapper;first|(rw [if_pos (by decide +kernel)];kernel_rfl)|(rw [if_neg (by decide +kernel)];exact ⟨rfl,rfl⟩))
  (fun os started H enc _=>zmK os started H enc)
theorem trees_proved:Rows.SearchTreesSaid:=zod
#print axioms trees_proved
end Go.Proofs.YtmmhnfghklppiaaGreat
