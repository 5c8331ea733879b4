/- Allows of the specification: the same answer as the program's. ref3.CheckExtent, where all is well: walked; ref3.Hull. ref3.CheckExtent in all cases, ref3.CheckTree: walked. -/
import Derived.Test.YtmmhnfghklppiaaGreatWk33
import Derived.Test.YtmmhnfghklppiaaGreatWk17
import Derived.Test.YtmmhnfghklppiaaGreatWk42
import Derived.Test.YtmmhnfghklppiaaGreatWk41
import Derived.Test.YtmmhnfghklppiaaGreatWk40
import Derived.Test.YtmmhnfghklppiaaGreatWk43
namespace Go.Proofs.YtmmhnfghklppiaaGreat.Vm
open Go
set_option linter.unusedSimpArgs false
set_option linter.unusedVariables false
set_option maxHeartbeats 4000000
theorem zvG:G.shared 100=false:=by decide
theorem e100 (n:Nat) (p:Pt) (b:Box):zK G (n+1) 100 [.agg p.cells,.agg b.cells]=some (.bool (qY p b)):=by
 refine zz (zy _) rfl g100 rfl ?_
 (repeat' first|simp [*,zb,c100,Pt.cells,Box.cells,Span.cells,qY,mZ]|(apply za<;>intro _ h<;>try simp [-Nat.le_zero_eq] at h))
theorem sh56:G.shared 56=false:=by decide
theorem e56 (n:Nat) (p:Problem) (l:Sl Pt) (hl:l.xs.length < 1000):zK G (n+9) 56 [.agg p.cells,l.pv Pt.cells 2]=some (.aQ [.int .i64 (ak p l.xs).1,.bool (ak p l.xs).2]):=by
 refine zz (zy _) rfl g56 rfl ?_
 obtain ⟨bs,fs⟩:=p;have hC:=fun H=>ze (G:=G) (n:=n+8) (H:=H) (caps:=[]) (ps:=[.agg (Problem.mk bs fs).cells]) sh27 (e27 (n+5) ⟨bs,fs⟩);have hA:=fun H=>ze (G:=G) (n:=n+8) (H:=H) (caps:=[]) (ps:=[l.pv Pt.cells 2]) zv7 (e101 (n+7) l hl);simp only [Problem.cells,List.map] at hC hA
 by_cases hc:zQ ⟨bs,fs⟩=0
 case neg =>
  have hr:ak ⟨bs,fs⟩ l.xs=(-1,false):=by unfold ak;rw [if_neg (fun h=>hc h.1)]
  generalize zQ ⟨bs,fs⟩=c at *;rw [hr];clear hr;simp [*,zb,c56,Problem.cells]
 have ok:=bW.1 hc;rw [hc] at hC;have nb:bs.xs.length<=12:=ok.nb;have nf:fs.xs.length<=60:=ok.nf
 by_cases hlen:l.xs.length=bs.xs.length
 case neg =>
  have hr:ak ⟨bs,fs⟩ l.xs=(-1,false):=by unfold ak;rw [if_neg (fun h=>hlen h.2.1)]
  rw [hr];have TN:¬ (l.xs.length:Int)=bs.xs.length:=by omega
  clear hr hc ok;simp [*,zb,c56,Problem.cells]
 have hr:Hide (xM l.xs bs.xs->ak ⟨bs,fs⟩ l.xs=Fe (l.xs.map bT) fs.xs 0):=⟨fun hi=>by unfold ak;rw [if_pos ⟨hc,hlen,hi⟩]⟩
 have Eo:Hide (¬ xM l.xs bs.xs->ak ⟨bs,fs⟩ l.xs=(-1,false)):=⟨fun hi=>by unfold ak;rw [if_neg (fun h=>hi h.2.2)]⟩
 have bH:=Hide.mk ok;generalize ak ⟨bs,fs⟩ l.xs=r at *;have Ii:(l.xs.length:Int)=bs.xs.length:=by omega
 have Ky:=Hide.mk hlen;clear hc ok hlen;(repeat' first|simp [*,zb,c56,Problem.cells]|(apply za<;>intro _ h<;>try simp [-Nat.le_zero_eq] at h))
 refine zL [(4,7),(22,39)] (fun (i:Nat) env H=>env 6=.pure (.int .i64 i)/\i<=bs.xs.length/\Hide (∀ j (h:j < bs.xs.length) (h':j < l.xs.length),j < i->qY l.xs[j] bs.xs[j]=true)) (fun i=>bs.xs.length - i) 0 ?_ ?_ ?_ ?_
 .decide
 .exact ⟨by simp,by omega,⟨fun _ _ _ h=>by omega⟩⟩
 .simp only [zF];omega
 rintro i env H ⟨g0,hi,hn⟩
 by_cases aO:i < bs.xs.length
 .have oK:i < l.xs.length:=by have:=Ky.h;omega
  have w1:IntKind.i64.wrap ((i:Int)+1)=(i+1:Nat):=by rw [wrap64 (by omega) (by omega)];omega
  have hp:=Hide.mk (hn.h);have hW:=fun H=>ze (G:=G) (n:=n+8) (H:=H) (caps:=[]) (ps:=[.agg (l.xs[i]).cells,.agg (bs.xs[i]).cells]) zvG (e100 (n+7) l.xs[i] bs.xs[i]);simp only [Pt.cells,Box.cells,Span.cells,List.map] at hW
  cases bD:qY l.xs[i] bs.xs[i] with
  | true =>
   have jD:Hide (∀ j (h:j < bs.xs.length) (h':j < l.xs.length),j < i+1->qY l.xs[j] bs.xs[j]=true):=⟨fun j h h' hj=>by
    by_cases e:j=i
    .subst e;exact bD
    .exact hn.h j h h' (by omega)⟩
   rw [bD] at hW;clear hn hp bD;(repeat' first|simp [*,zb,Pt.cells,Box.cells,Span.cells]|(apply za<;>intro _ h<;>try simp [-Nat.le_zero_eq] at h));exact ⟨i+1,by omega,rfl,by omega,jD⟩
  | false =>
   have xN:r=(-1,false):=Eo.h fun h=>by rw [h i aO oK] at bD;simp at bD
   subst xN;rw [bD] at hW;clear hn hp hr Eo bD;simp [*,zb,Pt.cells,Box.cells,Span.cells]
 .have aX:i=bs.xs.length:=by omega
  subst aX;have Ah:xM l.xs bs.xs:=fun j h h'=>hn.h j h h' h;have xN:=Hide.mk (hr.h Ah);have wB:=Hide.mk fun (f:Fact) (hf:f∈fs.xs) H=>ze (G:=G) (n:=n+8) (H:=H) (caps:=[]) (ps:=[.agg f.cells,(Sl.of (l.xs.map bT)).pv Box.cells 4]) ztx (e102 (n+1) f (Sl.of (l.xs.map bT)) (by
   rw [Sl.iV];exact zkY (bH.h.fine (by simpa using Ky.h) (zix bH.h Ky.h Ah) hf)) (zt1 (bH.h.fine (l:=l.xs.map bT) (by simpa using Ky.h) (zix bH.h Ky.h Ah) hf)))
  clear hr Eo hn Ah bH;simp only [Sl.iV] at wB;generalize Sl.of (l.xs.map bT)=s at *;(repeat' first|simp [*,zb]|(apply za<;>intro _ h<;>try simp [-Nat.le_zero_eq] at h))
  refine zL [(4,5),(9,10),(42,57)] (fun (i:Nat) env H=>env 9=.pure (.int .i64 i)/\i<=fs.xs.length/\Hide (∀ j (h:j < fs.xs.length),j < i->zJ fs.xs[j] (l.xs.map bT)=false)) (fun i=>fs.xs.length - i) 0 ?_ ?_ ?_ ?_
  .decide
  .exact ⟨by simp,by omega,⟨fun _ _ h=>by omega⟩⟩
  .simp only [zF];omega
  rintro i env H ⟨g0,hi,hn⟩
  by_cases aO:i < fs.xs.length
  .have w1:IntKind.i64.wrap ((i:Int)+1)=(i+1:Nat):=by rw [wrap64 (by omega) (by omega)];omega
   have hv:=wB.h fs.xs[i] (List.getElem_mem aO);simp only [Fact.cells,List.map] at hv
   cases hf:zJ fs.xs[i] (l.xs.map bT) with
   | true =>
    have xN:=xN.h.trans (zgY fs.xs 0 i aO hn.h hf);subst xN;rw [hf] at hv;clear hf hn wB;simp [*,zb,Fact.cells]
   | false =>
    have jD:Hide (∀ j (h:j < fs.xs.length),j < i+1->zJ fs.xs[j] (l.xs.map bT)=false):=⟨fun j h hj=>by
     by_cases e:j=i
     .subst e;exact hf
     .exact hn.h j h (by omega)⟩
    rw [hf] at hv;clear hf hn wB xN;(repeat' first|simp [*,zb,Fact.cells]|(apply za<;>intro _ h<;>try simp [-Nat.le_zero_eq] at h));exact ⟨i+1,by omega,rfl,by omega,jD⟩
  .have aX:i=fs.xs.length:=by omega
   subst aX;have xN:=xN.h.trans (ze8 fs.xs 0 fun j h=>hn.h j h h);subst xN;clear hn wB;simp [*,zb]
set_option maxHeartbeats 8000000
set_option maxRecDepth 4000
theorem DJ.at {p:Problem} {q:Nat} {x:iC} {k:Nat} (ok:ae p) (hq:q < p.boxes.xs.length) (hk:k < 4) (h:DJ p q x k):xV p q k x.box:=by
 have nb:=ok.nb;obtain ⟨_,NA⟩:=zhx h.al;have I8:q < (x.ends k).xs.length:=by rw [NA.len];exact hq
 have bD:=NA.xK q I8 hq;have hs:=h.side;rw [getElem!_pos (x.ends k).xs q I8] at hs;have IW:=vI ok _ (List.getElem_mem hq);unfold bO at bD;unfold rH at hs
 refine ⟨hq,by omega,hk,h.ok,by rw [getElem!_pos p.boxes.xs q hq];exact IW,?_,?_⟩<;>rw [getElem!_pos p.boxes.xs q hq,<- hs]<;>unfold bz<;>(have nW:k=0\/k=1\/k=2\/k=3:=by omega)<;>rcases nW with rfl|rfl|rfl|rfl<;>simp<;>omega
theorem sh23:G.shared 23=false:=by decide
theorem sh13:G.shared 13=false:=by decide
theorem e13 (n:Nat) (p:Problem) (tree:Sl Node) (wu:tree.xs.length < 4000000000000000000) (nX:zQ p=0->iq p.boxes.xs<=600):zK G (n+700) 13 [.agg p.cells,tree.pv Node.cells 4]=some (.int .i64 (DC p tree.xs)):=by
 refine zz (zy _) rfl g13 rfl ?_
 have hd:=fun H=>ze (G:=G) (n:=n+699) (H:=H) (caps:=[]) (ps:=[.agg p.cells]) sh27 (e27 (n+696) p);simp only [Problem.cells,List.map] at hd
 by_cases he:zQ p=0
 case neg =>
  have hp:DC p tree.xs=zQ p:=by unfold DC;rw [if_pos he]
  rw [hp];generalize zQ p=c at *;clear hp nX;(repeat' first|simp [*,zb,c13,Problem.cells]|(apply za<;>intro _ h<;>try simp [-Nat.le_zero_eq] at h))
 by_cases ht:262144 < tree.xs.length
 .have hp:DC p tree.xs=2:=by unfold DC;rw [if_neg (by simp [he]),if_pos ht]
  have pQ:(262144:Int) < tree.xs.length:=by omega
  rw [hp];rw [he] at hd;clear hp nX he;(repeat' first|simp [*,zb,c13,Problem.cells]|(apply za<;>intro _ h<;>try simp [-Nat.le_zero_eq] at h))
 have ok:=bW.1 he;have pQ:¬ (262144:Int) < tree.xs.length:=by omega
 have hf:=fun H=>ze (G:=G) (n:=n+699) (H:=H) (caps:=[]) (ps:=[.agg p.cells,tree.pv Node.cells 4]) sh44 (e44 (n+59) p ok tree wu (nX he));have hp:DC p tree.xs=if rf p.facts.xs p.boxes.xs tree.xs=true then 0 else 8:=by unfold DC;rw [if_neg (by simp [he]),if_neg ht]
 rw [hp];rw [he] at hd;generalize rf p.facts.xs p.boxes.xs tree.xs=B at *;simp only [Problem.cells,List.map] at hf;clear hp nX he ok ht
 cases B
 ·(repeat' first|simp [*,zb,c13,Problem.cells]|(apply za<;>intro _ h<;>try simp [-Nat.le_zero_eq] at h))
 ·(repeat' first|simp [*,zb,c13,Problem.cells]|(apply za<;>intro _ h<;>try simp [-Nat.le_zero_eq] at h))
theorem e23b (n:Nat) (p:Problem) (pt:Int) (x:iC) (h:I9 p x):zK G (n+700) 23 [.agg p.cells,.int .i64 pt,.agg x.cells]=some (.int .i64 (jY p pt x)):=by
 refine zz (zy _) rfl g23 rfl ?_
 have hc:=fun H=>ze (G:=G) (n:=n+699) (H:=H) (caps:=[]) (ps:=[.agg p.cells]) sh27 (e27 (n+696) p);have JA:p.cells=[p.boxes.pv Box.cells 4,p.facts.pv Fact.cells 9]:=rfl;have Lp:x.box.cells=[.int .i64 x.box.x.lo,.int .i64 x.box.x.hi,.int .i64 x.box.y.lo,.int .i64 x.box.y.hi]:=rfl;simp only [JA,List.map] at hc
 by_cases h0:zQ p=0
 case neg =>
  have hp:jY p pt x=zQ p:=by unfold jY;rw [if_pos h0]
  rw [hp];generalize zQ p=c at *;clear hp h Lp;(repeat' first|simp [*,zb,c23,Problem.cells,iC.cells]|(apply za<;>intro _ h<;>try simp [-Nat.le_zero_eq] at h))
 rw [h0] at hc;have ok:=bW.1 h0;have nb:=ok.nb
 by_cases hr:0<=pt/\pt < p.boxes.xs.length
 case neg =>
  have hp:jY p pt x=1:=by unfold jY;rw [if_neg (by simp [h0]),if_pos hr]
  rw [hp];clear hp h Lp ok h0
  by_cases h1:pt < 0
  .clear hr;(repeat' first|simp [*,zb,c23,Problem.cells,iC.cells]|(apply za<;>intro _ h<;>try simp [-Nat.le_zero_eq] at h))
  .have h2:(p.boxes.xs.length:Int)<=pt:=by omega
   clear hr;(repeat' first|simp [*,zb,c23,Problem.cells,iC.cells]|(apply za<;>intro _ h<;>try simp [-Nat.le_zero_eq] at h))
 obtain ⟨q,rfl⟩:∃ q:Nat,pt=(q:Int):=⟨pt.toNat,by omega⟩
 have hq:q < p.boxes.xs.length:=by omega
 have Un:(q:Int) < p.boxes.xs.length:=by omega
 have hqI2:¬ (p.boxes.xs.length:Int)<=q:=by omega
 have hqI3:¬ (q:Int) < 0:=by omega
 clear hr
 by_cases hb:x.box.x.hi < x.box.x.lo\/x.box.y.hi < x.box.y.lo
 .have hp:jY p (q:Nat) x=8:=by unfold jY;rw [if_neg (by simp [h0]),if_neg (fun h=>h (by omega)),if_pos hb]
  rw [hp];clear hp h Lp ok h0
  by_cases h1:x.box.x.hi < x.box.x.lo
  .clear hb;(repeat' first|simp [*,zb,c23,Problem.cells,iC.cells]|(apply za<;>intro _ h<;>try simp [-Nat.le_zero_eq] at h))
  .have h2:x.box.y.hi < x.box.y.lo:=by rcases hb with h|h;exact absurd h h1;exact h
   clear hb;(repeat' first|simp [*,zb,c23,Problem.cells,iC.cells]|(apply za<;>intro _ h<;>try simp [-Nat.le_zero_eq] at h))
 obtain ⟨z0,z8⟩:=zo1 h0 hq hb;have nb1:¬ x.box.x.hi < x.box.x.lo:=fun h=>hb (.inl h);have nb2:¬ x.box.y.hi < x.box.y.lo:=fun h=>hb (.inr h);clear hb;generalize jY p (q:Nat) x=R at *;have z0:=Hide.mk z0;have z8:=Hide.mk z8;have iI:=Hide.mk fun (k:Nat) (hk:k < 4) H=>ze (G:=G) (n:=n+699) (H:=H) (caps:=[]) (ps:=[.agg p.cells,(x.ends k).pv Pt.cells 2]) sh56 (e56 (n+690) p (x.ends k) (h.ends k hk));have fV:=Hide.mk fun (k:Nat) (hs:xV p q k x.box) H=>ze (G:=G) (n:=n+699) (H:=H) (caps:=[]) (ps:=[.agg p.cells,.int .i64 (q:Nat),.agg x.box.cells,.int .i64 (k:Nat)]) sh58 (e58 (n+697) p q k x.box hs);have lJ:=Hide.mk fun (s:Span) (k:Nat) H=>ze (G:=G) (n:=n+699) (H:=H) (caps:=[]) (ps:=[.agg s.cells,.int .i64 (k:Nat)]) sh57 (e57 (n+698) s k);have fF:=Hide.mk fun (k:Nat) (hk:k < 4) (hs:zI p.boxes.xs[q]! x.box k=true) H=>ze (G:=G) (n:=n+699) (H:=H) (caps:=[]) (ps:=[.agg (aN p q k x.box).cells,(x.trees k).pv Node.cells 4]) sh44 (e44 (n+59) (aN p q k x.box) (XA ok hq hs) (x.trees k) (h.trees k hk) (zrX ok hq hs (h.mu h0)));have iQ:=Hide.mk fun (k:Nat) (hk:k < 4) (ha:(ak p (x.ends k).xs).2=true)=>zoG (q:=q) (x:=x) ok hq hk ha;rw [Lp,JA] at fV;rw [JA] at iI;clear h ok h0;(repeat' first|simp [*,zb,c23,Problem.cells,iC.cells,zk,zl,zM]|(apply za<;>intro _ h<;>try simp [-Nat.le_zero_eq] at h))
 refine zL [(6,6),(8,15),(50,128)] (fun (k:Nat) env H=>env 8=.pure (.int .i64 k)/\k<=4/\Rn p q x k) (fun k=>4 - k) 0 ?_ ?_ ?_ ?_
 .decide
 .exact ⟨by simp,by omega,zjE p q x⟩
 .simp only [zF];omega
 rintro k env H ⟨g64,hk,aB⟩;have aB:=Hide.mk aB;have Vy:k=0\/k=1\/k=2\/k=3\/k=4:=by omega
 rcases Vy with rfl|rfl|rfl|rfl|rfl
 .have nJ:=iI.h 0 (by decide);have w1:IntKind.i64.wrap (0+1)=1:=by decide
  cases ha:(ak p (x.ends 0).xs).2 with
  | false =>
   obtain rfl:=z8.h 0 (by decide) (ND ha);rw [ha] at nJ;generalize (ak p (x.ends 0).xs).1=av at *;simp only [Pt.cells,List.map] at nJ;clear iI fV fF iQ z0 z8 aB ha lJ;(repeat' first|simp [*,zb,zk,zl,zM,Pt.cells]|(apply za<;>intro _ h<;>try simp [-Nat.le_zero_eq] at h))
  | true =>
   have sa:=iQ.h 0 (by decide) ha;have pV:=sa.len;have hl:q < (x.ends 0).xs.length:=by rw [sa.len];exact hq
   have Ii:(q:Int) < (x.ends 0).xs.length:=by omega
   have iJ:rH (x.ends 0).xs[q]! 0=(x.ends 0).xs[q].x:=by rw [getElem!_pos (x.ends 0).xs q hl];rfl
   have qm:=rQ (k:=.i64) (f:=Pt.cells) (sz:=2) (s:=x.ends 0) hl;rw [ha] at nJ;generalize vV:(ak p (x.ends 0).xs).1=av at *;simp only [Pt.cells,List.map] at nJ qm;clear vV pV;have rA:=lJ.h x.box.x 0;have rz:=lJ.h x.box.y 0;have vC:bE x.box.x 0=x.box.x.lo:=rfl;have fD:bE x.box.y 0=x.box.y.lo:=rfl;rw [vC] at rA;rw [fD] at rz;simp only [Span.cells,List.map] at rA rz
   push_cast at rA rz
   clear vC fD
   by_cases hs:(x.ends 0).xs[q].x=x.box.x.lo
   case neg =>
    obtain rfl:=z8.h 0 (by decide) (NF (by rw [iJ];exact hs));clear iI fV fF iQ z0 z8 aB ha lJ sa iJ;(repeat' first|simp [*,zb,zk,zl,zM,Pt.cells]|(apply za<;>intro _ h<;>try simp [-Nat.le_zero_eq] at h))
   by_cases ht:262144 < (x.trees 0).xs.length
   .obtain rfl:=z8.h 0 (by decide) (NG ht);have pQ:(262144:Int) < (x.trees 0).xs.length:=by omega
    clear iI fV fF iQ z0 z8 aB ha lJ sa iJ ht;(repeat' first|simp [*,zb,zk,zl,zM,Pt.cells]|(apply za<;>intro _ h<;>try simp [-Nat.le_zero_eq] at h))
   have pQ:¬ (262144:Int) < (x.trees 0).xs.length:=by omega
   have jd:rH (x.ends 0).xs[q]! 0=mY x.box 0:=by rw [iJ];exact hs
   obtain ⟨so,sb⟩:=sa.ok jd;have bu:=fV.h 0 sb;have mr:=fF.h 0 (by decide)
   cases hm:zI p.boxes.xs[q]! x.box 0 with
   | true =>
    have iZ:=mr hm
    cases jM:rf (aN p q 0 x.box).facts.xs (aN p q 0 x.box).boxes.xs (x.trees 0).xs with
    | false =>
     obtain rfl:=z8.h 0 (by decide) (NH hm jM);rw [jM] at iZ;rw [hm] at bu;obtain ⟨q',bU⟩:∃ q',aN p q 0 x.box=q':=⟨_,rfl⟩
     rw [bU] at bu iZ;obtain ⟨qb,qf⟩:=q';simp only [Problem.cells,Pt.cells,List.map] at bu iZ
     push_cast at bu
     clear iI fV fF iQ z0 z8 aB ha lJ sa iJ ht jd so sb mr hm jM bU;(repeat' first|simp [*,zb,zk,zl,zM,Pt.cells]|(apply za<;>intro _ h<;>try simp [-Nat.le_zero_eq] at h))
    | true =>
     have mP:=Hide.mk (BN aB.h (NJ ha jd ht hm jM));rw [jM] at iZ;rw [hm] at bu;obtain ⟨q',bU⟩:∃ q',aN p q 0 x.box=q':=⟨_,rfl⟩
     rw [bU] at bu iZ;obtain ⟨qb,qf⟩:=q';simp only [Problem.cells,Pt.cells,List.map] at bu iZ
     push_cast at bu
     clear iI fV fF iQ z0 z8 aB ha lJ sa iJ ht jd so sb mr hm jM bU;(repeat' first|simp [*,zb,zk,zl,zM,Pt.cells]|(apply za<;>intro _ h<;>try simp [-Nat.le_zero_eq] at h));exact ⟨1,by omega,by decide,by omega,mP.h⟩
   | false =>
    clear mr;rw [hm] at bu;obtain ⟨q',bU⟩:∃ q',aN p q 0 x.box=q':=⟨_,rfl⟩
    rw [bU] at bu;obtain ⟨qb,qf⟩:=q';simp only [Problem.cells,Pt.cells,List.map] at bu
    push_cast at bu
    by_cases hz:(x.trees 0).xs.length=0
    .have mP:=Hide.mk (BN aB.h (NK ha jd ht hm hz));have DN:((x.trees 0).xs.length:Int)=0:=by omega
     clear iI fV fF iQ z0 z8 aB ha lJ sa iJ ht jd so sb hm bU;(repeat' first|simp [*,zb,zk,zl,zM,Pt.cells]|(apply za<;>intro _ h<;>try simp [-Nat.le_zero_eq] at h));exact ⟨1,by omega,by decide,by omega,mP.h⟩
    .obtain rfl:=z8.h 0 (by decide) (NI hm hz);have DN:¬ ((x.trees 0).xs.length:Int)=0:=by omega
     have DR:0 < (x.trees 0).xs.length:=by omega
     clear iI fV fF iQ z0 z8 aB ha lJ sa iJ ht jd so sb hm bU;(repeat' first|simp [*,zb,zk,zl,zM,Pt.cells]|(apply za<;>intro _ h<;>try simp [-Nat.le_zero_eq] at h))
 .have nJ:=iI.h 1 (by decide);have w1:IntKind.i64.wrap (1+1)=2:=by decide
  cases ha:(ak p (x.ends 1).xs).2 with
  | false =>
   obtain rfl:=z8.h 1 (by decide) (ND ha);rw [ha] at nJ;generalize (ak p (x.ends 1).xs).1=av at *;simp only [Pt.cells,List.map] at nJ;clear iI fV fF iQ z0 z8 aB ha lJ;(repeat' first|simp [*,zb,zk,zl,zM,Pt.cells]|(apply za<;>intro _ h<;>try simp [-Nat.le_zero_eq] at h))
  | true =>
   have sa:=iQ.h 1 (by decide) ha;have pV:=sa.len;have hl:q < (x.ends 1).xs.length:=by rw [sa.len];exact hq
   have Ii:(q:Int) < (x.ends 1).xs.length:=by omega
   have iJ:rH (x.ends 1).xs[q]! 1=(x.ends 1).xs[q].x:=by rw [getElem!_pos (x.ends 1).xs q hl];rfl
   have qm:=rQ (k:=.i64) (f:=Pt.cells) (sz:=2) (s:=x.ends 1) hl;rw [ha] at nJ;generalize vV:(ak p (x.ends 1).xs).1=av at *;simp only [Pt.cells,List.map] at nJ qm;clear vV pV;have rA:=lJ.h x.box.x 1;have rz:=lJ.h x.box.y 1;have vC:bE x.box.x 1=x.box.x.hi:=rfl;have fD:bE x.box.y 1=x.box.y.hi:=rfl;rw [vC] at rA;rw [fD] at rz;simp only [Span.cells,List.map] at rA rz
   push_cast at rA rz
   clear vC fD
   by_cases hs:(x.ends 1).xs[q].x=x.box.x.hi
   case neg =>
    obtain rfl:=z8.h 1 (by decide) (NF (by rw [iJ];exact hs));clear iI fV fF iQ z0 z8 aB ha lJ sa iJ;(repeat' first|simp [*,zb,zk,zl,zM,Pt.cells]|(apply za<;>intro _ h<;>try simp [-Nat.le_zero_eq] at h))
   by_cases ht:262144 < (x.trees 1).xs.length
   .obtain rfl:=z8.h 1 (by decide) (NG ht);have pQ:(262144:Int) < (x.trees 1).xs.length:=by omega
    clear iI fV fF iQ z0 z8 aB ha lJ sa iJ ht;(repeat' first|simp [*,zb,zk,zl,zM,Pt.cells]|(apply za<;>intro _ h<;>try simp [-Nat.le_zero_eq] at h))
   have pQ:¬ (262144:Int) < (x.trees 1).xs.length:=by omega
   have jd:rH (x.ends 1).xs[q]! 1=mY x.box 1:=by rw [iJ];exact hs
   obtain ⟨so,sb⟩:=sa.ok jd;have bu:=fV.h 1 sb;have mr:=fF.h 1 (by decide)
   cases hm:zI p.boxes.xs[q]! x.box 1 with
   | true =>
    have iZ:=mr hm
    cases jM:rf (aN p q 1 x.box).facts.xs (aN p q 1 x.box).boxes.xs (x.trees 1).xs with
    | false =>
     obtain rfl:=z8.h 1 (by decide) (NH hm jM);rw [jM] at iZ;rw [hm] at bu;obtain ⟨q',bU⟩:∃ q',aN p q 1 x.box=q':=⟨_,rfl⟩
     rw [bU] at bu iZ;obtain ⟨qb,qf⟩:=q';simp only [Problem.cells,Pt.cells,List.map] at bu iZ
     push_cast at bu
     clear iI fV fF iQ z0 z8 aB ha lJ sa iJ ht jd so sb mr hm jM bU;(repeat' first|simp [*,zb,zk,zl,zM,Pt.cells]|(apply za<;>intro _ h<;>try simp [-Nat.le_zero_eq] at h))
    | true =>
     have mP:=Hide.mk (BN aB.h (NJ ha jd ht hm jM));rw [jM] at iZ;rw [hm] at bu;obtain ⟨q',bU⟩:∃ q',aN p q 1 x.box=q':=⟨_,rfl⟩
     rw [bU] at bu iZ;obtain ⟨qb,qf⟩:=q';simp only [Problem.cells,Pt.cells,List.map] at bu iZ
     push_cast at bu
     clear iI fV fF iQ z0 z8 aB ha lJ sa iJ ht jd so sb mr hm jM bU;(repeat' first|simp [*,zb,zk,zl,zM,Pt.cells]|(apply za<;>intro _ h<;>try simp [-Nat.le_zero_eq] at h));exact ⟨2,by omega,by decide,by omega,mP.h⟩
   | false =>
    clear mr;rw [hm] at bu;obtain ⟨q',bU⟩:∃ q',aN p q 1 x.box=q':=⟨_,rfl⟩
    rw [bU] at bu;obtain ⟨qb,qf⟩:=q';simp only [Problem.cells,Pt.cells,List.map] at bu
    push_cast at bu
    by_cases hz:(x.trees 1).xs.length=0
    .have mP:=Hide.mk (BN aB.h (NK ha jd ht hm hz));have DN:((x.trees 1).xs.length:Int)=0:=by omega
     clear iI fV fF iQ z0 z8 aB ha lJ sa iJ ht jd so sb hm bU;(repeat' first|simp [*,zb,zk,zl,zM,Pt.cells]|(apply za<;>intro _ h<;>try simp [-Nat.le_zero_eq] at h));exact ⟨2,by omega,by decide,by omega,mP.h⟩
    .obtain rfl:=z8.h 1 (by decide) (NI hm hz);have DN:¬ ((x.trees 1).xs.length:Int)=0:=by omega
     have DR:0 < (x.trees 1).xs.length:=by omega
     clear iI fV fF iQ z0 z8 aB ha lJ sa iJ ht jd so sb hm bU;(repeat' first|simp [*,zb,zk,zl,zM,Pt.cells]|(apply za<;>intro _ h<;>try simp [-Nat.le_zero_eq] at h))
 .have nJ:=iI.h 2 (by decide);have w1:IntKind.i64.wrap (2+1)=3:=by decide
  cases ha:(ak p (x.ends 2).xs).2 with
  | false =>
   obtain rfl:=z8.h 2 (by decide) (ND ha);rw [ha] at nJ;generalize (ak p (x.ends 2).xs).1=av at *;simp only [Pt.cells,List.map] at nJ;clear iI fV fF iQ z0 z8 aB ha lJ;(repeat' first|simp [*,zb,zk,zl,zM,Pt.cells]|(apply za<;>intro _ h<;>try simp [-Nat.le_zero_eq] at h))
  | true =>
   have sa:=iQ.h 2 (by decide) ha;have pV:=sa.len;have hl:q < (x.ends 2).xs.length:=by rw [sa.len];exact hq
   have Ii:(q:Int) < (x.ends 2).xs.length:=by omega
   have iJ:rH (x.ends 2).xs[q]! 2=(x.ends 2).xs[q].y:=by rw [getElem!_pos (x.ends 2).xs q hl];rfl
   have qm:=rQ (k:=.i64) (f:=Pt.cells) (sz:=2) (s:=x.ends 2) hl;rw [ha] at nJ;generalize vV:(ak p (x.ends 2).xs).1=av at *;simp only [Pt.cells,List.map] at nJ qm;clear vV pV;have rA:=lJ.h x.box.x 2;have rz:=lJ.h x.box.y 2;have vC:bE x.box.x 2=x.box.x.lo:=rfl;have fD:bE x.box.y 2=x.box.y.lo:=rfl;rw [vC] at rA;rw [fD] at rz;simp only [Span.cells,List.map] at rA rz
   push_cast at rA rz
   clear vC fD
   by_cases hs:(x.ends 2).xs[q].y=x.box.y.lo
   case neg =>
    obtain rfl:=z8.h 2 (by decide) (NF (by rw [iJ];exact hs));clear iI fV fF iQ z0 z8 aB ha lJ sa iJ;(repeat' first|simp [*,zb,zk,zl,zM,Pt.cells]|(apply za<;>intro _ h<;>try simp [-Nat.le_zero_eq] at h))
   by_cases ht:262144 < (x.trees 2).xs.length
   .obtain rfl:=z8.h 2 (by decide) (NG ht);have pQ:(262144:Int) < (x.trees 2).xs.length:=by omega
    clear iI fV fF iQ z0 z8 aB ha lJ sa iJ ht;(repeat' first|simp [*,zb,zk,zl,zM,Pt.cells]|(apply za<;>intro _ h<;>try simp [-Nat.le_zero_eq] at h))
   have pQ:¬ (262144:Int) < (x.trees 2).xs.length:=by omega
   have jd:rH (x.ends 2).xs[q]! 2=mY x.box 2:=by rw [iJ];exact hs
   obtain ⟨so,sb⟩:=sa.ok jd;have bu:=fV.h 2 sb;have mr:=fF.h 2 (by decide)
   cases hm:zI p.boxes.xs[q]! x.box 2 with
   | true =>
    have iZ:=mr hm
    cases jM:rf (aN p q 2 x.box).facts.xs (aN p q 2 x.box).boxes.xs (x.trees 2).xs with
    | false =>
     obtain rfl:=z8.h 2 (by decide) (NH hm jM);rw [jM] at iZ;rw [hm] at bu;obtain ⟨q',bU⟩:∃ q',aN p q 2 x.box=q':=⟨_,rfl⟩
     rw [bU] at bu iZ;obtain ⟨qb,qf⟩:=q';simp only [Problem.cells,Pt.cells,List.map] at bu iZ
     push_cast at bu
     clear iI fV fF iQ z0 z8 aB ha lJ sa iJ ht jd so sb mr hm jM bU;(repeat' first|simp [*,zb,zk,zl,zM,Pt.cells]|(apply za<;>intro _ h<;>try simp [-Nat.le_zero_eq] at h))
    | true =>
     have mP:=Hide.mk (BN aB.h (NJ ha jd ht hm jM));rw [jM] at iZ;rw [hm] at bu;obtain ⟨q',bU⟩:∃ q',aN p q 2 x.box=q':=⟨_,rfl⟩
     rw [bU] at bu iZ;obtain ⟨qb,qf⟩:=q';simp only [Problem.cells,Pt.cells,List.map] at bu iZ
     push_cast at bu
     clear iI fV fF iQ z0 z8 aB ha lJ sa iJ ht jd so sb mr hm jM bU;(repeat' first|simp [*,zb,zk,zl,zM,Pt.cells]|(apply za<;>intro _ h<;>try simp [-Nat.le_zero_eq] at h));exact ⟨3,by omega,by decide,by omega,mP.h⟩
   | false =>
    clear mr;rw [hm] at bu;obtain ⟨q',bU⟩:∃ q',aN p q 2 x.box=q':=⟨_,rfl⟩
    rw [bU] at bu;obtain ⟨qb,qf⟩:=q';simp only [Problem.cells,Pt.cells,List.map] at bu
    push_cast at bu
    by_cases hz:(x.trees 2).xs.length=0
    .have mP:=Hide.mk (BN aB.h (NK ha jd ht hm hz));have DN:((x.trees 2).xs.length:Int)=0:=by omega
     clear iI fV fF iQ z0 z8 aB ha lJ sa iJ ht jd so sb hm bU;(repeat' first|simp [*,zb,zk,zl,zM,Pt.cells]|(apply za<;>intro _ h<;>try simp [-Nat.le_zero_eq] at h));exact ⟨3,by omega,by decide,by omega,mP.h⟩
    .obtain rfl:=z8.h 2 (by decide) (NI hm hz);have DN:¬ ((x.trees 2).xs.length:Int)=0:=by omega
     have DR:0 < (x.trees 2).xs.length:=by omega
     clear iI fV fF iQ z0 z8 aB ha lJ sa iJ ht jd so sb hm bU;(repeat' first|simp [*,zb,zk,zl,zM,Pt.cells]|(apply za<;>intro _ h<;>try simp [-Nat.le_zero_eq] at h))
 .have nJ:=iI.h 3 (by decide);have w1:IntKind.i64.wrap (3+1)=4:=by decide
  cases ha:(ak p (x.ends 3).xs).2 with
  | false =>
   obtain rfl:=z8.h 3 (by decide) (ND ha);rw [ha] at nJ;generalize (ak p (x.ends 3).xs).1=av at *;simp only [Pt.cells,List.map] at nJ;clear iI fV fF iQ z0 z8 aB ha lJ;(repeat' first|simp [*,zb,zk,zl,zM,Pt.cells]|(apply za<;>intro _ h<;>try simp [-Nat.le_zero_eq] at h))
  | true =>
   have sa:=iQ.h 3 (by decide) ha;have pV:=sa.len;have hl:q < (x.ends 3).xs.length:=by rw [sa.len];exact hq
   have Ii:(q:Int) < (x.ends 3).xs.length:=by omega
   have iJ:rH (x.ends 3).xs[q]! 3=(x.ends 3).xs[q].y:=by rw [getElem!_pos (x.ends 3).xs q hl];rfl
   have qm:=rQ (k:=.i64) (f:=Pt.cells) (sz:=2) (s:=x.ends 3) hl;rw [ha] at nJ;generalize vV:(ak p (x.ends 3).xs).1=av at *;simp only [Pt.cells,List.map] at nJ qm;clear vV pV;have rA:=lJ.h x.box.x 3;have rz:=lJ.h x.box.y 3;have vC:bE x.box.x 3=x.box.x.hi:=rfl;have fD:bE x.box.y 3=x.box.y.hi:=rfl;rw [vC] at rA;rw [fD] at rz;simp only [Span.cells,List.map] at rA rz
   push_cast at rA rz
   clear vC fD
   by_cases hs:(x.ends 3).xs[q].y=x.box.y.hi
   case neg =>
    obtain rfl:=z8.h 3 (by decide) (NF (by rw [iJ];exact hs));clear iI fV fF iQ z0 z8 aB ha lJ sa iJ;(repeat' first|simp [*,zb,zk,zl,zM,Pt.cells]|(apply za<;>intro _ h<;>try simp [-Nat.le_zero_eq] at h))
   by_cases ht:262144 < (x.trees 3).xs.length
   .obtain rfl:=z8.h 3 (by decide) (NG ht);have pQ:(262144:Int) < (x.trees 3).xs.length:=by omega
    clear iI fV fF iQ z0 z8 aB ha lJ sa iJ ht;(repeat' first|simp [*,zb,zk,zl,zM,Pt.cells]|(apply za<;>intro _ h<;>try simp [-Nat.le_zero_eq] at h))
   have pQ:¬ (262144:Int) < (x.trees 3).xs.length:=by omega
   have jd:rH (x.ends 3).xs[q]! 3=mY x.box 3:=by rw [iJ];exact hs
   obtain ⟨so,sb⟩:=sa.ok jd;have bu:=fV.h 3 sb;have mr:=fF.h 3 (by decide)
   cases hm:zI p.boxes.xs[q]! x.box 3 with
   | true =>
    have iZ:=mr hm
    cases jM:rf (aN p q 3 x.box).facts.xs (aN p q 3 x.box).boxes.xs (x.trees 3).xs with
    | false =>
     obtain rfl:=z8.h 3 (by decide) (NH hm jM);rw [jM] at iZ;rw [hm] at bu;obtain ⟨q',bU⟩:∃ q',aN p q 3 x.box=q':=⟨_,rfl⟩
     rw [bU] at bu iZ;obtain ⟨qb,qf⟩:=q';simp only [Problem.cells,Pt.cells,List.map] at bu iZ
     push_cast at bu
     clear iI fV fF iQ z0 z8 aB ha lJ sa iJ ht jd so sb mr hm jM bU;(repeat' first|simp [*,zb,zk,zl,zM,Pt.cells]|(apply za<;>intro _ h<;>try simp [-Nat.le_zero_eq] at h))
    | true =>
     have mP:=Hide.mk (BN aB.h (NJ ha jd ht hm jM));rw [jM] at iZ;rw [hm] at bu;obtain ⟨q',bU⟩:∃ q',aN p q 3 x.box=q':=⟨_,rfl⟩
     rw [bU] at bu iZ;obtain ⟨qb,qf⟩:=q';simp only [Problem.cells,Pt.cells,List.map] at bu iZ
     push_cast at bu
     clear iI fV fF iQ z0 z8 aB ha lJ sa iJ ht jd so sb mr hm jM bU;(repeat' first|simp [*,zb,zk,zl,zM,Pt.cells]|(apply za<;>intro _ h<;>try simp [-Nat.le_zero_eq] at h));exact ⟨4,by omega,by decide,by omega,mP.h⟩
   | false =>
    clear mr;rw [hm] at bu;obtain ⟨q',bU⟩:∃ q',aN p q 3 x.box=q':=⟨_,rfl⟩
    rw [bU] at bu;obtain ⟨qb,qf⟩:=q';simp only [Problem.cells,Pt.cells,List.map] at bu
    push_cast at bu
    by_cases hz:(x.trees 3).xs.length=0
    .have mP:=Hide.mk (BN aB.h (NK ha jd ht hm hz));have DN:((x.trees 3).xs.length:Int)=0:=by omega
     clear iI fV fF iQ z0 z8 aB ha lJ sa iJ ht jd so sb hm bU;(repeat' first|simp [*,zb,zk,zl,zM,Pt.cells]|(apply za<;>intro _ h<;>try simp [-Nat.le_zero_eq] at h));exact ⟨4,by omega,by decide,by omega,mP.h⟩
    .obtain rfl:=z8.h 3 (by decide) (NI hm hz);have DN:¬ ((x.trees 3).xs.length:Int)=0:=by omega
     have DR:0 < (x.trees 3).xs.length:=by omega
     clear iI fV fF iQ z0 z8 aB ha lJ sa iJ ht jd so sb hm bU;(repeat' first|simp [*,zb,zk,zl,zM,Pt.cells]|(apply za<;>intro _ h<;>try simp [-Nat.le_zero_eq] at h))
 .obtain rfl:=z0.h aB.h;clear iI fV fF iQ z8 aB lJ;(repeat' first|simp [*,zb]|(apply za<;>intro _ h<;>try simp [-Nat.le_zero_eq] at h))
end Go.Proofs.YtmmhnfghklppiaaGreat.Vm
