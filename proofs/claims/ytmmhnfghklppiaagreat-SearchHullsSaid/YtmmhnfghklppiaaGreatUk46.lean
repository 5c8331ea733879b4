/- What holds where points are a solution: no tree fits, extents hold them, proofs are right. Plain Lean, and search.Refute and inside walked. ref3.CheckExtent, where all is well: walked; ref3.Hull. What Hull and Extent answer, beside the specification's. Plain Lean. -/
import Derived.Test.YtmmhnfghklppiaaGreatUk44
import Derived.Test.YtmmhnfghklppiaaGreatUk25
import Derived.Test.YtmmhnfghklppiaaGreatUk40
import Derived.Test.YtmmhnfghklppiaaGreatUk43
import Derived.Test.YtmmhnfghklppiaaGreatUk45
import Derived.Test.YtmmhnfghklppiaaGreatUk42
namespace Go.Proofs.YtmmhnfghklppiaaGreat.Vm
open Go
set_option linter.unusedSimpArgs false
set_option linter.unusedVariables false
set_option maxHeartbeats 4000000
set_option maxRecDepth 4000
theorem zhk {b:List Box}:∀ (fs:List Fact) (k:Int),(Gm b fs k).2=true->∀ f∈fs,zD f b=false
 | [],k,_,f,hf=>by simp at hf
 | g::fs,k,h,f,hf=>by
  unfold Gm at h
  cases hg:zD g b with
  | true=>rw [hg] at h;simp at h
  | false =>
   rw [hg] at h;simp only [Bool.false_eq_true,if_false] at h;rcases List.mem_cons.1 hf with rfl|hf
   .exact hg
   .exact zhk fs _ h f hf
theorem zmI {p:Problem} {pts:List Pt} (h:(aO p pts).2=true):jL p=0/\fZ p pts:=by
 unfold aO at h
 split at h
 .rename_i hc;obtain ⟨h0,hl,hi⟩:=hc
  refine ⟨h0,hl,fun i h1 h2=>?_,zhk _ _ h⟩
  have:=hi i h2 h1;unfold rE nP at this;simp only [Bool.and_eq_true,decide_eq_true_eq] at this;unfold bF;omega
 .simp at h
theorem zsA {p:Problem} {q:Nat} {D:aN} {x:oW} (h0:jL p=0) (h:FN p q D x):Ap p q x:=by
 obtain ⟨j,k0,c,cs,gs,k,ha,ht,rfl⟩:=h.ex;have ok:=bT.1 h0;have hq:=h.lt;obtain ⟨p0,s0,v0⟩:=h.Et.x0;obtain ⟨p2,s2,v2⟩:=h.Et.y0;have i0:=h.Et.all p0 s0;have i2:=h.Et.all p2 s2;unfold bF at i0 i2
 refine ⟨h0,hq,by show (zZ q D.aa 0).1.x.lo<=(zZ q D.aa 0).1.x.hi;omega,by show (zZ q D.aa 0).1.y.lo<=(zZ q D.aa 0).1.y.hi;omega,fun t uk=>?_⟩
 have hv:=ha.Xq t uk;have hs:=ha.side t uk;have CF:q < (sZ D p.boxes.xs.length cs t).length:=by rw [hv.len];exact hq
 have iZ:=hv.y8 q CF hq;have KI:=aH.1 (ok.valid _ (List.getElem_mem hq))
 refine ⟨ziG h0 hv,hv.len,hs,?_,?_,?_⟩
 .show pJ (uz (zZ q D.aa 0).1 t);rw [<- hs,getElem!_pos _ q CF];unfold bF at iZ;unfold pJ Xp
  split<;>omega
 .show (Sl.of (rM p q (zZ q D.aa 0).1 gs k t)).xs.length<=262144;rw [Sl.fP];unfold rM
  split
  .rename_i hb;exact (ht.tr t uk hb).2
  .simp
 .show (zP p.boxes.xs[q]! (zZ q D.aa 0).1 t=true/\iU (bI p q t (zZ q D.aa 0).1).boxes.xs<=600/\GD (bI p q t (zZ q D.aa 0).1).facts.xs (bI p q t (zZ q D.aa 0).1).boxes.xs (Sl.of (rM p q (zZ q D.aa 0).1 gs k t)).xs=true)\/(zP p.boxes.xs[q]! (zZ q D.aa 0).1 t=false/\(Sl.of (rM p q (zZ q D.aa 0).1 gs k t)).xs.length=0)
  rw [Sl.fP]
  cases hb:zP p.boxes.xs[q]! (zZ q D.aa 0).1 t with
  | true =>
   left;have he:rM p q (zZ q D.aa 0).1 gs k t=OO (bI p q t (zZ q D.aa 0).1) (gs t) (k t):=by unfold rM;rw [if_pos hb]
   rw [he];exact ⟨rfl,ht.mu t uk hb,(ht.tr t uk hb).1⟩
  | false =>
   right;have he:rM p q (zZ q D.aa 0).1 gs k t=[]:=by unfold rM;rw [if_neg (by rw [hb];simp)]
   rw [he];exact ⟨rfl,rfl⟩
theorem zqb (p:Problem) (JX:pX p=true) (pt:Int):∃ x e,zgR p pt x e/\(e=0->∃ D,jL p=0/\0<=pt/\FN p pt.toNat D x):=by
 by_cases h0:jL p=0
 case neg=>exact ⟨ni,jL p,.inl ⟨h0,rfl,rfl⟩,fun h=>absurd h h0⟩
 by_cases hp:0<=pt/\pt < p.boxes.xs.length
 case neg=>exact ⟨ni,1,.inr (.inl ⟨h0,hp,rfl,rfl⟩),fun h=>by simp at h⟩
 have ok:=bT.1 h0;obtain ⟨D,e',hf⟩:=zsw ok;have hq:pt.toNat < p.boxes.xs.length:=by omega
 rcases Zf ok hf with ⟨rfl,rfl,_⟩|⟨rfl,rfl⟩|⟨rfl,l,gs,iZ⟩
 .exact ⟨ni,9,.inr (.inr ⟨h0,hp,_,_,hf,.inr (.inl ⟨rfl,rfl,rfl,rfl⟩)⟩),fun h=>by simp at h⟩
 .exact ⟨ni,2,.inr (.inr ⟨h0,hp,_,_,hf,.inl ⟨by simp,rfl,rfl⟩⟩),fun h=>by simp at h⟩
 .cases he:D.empty with
  | true=>exact ⟨ni,9,.inr (.inr ⟨h0,hp,_,_,hf,.inr (.inl ⟨rfl,he,rfl,rfl⟩)⟩),fun h=>by simp at h⟩
  | false =>
   obtain ⟨j,k0,c,cs,ha⟩:=zuE ok iZ he hq;have hh:=iZ.Et he (by rw [iZ.BA.1.sub.1];exact hq);obtain ⟨gt,kt,ht⟩:=zuv ok JX hf he hq hh;have EX:=zi7 ok hf;have hx:FN p pt.toNat D (zoA p pt.toNat D cs gt kt):=⟨hq,he,hh,EX.1,fun s hs=>(EX.2 he s hs).2,j,k0,c,cs,gt,kt,ha,ht,rfl⟩
   exact ⟨_,0,.inr (.inr ⟨h0,hp,D,0,hf,.inr (.inr ⟨rfl,rfl,hx⟩)⟩),fun _=>⟨D,h0,hp.1,hx⟩⟩
set_option maxHeartbeats 8000000
theorem EJ.at {p:Problem} {q:Nat} {x:oW} {k:Nat} (ok:ak p) (hq:q < p.boxes.xs.length) (hk:k < 4) (h:EJ p q x k):JY p q k x.box:=by
 have nb:=ok.nb;obtain ⟨_,ZN⟩:=zmI h.al;have CF:q < (x.ends k).xs.length:=by rw [ZN.len];exact hq
 have iZ:=ZN.y8 q CF hq;have hs:=h.side;rw [getElem!_pos (x.ends k).xs q CF] at hs;have Ez:=xX ok _ (List.getElem_mem hq);unfold bF at iZ;unfold Xp at hs
 refine ⟨hq,by omega,hk,h.ok,by rw [getElem!_pos p.boxes.xs q hq];exact Ez,?_,?_⟩<;>rw [getElem!_pos p.boxes.xs q hq,<- hs]<;>unfold bA<;>(have nE:k=0\/k=1\/k=2\/k=3:=by omega)<;>rcases nE with rfl|rfl|rfl|rfl<;>simp<;>omega
theorem sh23:G.shared 23=false:=by decide
theorem e23 (n:Nat) (p:Problem) (q:Nat) (x:oW) (h:Ap p q x):zF G (n+700) 23 [.agg p.cells,.int .i64 (q:Nat),.agg x.cells]=some (.int .i64 0):=by
 refine zy (zx _) rfl g23 rfl ?_
 have hc:=fun H=>zf (G:=G) (n:=n+699) (H:=H) (caps:=[]) (ps:=[.agg p.cells]) sh27 (e27 (n+696) p);rw [h.ok] at hc;have ok:=bT.1 h.ok;have nb:=ok.nb;have hq:=h.lt;have Oj:(q:Int) < p.boxes.xs.length:=by omega
 have hqI2:¬ (p.boxes.xs.length:Int)<=q:=by omega
 have hqI3:¬ (q:Int) < 0:=by omega
 have um:=Hide.mk fun (k:Nat) (hk:k < 4) H=>zf (G:=G) (n:=n+699) (H:=H) (caps:=[]) (ps:=[.agg p.cells,(x.ends k).pv Pt.cells 2]) sh56 (e56 (n+690) p (x.ends k) (by rw [(h.sides k hk).len];omega));have pY:=Hide.mk fun (k:Nat) (hk:k < 4) H=>zf (G:=G) (n:=n+699) (H:=H) (caps:=[]) (ps:=[.agg p.cells,.int .i64 (q:Nat),.agg x.box.cells,.int .i64 (k:Nat)]) sh58 (e58 (n+697) p q k x.box ((h.sides k hk).at ok hq hk));have nV:=Hide.mk fun (k:Nat) (hk:k < 4) (hs:zP p.boxes.xs[q]! x.box k=true) (hm:iU (bI p q k x.box).boxes.xs<=600) H=>zf (G:=G) (n:=n+699) (H:=H) (caps:=[]) (ps:=[.agg (bI p q k x.box).cells,(x.trees k).pv Node.cells 4]) sh44 (e44 (n+59) (bI p q k x.box) (ZM ok hq hs) (x.trees k) (by have:=(h.sides k hk).tl;omega) hm);have vQ:=Hide.mk fun (s:Span) (k:Nat) H=>zf (G:=G) (n:=n+699) (H:=H) (caps:=[]) (ps:=[.agg s.cells,.int .i64 (k:Nat)]) sh57 (e57 (n+698) s k);have Aq:=Hide.mk h.sides;have b1:=h.bx;have b2:=h.by_;have nb1:¬ x.box.x.hi < x.box.x.lo:=by omega
 have nb2:¬ x.box.y.hi < x.box.y.lo:=by omega
 simp only [Problem.cells,Box.cells,Span.cells,List.map] at hc;have hbc:x.box.cells=[.int .i64 x.box.x.lo,.int .i64 x.box.x.hi,.int .i64 x.box.y.lo,.int .i64 x.box.y.hi]:=rfl;have BC:p.cells=[p.boxes.pv Box.cells 4,p.facts.pv Fact.cells 9]:=rfl;rw [hbc,BC] at pY;rw [BC] at um;clear h ok b1 b2;(repeat' first|simp [*,zb,c23,Problem.cells,oW.cells,zH,zU,qi]|(apply za<;>intro _ h<;>try simp [-Nat.le_zero_eq] at h))
 refine zA [(6,6),(8,15),(50,128)] (fun (k:Nat) env H=>env 8=.pure (.int .i64 k)/\k<=4) (fun k=>4 - k) 0 ?_ ?_ ?_ ?_
 .decide
 .exact ⟨by simp,by omega⟩
 .simp only [zz];omega
 rintro k env H ⟨g64,hk⟩;have Xv:k=0\/k=1\/k=2\/k=3\/k=4:=by omega
 rcases Xv with rfl|rfl|rfl|rfl|rfl
 .have s:=Aq.h 0 (by decide);have rY:=um.h 0 (by decide);have iK:=pY.h 0 (by decide);have l7:=nV.h 0 (by decide);have rR:=vQ.h x.box.x 0;have rQ:=vQ.h x.box.y 0;have pq:bE x.box.x 0=x.box.x.lo:=rfl;have aV:bE x.box.y 0=x.box.y.lo:=rfl;rw [pq] at rR;rw [aV] at rQ;have w1:IntKind.i64.wrap (0+1)=1:=by decide
  have hl:q < (x.ends 0).xs.length:=by rw [s.len];exact hq
  have Jd:(q:Int) < (x.ends 0).xs.length:=by omega
  have yt:(x.ends 0).xs[q].x=x.box.x.lo:=by
   have:=s.side;rw [getElem!_pos (x.ends 0).xs q hl] at this;exact this
  have qx:¬ (262144:Int) < (x.trees 0).xs.length:=by have:=s.tl;omega
  rw [s.al] at rY;generalize (aO p (x.ends 0).xs).1=av at *;obtain ⟨q',mY⟩:∃ q',bI p q 0 x.box=q':=⟨_,rfl⟩
  have qJ:=pR (k:=.i64) (f:=Pt.cells) (sz:=2) (s:=x.ends 0) hl;have str:=s.tr;rw [mY] at iK l7 str;obtain ⟨qb,qf⟩:=q';simp only [Problem.cells,Pt.cells,Span.cells,List.map] at iK rY qJ rR rQ
  push_cast at iK rR rQ
  clear mY um pY nV Aq s vQ pq aV;rcases str with ⟨t1,t2,t3⟩|⟨t1,t2⟩
  .have pF:=l7 t1 t2;rw [t3] at pF;rw [t1] at iK;simp only [Problem.cells,List.map] at pF;clear l7 t1 t2 t3;(repeat' first|simp [*,zb,zH,zU,qi,Pt.cells]|(apply za<;>intro _ h<;>try simp [-Nat.le_zero_eq] at h));exact ⟨1,by omega,by decide,by omega⟩
  .have Ru:((x.trees 0).xs.length:Int)=0:=by omega
   rw [t1] at iK;clear l7 t1;(repeat' first|simp [*,zb,zH,zU,qi,Pt.cells]|(apply za<;>intro _ h<;>try simp [-Nat.le_zero_eq] at h));exact ⟨1,by omega,by decide,by omega⟩
 .have s:=Aq.h 1 (by decide);have rY:=um.h 1 (by decide);have iK:=pY.h 1 (by decide);have l7:=nV.h 1 (by decide);have rR:=vQ.h x.box.x 1;have rQ:=vQ.h x.box.y 1;have pq:bE x.box.x 1=x.box.x.hi:=rfl;have aV:bE x.box.y 1=x.box.y.hi:=rfl;rw [pq] at rR;rw [aV] at rQ;have w1:IntKind.i64.wrap (1+1)=2:=by decide
  have hl:q < (x.ends 1).xs.length:=by rw [s.len];exact hq
  have Jd:(q:Int) < (x.ends 1).xs.length:=by omega
  have yt:(x.ends 1).xs[q].x=x.box.x.hi:=by
   have:=s.side;rw [getElem!_pos (x.ends 1).xs q hl] at this;exact this
  have qx:¬ (262144:Int) < (x.trees 1).xs.length:=by have:=s.tl;omega
  rw [s.al] at rY;generalize (aO p (x.ends 1).xs).1=av at *;obtain ⟨q',mY⟩:∃ q',bI p q 1 x.box=q':=⟨_,rfl⟩
  have qJ:=pR (k:=.i64) (f:=Pt.cells) (sz:=2) (s:=x.ends 1) hl;have str:=s.tr;rw [mY] at iK l7 str;obtain ⟨qb,qf⟩:=q';simp only [Problem.cells,Pt.cells,Span.cells,List.map] at iK rY qJ rR rQ
  push_cast at iK rR rQ
  clear mY um pY nV Aq s vQ pq aV;rcases str with ⟨t1,t2,t3⟩|⟨t1,t2⟩
  .have pF:=l7 t1 t2;rw [t3] at pF;rw [t1] at iK;simp only [Problem.cells,List.map] at pF;clear l7 t1 t2 t3;(repeat' first|simp [*,zb,zH,zU,qi,Pt.cells]|(apply za<;>intro _ h<;>try simp [-Nat.le_zero_eq] at h));exact ⟨2,by omega,by decide,by omega⟩
  .have Ru:((x.trees 1).xs.length:Int)=0:=by omega
   rw [t1] at iK;clear l7 t1;(repeat' first|simp [*,zb,zH,zU,qi,Pt.cells]|(apply za<;>intro _ h<;>try simp [-Nat.le_zero_eq] at h));exact ⟨2,by omega,by decide,by omega⟩
 .have s:=Aq.h 2 (by decide);have rY:=um.h 2 (by decide);have iK:=pY.h 2 (by decide);have l7:=nV.h 2 (by decide);have rR:=vQ.h x.box.x 2;have rQ:=vQ.h x.box.y 2;have pq:bE x.box.x 2=x.box.x.lo:=rfl;have aV:bE x.box.y 2=x.box.y.lo:=rfl;rw [pq] at rR;rw [aV] at rQ;have w1:IntKind.i64.wrap (2+1)=3:=by decide
  have hl:q < (x.ends 2).xs.length:=by rw [s.len];exact hq
  have Jd:(q:Int) < (x.ends 2).xs.length:=by omega
  have yt:(x.ends 2).xs[q].y=x.box.y.lo:=by
   have:=s.side;rw [getElem!_pos (x.ends 2).xs q hl] at this;exact this
  have qx:¬ (262144:Int) < (x.trees 2).xs.length:=by have:=s.tl;omega
  rw [s.al] at rY;generalize (aO p (x.ends 2).xs).1=av at *;obtain ⟨q',mY⟩:∃ q',bI p q 2 x.box=q':=⟨_,rfl⟩
  have qJ:=pR (k:=.i64) (f:=Pt.cells) (sz:=2) (s:=x.ends 2) hl;have str:=s.tr;rw [mY] at iK l7 str;obtain ⟨qb,qf⟩:=q';simp only [Problem.cells,Pt.cells,Span.cells,List.map] at iK rY qJ rR rQ
  push_cast at iK rR rQ
  clear mY um pY nV Aq s vQ pq aV;rcases str with ⟨t1,t2,t3⟩|⟨t1,t2⟩
  .have pF:=l7 t1 t2;rw [t3] at pF;rw [t1] at iK;simp only [Problem.cells,List.map] at pF;clear l7 t1 t2 t3;(repeat' first|simp [*,zb,zH,zU,qi,Pt.cells]|(apply za<;>intro _ h<;>try simp [-Nat.le_zero_eq] at h));exact ⟨3,by omega,by decide,by omega⟩
  .have Ru:((x.trees 2).xs.length:Int)=0:=by omega
   rw [t1] at iK;clear l7 t1;(repeat' first|simp [*,zb,zH,zU,qi,Pt.cells]|(apply za<;>intro _ h<;>try simp [-Nat.le_zero_eq] at h));exact ⟨3,by omega,by decide,by omega⟩
 .have s:=Aq.h 3 (by decide);have rY:=um.h 3 (by decide);have iK:=pY.h 3 (by decide);have l7:=nV.h 3 (by decide);have rR:=vQ.h x.box.x 3;have rQ:=vQ.h x.box.y 3;have pq:bE x.box.x 3=x.box.x.hi:=rfl;have aV:bE x.box.y 3=x.box.y.hi:=rfl;rw [pq] at rR;rw [aV] at rQ;have w1:IntKind.i64.wrap (3+1)=4:=by decide
  have hl:q < (x.ends 3).xs.length:=by rw [s.len];exact hq
  have Jd:(q:Int) < (x.ends 3).xs.length:=by omega
  have yt:(x.ends 3).xs[q].y=x.box.y.hi:=by
   have:=s.side;rw [getElem!_pos (x.ends 3).xs q hl] at this;exact this
  have qx:¬ (262144:Int) < (x.trees 3).xs.length:=by have:=s.tl;omega
  rw [s.al] at rY;generalize (aO p (x.ends 3).xs).1=av at *;obtain ⟨q',mY⟩:∃ q',bI p q 3 x.box=q':=⟨_,rfl⟩
  have qJ:=pR (k:=.i64) (f:=Pt.cells) (sz:=2) (s:=x.ends 3) hl;have str:=s.tr;rw [mY] at iK l7 str;obtain ⟨qb,qf⟩:=q';simp only [Problem.cells,Pt.cells,Span.cells,List.map] at iK rY qJ rR rQ
  push_cast at iK rR rQ
  clear mY um pY nV Aq s vQ pq aV;rcases str with ⟨t1,t2,t3⟩|⟨t1,t2⟩
  .have pF:=l7 t1 t2;rw [t3] at pF;rw [t1] at iK;simp only [Problem.cells,List.map] at pF;clear l7 t1 t2 t3;(repeat' first|simp [*,zb,zH,zU,qi,Pt.cells]|(apply za<;>intro _ h<;>try simp [-Nat.le_zero_eq] at h));exact ⟨4,by omega,by decide,by omega⟩
  .have Ru:((x.trees 3).xs.length:Int)=0:=by omega
   rw [t1] at iK;clear l7 t1;(repeat' first|simp [*,zb,zH,zU,qi,Pt.cells]|(apply za<;>intro _ h<;>try simp [-Nat.le_zero_eq] at h));exact ⟨4,by omega,by decide,by omega⟩
 .clear um pY nV Aq vQ;(repeat' first|simp [*,zb]|(apply za<;>intro _ h<;>try simp [-Nat.le_zero_eq] at h))
theorem sh25:G.shared 25=false:=by decide
theorem e25 (n:Nat) (p:Problem) (E:Int) (nS:Sl Int) (hS:Sl Box) (oS:Sl Pt) (h:WR p E nS hS oS):zF G (n+11) 25 [.agg p.cells]=some (.aQ [(if E≠0 then Sl.nil else hS).pv Box.cells 4,.int .i64 E]):=by
 refine zy (zx _) rfl g25 rfl ?_
 have hc:=fun H=>zf (G:=G) (n:=n+10) (H:=H) (caps:=[]) (ps:=[.agg p.cells]) sh12 (e12 n p E nS hS oS h);simp only [Problem.cells,List.map] at hc
 by_cases hE:E=0
 .subst hE;rw [if_neg (by simp)];clear h;(repeat' first|simp [*,zb,c25,Problem.cells]|(apply za<;>intro _ h<;>try simp [-Nat.le_zero_eq] at h))
 .rw [if_pos hE];have hn:(Sl.nil:Sl Box).pv Box.cells 4=.nils:=rfl;rw [hn];clear h hn;(repeat' first|simp [*,zb,c25,Problem.cells]|(apply za<;>intro _ h<;>try simp [-Nat.le_zero_eq] at h))
set_option maxHeartbeats 4000000
structure JZ (p:Problem) (pt:Int) (D:aN) (e E:Int) (nS:Sl Int) (hS:Sl Box) (oS:Sl Pt) (x:oW) (g:Int):Prop where
 so:ik p D e
 sr:WR p E nS hS oS
 eq:E=(rJ D e p.boxes.xs.length).2
 xs:(if E≠0 then Sl.nil else hS).xs=(rJ D e p.boxes.xs.length).1
 len:(rJ D e p.boxes.xs.length).1.length<=p.boxes.xs.length
 ext:zgR p pt x g
 geq:g=if jL p=0/\¬ (0<=pt/\pt < p.boxes.xs.length) then 1 else E
 zero:g≠0->x=ni
 good:g=0->∃ q:Nat,pt=q/\Ap p q x/\∃ h:q < (rJ D e p.boxes.xs.length).1.length,(rJ D e p.boxes.xs.length).1[q]=x.box
theorem zqa (p:Problem) (JX:pX p=true) (pt:Int):∃ D e E nS hS oS x g,JZ p pt D e E nS hS oS x g:=by
 obtain ⟨D,e,E,nS,hS,oS,so,sr,hE,hx⟩:=zqA p;obtain ⟨x,g,MH,hg⟩:=zqb p JX pt
 refine ⟨D,e,E,nS,hS,oS,x,g,so,sr,hE,hx,?_,MH,?_,?_,?_⟩
 .unfold rJ
  split
  .simp
  .split<;>simp
 .rcases MH with ⟨c,_,rfl⟩|⟨c,h1,_,rfl⟩|⟨c,h1,D',e',hf,h2⟩
  .rw [if_neg (fun h=>c h.1),hE];rcases so with ⟨_,_,rfl⟩|⟨h,_⟩
   .unfold rJ;rw [if_pos c]
   .exact absurd h c
  .rw [if_pos ⟨c,h1⟩]
  .rw [if_neg (fun h=>h.2 h1),hE];obtain ⟨rfl,rfl⟩:=so.unique (.inr ⟨c,hf⟩);unfold rJ;rcases h2 with ⟨h3,_,rfl⟩|⟨h3,h4,_,rfl⟩|⟨h3,rfl,h4⟩
   .rw [if_pos h3]
   .rw [if_neg (by simp [h3]),if_pos h4]
   .rw [if_neg (by simp [h3]),if_neg (by simp [h4.empty])]
 .intro h;rcases MH with ⟨c,h1,_⟩|⟨c,_,h1,_⟩|⟨c,h1,D',e',hf,⟨_,h2,_⟩|⟨_,_,h2,_⟩|⟨_,h2,_⟩⟩
  .exact h1
  .exact h1
  .exact h2
  .exact h2
  .exact absurd h2 h
 .intro h;obtain ⟨D',c,h0,ho⟩:=hg h
  refine ⟨pt.toNat,by omega,zsA c ho,?_⟩
  have hq:=ho.lt;subst h;rcases MH with ⟨c',_,_⟩|⟨_,_,_,h1⟩|⟨_,h1,D2,e',hf,⟨h2,_,h3⟩|⟨_,_,_,h3⟩|⟨h2,_,h3⟩⟩
  .exact absurd c c'
  .omega
  .exact absurd h3.symm h2
  .omega
  .obtain ⟨rfl,rfl⟩:=so.unique (.inr ⟨c,hf⟩);subst h2;have hF:rJ D 0 p.boxes.xs.length=((List.range p.boxes.xs.length).map fun i=>(zZ i D.aa 0).1,0):=by
    unfold rJ;rw [if_neg (by simp),if_neg (by simp [h3.empty])]
   obtain ⟨_,_,_,_,_,_,_,_,hxx⟩:=h3.ex;rw [hF,hxx]
   refine ⟨by simpa using hq,?_⟩
   simp only [List.getElem_map,List.getElem_range];rfl
end Go.Proofs.YtmmhnfghklppiaaGreat.Vm
