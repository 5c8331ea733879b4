/- What Count, Hull and Decide say of the solutions. Plain Lean. The specification's bare, hold and about, walked. -/
import Derived.Test.YtmmhnfghklppiaaGreatVk25
import Derived.Test.YtmmhnfghklppiaaGreatVk31
import Derived.Test.YtmmhnfghklppiaaGreatVk27
namespace Go.Proofs.YtmmhnfghklppiaaGreat.Vm
open Go
set_option linter.unusedSimpArgs false
set_option linter.unusedVariables false
set_option maxHeartbeats 4000000
structure pX (p:Problem) (i:Nat) (b:Box):Prop where
 all:∀ pts,iQ p pts->fA pts[i]! b
 x0:∃ pts,iQ p pts/\pts[i]!.x=b.x.lo
 x1:∃ pts,iQ p pts/\pts[i]!.x=b.x.hi
 y0:∃ pts,iQ p pts/\pts[i]!.y=b.y.lo
 y1:∃ pts,iQ p pts/\pts[i]!.y=b.y.hi
theorem pX.unique {p:Problem} {i:Nat} {b c:Box} (h:pX p i b) (h':pX p i c):b=c:=by
 have key:∀ {b c:Box},pX p i b->pX p i c->c.x.lo<=b.x.lo/\b.x.hi<=c.x.hi/\c.y.lo<=b.y.lo/\b.y.hi<=c.y.hi:=fun {b c} h h'=>by
  obtain ⟨p0,s0,e0⟩:=h.x0;obtain ⟨p1,s1,e1⟩:=h.x1;obtain ⟨p2,s2,e2⟩:=h.y0;obtain ⟨p3,s3,e3⟩:=h.y1;have a0:=h'.all _ s0;have a1:=h'.all _ s1;have a2:=h'.all _ s2;have a3:=h'.all _ s3;unfold fA at a0 a1 a2 a3;omega
 have k1:=key h h';have k2:=key h' h;obtain ⟨⟨b1,b2⟩,b3,b4⟩:=b;obtain ⟨⟨c1,c2⟩,c3,c4⟩:=c;simp only [Box.mk.injEq,Span.mk.injEq] at *;omega
theorem zic {pt:Nat}:∀ (ss:List bX) (i:Nat) (s:bX),s∈ss->pt∈s.part->(∀ s'∈ss,pt∈s'.part->s'=s)->(RS pt ss i).1=RQ s (s.part.idxOf pt)
 | a::ss,i,s,hs,hp,hu=>by
  unfold RS
  by_cases h:pt∈a.part
  .rw [if_pos h,hu a List.mem_cons_self h]
  .rw [if_neg h];rcases List.mem_cons.1 hs with rfl|hs
   .exact absurd hp h
   .exact zic ss (i+1) s hs hp fun s' h'=>hu s' (List.mem_cons_of_mem _ h')
theorem nV.hull {p:Problem} {D:bB} {l:List Box} {gs:List (List Nat)} (h:nV p D l gs) (he:D.empty=false) {i:Nat} (hi:i < l.length):pX p i (RS i D.bJ 0).1:=by
 obtain ⟨g,hg,BP⟩:=List.mem_flatten.1 ((h.div.all i).1 hi);have bu:=h.div.one g hg;have ho:=h.seen g hg;have hn:(jS p.facts.xs l g).n≠0:=fun e=>by
  have:D.empty=true:=by rw [h.empty,U7,h.bJ];exact ⟨_,List.mem_map.2 ⟨g,hg,rfl⟩,e⟩
  rw [this] at he;simp at he
 have hf:(RS i D.bJ 0).1=RQ (jS p.facts.xs l g) (g.idxOf i):=by
  rw [zic D.bJ 0 (jS p.facts.xs l g) (by rw [h.bJ];exact List.mem_map.2 ⟨g,hg,rfl⟩) (by rw [ho.same];exact BP) (fun s' nQ bT=>?_),ho.same];rw [h.bJ] at nQ;obtain ⟨g',sJ,rfl⟩:=List.mem_map.1 nQ;rw [(h.seen g' sJ).same] at bT;have:g'=g:=by
   have xW:=(List.pairwise_flatten.1 h.div.nodup).2
   refine Classical.byContradiction fun bL=>?_
   obtain ⟨a,ha,rfl⟩:=List.mem_iff_getElem.1 hg;obtain ⟨b,hb,rfl⟩:=List.mem_iff_getElem.1 sJ;rcases Nat.lt_trichotomy a b with hl|hl|hl
   .exact List.pairwise_iff_getElem.1 xW a b ha hb hl i BP i bT rfl
   .subst hl;exact bL rfl
   .exact List.pairwise_iff_getElem.1 xW b a hb ha hl i bT i BP rfl
  rw [this]
 rw [hf];have hk:=List.idxOf_lt_length_of_mem BP;have Fh:g[g.idxOf i]=i:=List.getElem_idxOf hk;generalize g.idxOf i=k at *;have hlen:=ho.len
 -- what stands at a side
 have side:∀ t,t < 4->∃ pts,iQ p pts/\wW (jS p.facts.xs l g) (4*k+t) k=pts[i]! /\ ∀ lJ,iQ p lJ->jL pts[i]! t<=jL lJ[i]! t:=fun t ht=>by
  have hj:4*k+t < (jS p.facts.xs l g).ends.length:=by omega
  obtain ⟨c,hc,h1,h2⟩:=ho.ends hn _ hj;obtain ⟨pts,hs,Lh⟩:=h.some he hg hc;have fe:c.length=g.length:=by rw [<- Lh];simp [pick]
  have BQ:k < c.length:=by omega
  have hck:c[k]! = pts[i]! := by
   rw [getElem!_pos c k BQ];have:c[k]=(pick pts g)[k]'(by simpa [pick] using hk):=by simp only [Lh]
   rw [this];simp only [pick,List.getElem_map,Fh]
  refine ⟨pts,hs,?_,fun lJ nQ=>?_⟩
  .unfold wW;rw [getElem!_pos (jS p.facts.xs l g).ends (4*k+t) hj,h1];exact hck
  .have h3:=h2 _ (Yx h.div ((RU h.GG _).1 nQ) g hg);unfold jE at h3;rw [show (4*k+t) / 4=k by omega,show (4*k+t) % 4=t by omega,hck] at h3;have OB:k < (pick lJ g).length:=by simpa [pick] using hk
   rw [getElem!_pos (pick lJ g) k OB] at h3;simp only [pick,List.getElem_map,Fh] at h3;exact h3
 obtain ⟨p0,s0,e0,m0⟩:=side 0 (by omega);obtain ⟨p1,s1,e1,m1⟩:=side 1 (by omega);obtain ⟨p2,s2,e2,m2⟩:=side 2 (by omega);obtain ⟨p3,s3,e3,m3⟩:=side 3 (by omega);rw [Nat.add_zero] at e0;have hb:RQ (jS p.facts.xs l g) k=⟨⟨p0[i]!.x,p1[i]!.x⟩,⟨p2[i]!.y,p3[i]!.y⟩⟩:=by unfold RQ;rw [e0,e1,e2,e3]
 rw [hb]
 refine ⟨fun pts hs=>?_,⟨p0,s0,rfl⟩,⟨p1,s1,rfl⟩,⟨p2,s2,rfl⟩,⟨p3,s3,rfl⟩⟩
 have a0:=m0 pts hs;have a1:=m1 pts hs;have a2:=m2 pts hs;have a3:=m3 pts hs;have k0:∀ p:Pt,jL p 0=p.x:=fun p=>rfl;have k1:∀ p:Pt,jL p 1=-p.x:=fun p=>rfl;have k2:∀ p:Pt,jL p 2=p.y:=fun p=>rfl;have k3:∀ p:Pt,jL p 3=-p.y:=fun p=>rfl;rw [k0,k0] at a0;rw [k1,k1] at a1;rw [k2,k2] at a2;rw [k3,k3] at a3;unfold fA;simp only;omega
theorem zmr (f:Fact):yn f false=f:=by
 obtain ⟨_,_,nt,_⟩:=f;simp [yn]
def pY (p:Problem) (f:Fact) (v:Int):Prop:=(∃ pts,iQ p pts) /\
 ((v=2/\∀ pts,iQ p pts->zJ f (pts.map fT)=false) \/
  (v=1/\∀ pts,iQ p pts->zJ f (pts.map fT)=true) \/
  (v=3/\(∃ pts,iQ p pts/\zJ f (pts.map fT)=true)/\∃ pts,iQ p pts/\zJ f (pts.map fT)=false))
theorem pY.unique {p:Problem} {f:Fact} {v w:Int} (h:pY p f v) (h':pY p f w):v=w:=by
 obtain ⟨⟨pts,hp⟩,h⟩:=h;obtain ⟨_,h'⟩:=h';rcases h with ⟨rfl,a⟩|⟨rfl,a⟩|⟨rfl,⟨x,hx,fx⟩,y,hy,fy⟩<;>rcases h' with ⟨rfl,b⟩|⟨rfl,b⟩|⟨rfl,⟨x',KF,fx'⟩,y',DC,fy'⟩
 .rfl
 .have:=a _ hp;rw [b _ hp] at this;simp at this
 .have:=a _ KF;rw [fx'] at this;simp at this
 .have:=a _ hp;rw [b _ hp] at this;simp at this
 .rfl
 .have:=a _ DC;rw [fy'] at this;simp at this
 .have:=b _ hx;rw [fx] at this;simp at this
 .have:=b _ hy;rw [fy] at this;simp at this
 .rfl
theorem pY.more {p q:Problem} {f:Fact} {v w:Int} (hs:∀ pts,iQ q pts->iQ p pts) (h:pY p f v) (h':pY q f w):v=3\/v=w:=by
 obtain ⟨_,h⟩:=h;obtain ⟨⟨pts,hp⟩,h'⟩:=h';rcases h with ⟨rfl,a⟩|⟨rfl,a⟩|⟨rfl,_⟩
 .right;rcases h' with ⟨rfl,b⟩|⟨rfl,b⟩|⟨rfl,⟨x',KF,fx'⟩,_⟩
  .rfl
  .have:=a _ (hs _ hp);rw [b _ hp] at this;simp at this
  .have:=a _ (hs _ KF);rw [fx'] at this;simp at this
 .right;rcases h' with ⟨rfl,b⟩|⟨rfl,b⟩|⟨rfl,_,y',DC,fy'⟩
  .have:=a _ (hs _ hp);rw [b _ hp] at this;simp at this
  .rfl
  .have:=a _ (hs _ DC);rw [fy'] at this;simp at this
 .left;rfl
theorem zo1 (p:Problem) (f:Fact):∃ D1 e1 D2 e2 D3 e3,(zK p f=0->aX p D1 e1/\aX (jc p f false) D2 e2/\aX (jc p f true) D3 e3):=by
 by_cases h:zK p f=0
 .obtain ⟨ok,Vb,_⟩:=GM (t:=false) h;obtain ⟨_,Vd,_⟩:=GM (t:=true) h;obtain ⟨D1,e1,h1⟩:=ZQ ok;obtain ⟨D2,e2,h2⟩:=ZQ Vb;obtain ⟨D3,e3,h3⟩:=ZQ Vd;exact ⟨D1,e1,D2,e2,D3,e3,fun _=>⟨h1,h2,h3⟩⟩
 .exact ⟨⟨false,[]⟩,0,⟨false,[]⟩,0,⟨false,[]⟩,0,fun hc=>absurd hc h⟩
set_option maxRecDepth 4000
end Go.Proofs.YtmmhnfghklppiaaGreat.Vm
