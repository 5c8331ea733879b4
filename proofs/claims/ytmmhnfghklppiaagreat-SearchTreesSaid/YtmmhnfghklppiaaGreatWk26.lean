/- with, further and Decide: the program's, walked. What Count, Hull and Decide say of the solutions. Plain Lean. -/
import Derived.Test.YtmmhnfghklppiaaGreatWk25
namespace Go.Proofs.YtmmhnfghklppiaaGreat.Vm
open Go
set_option linter.unusedSimpArgs false
set_option linter.unusedVariables false
set_option maxHeartbeats 4000000
set_option maxRecDepth 4000
theorem zka {r:Option Eff} {H:Heap} {x:AV} {k:AV->Heap->Prop} {u} (h:∃ v H',r=some (.upd v H')/\keeps H H' x=true/\k v H'):wpE 0 (match (generalizing:=false) r with
  | some (.upd v H2)=>if keeps H H2 x=true then some (.upd v H2) else none
  | _=>none) H k u:=by
 obtain ⟨v,H',rfl,h2,h3⟩:=h;simp only [h2,if_true,J6];exact h3
theorem ziT {n f:Nat} {H:Heap} {args:List AV} {P:AV->Heap->Prop} (hs:G.shared f=true) (h:∃ v H',Vm.call G (n+1) (.fn f) args H=some (v,H')/\P v H'):∃ v H',zH (zu G (n+1)) H (.pure (.func f [])) args=some (.upd v H')/\P v H':=by
 obtain ⟨v,H',h1,h2⟩:=h
 refine ⟨v,H',?_,h2⟩
 have oC:(zu G (n+1)).shared f=true:=hs;have tO:(zu G (n+1)).run f args H=some (v,H'):=h1;simp only [zH,List.map_nil,List.append_nil,oC,if_true,tO]
structure nG (p:Problem) (i:Nat) (b:Box):Prop where
 all:∀ pts,iG p pts->bO pts[i]! b
 x0:∃ pts,iG p pts/\pts[i]!.x=b.x.lo
 x1:∃ pts,iG p pts/\pts[i]!.x=b.x.hi
 y0:∃ pts,iG p pts/\pts[i]!.y=b.y.lo
 y1:∃ pts,iG p pts/\pts[i]!.y=b.y.hi
theorem nG.unique {p:Problem} {i:Nat} {b c:Box} (h:nG p i b) (h':nG p i c):b=c:=by
 have key:∀ {b c:Box},nG p i b->nG p i c->c.x.lo<=b.x.lo/\b.x.hi<=c.x.hi/\c.y.lo<=b.y.lo/\b.y.hi<=c.y.hi:=fun {b c} h h'=>by
  obtain ⟨p0,s0,e0⟩:=h.x0;obtain ⟨p1,s1,e1⟩:=h.x1;obtain ⟨p2,s2,e2⟩:=h.y0;obtain ⟨p3,s3,e3⟩:=h.y1;have a0:=h'.all _ s0;have a1:=h'.all _ s1;have a2:=h'.all _ s2;have a3:=h'.all _ s3;unfold bO at a0 a1 a2 a3;omega
 have k1:=key h h';have k2:=key h' h;obtain ⟨⟨b1,b2⟩,b3,b4⟩:=b;obtain ⟨⟨c1,c2⟩,c3,c4⟩:=c;simp only [Box.mk.injEq,Span.mk.injEq] at *;omega
theorem zjf {pt:Nat}:∀ (ss:List fE) (i:Nat) (s:fE),s∈ss->pt∈s.part->(∀ s'∈ss,pt∈s'.part->s'=s)->(jg pt ss i).1=Nk s (s.part.idxOf pt)
 | a::ss,i,s,hs,hp,hu=>by
  unfold jg
  by_cases h:pt∈a.part
  .rw [if_pos h,hu a List.mem_cons_self h]
  .rw [if_neg h];rcases List.mem_cons.1 hs with rfl|hs
   .exact absurd hp h
   .exact zjf ss (i+1) s hs hp fun s' h'=>hu s' (List.mem_cons_of_mem _ h')
theorem oN.FL {p:Problem} {D:aZ} {l:List Box} {gs:List (List Nat)} (h:oN p D l gs) (he:D.empty=false) {i:Nat} (hi:i < l.length):nG p i (jg i D.ag 0).1:=by
 obtain ⟨g,hg,yh⟩:=List.mem_flatten.1 ((h.div.all i).1 hi);have bG:=h.div.one g hg;have ho:=h.seen g hg;have hn:(jE p.facts.xs l g).n≠0:=fun e=>by
  have:D.empty=true:=by rw [h.empty,Q8,h.ag];exact ⟨_,List.mem_map.2 ⟨g,hg,rfl⟩,e⟩
  rw [this] at he;simp at he
 have hf:(jg i D.ag 0).1=Nk (jE p.facts.xs l g) (g.idxOf i):=by
  rw [zjf D.ag 0 (jE p.facts.xs l g) (by rw [h.ag];exact List.mem_map.2 ⟨g,hg,rfl⟩) (by rw [ho.same];exact yh) (fun s' oC bR=>?_),ho.same];rw [h.ag] at oC;obtain ⟨g',tX,rfl⟩:=List.mem_map.1 oC;rw [(h.seen g' tX).same] at bR;have:g'=g:=by
   have Bz:=(List.pairwise_flatten.1 h.div.nodup).2
   refine Classical.byContradiction fun bJ=>?_
   obtain ⟨a,ha,rfl⟩:=List.mem_iff_getElem.1 hg;obtain ⟨b,hb,rfl⟩:=List.mem_iff_getElem.1 tX;rcases Nat.lt_trichotomy a b with hl|hl|hl
   .exact List.pairwise_iff_getElem.1 Bz a b ha hb hl i yh i bR rfl
   .subst hl;exact bJ rfl
   .exact List.pairwise_iff_getElem.1 Bz b a hb ha hl i bR i yh rfl
  rw [this]
 rw [hf];have hk:=List.idxOf_lt_length_of_mem yh;have Fg:g[g.idxOf i]=i:=List.getElem_idxOf hk;generalize g.idxOf i=k at *;have hlen:=ho.len
 -- what stands at a side
 have side:∀ t,t < 4->∃ pts,iG p pts/\wE (jE p.facts.xs l g) (4*k+t) k=pts[i]! /\ ∀ mW,iG p mW->lY pts[i]! t<=lY mW[i]! t:=fun t ht=>by
  have hj:4*k+t < (jE p.facts.xs l g).ends.length:=by omega
  obtain ⟨c,hc,h1,h2⟩:=ho.ends hn _ hj;obtain ⟨pts,hs,JY⟩:=h.some he hg hc;have fJ:c.length=g.length:=by rw [<- JY];simp [pick]
  have BH:k < c.length:=by omega
  have hck:c[k]! = pts[i]! := by
   rw [getElem!_pos c k BH];have:c[k]=(pick pts g)[k]'(by simpa [pick] using hk):=by simp only [JY]
   rw [this];simp only [pick,List.getElem_map,Fg]
  refine ⟨pts,hs,?_,fun mW oC=>?_⟩
  .unfold wE;rw [getElem!_pos (jE p.facts.xs l g).ends (4*k+t) hj,h1];exact hck
  .have h3:=h2 _ (ziX h.div ((UM h.Fq _).1 oC) g hg);unfold lL at h3;rw [show (4*k+t) / 4=k by omega,show (4*k+t) % 4=t by omega,hck] at h3;have MQ:k < (pick mW g).length:=by simpa [pick] using hk
   rw [getElem!_pos (pick mW g) k MQ] at h3;simp only [pick,List.getElem_map,Fg] at h3;exact h3
 obtain ⟨p0,s0,e0,m0⟩:=side 0 (by omega);obtain ⟨p1,s1,e1,m1⟩:=side 1 (by omega);obtain ⟨p2,s2,e2,m2⟩:=side 2 (by omega);obtain ⟨p3,s3,e3,m3⟩:=side 3 (by omega);rw [Nat.add_zero] at e0;have hb:Nk (jE p.facts.xs l g) k=⟨⟨p0[i]!.x,p1[i]!.x⟩,⟨p2[i]!.y,p3[i]!.y⟩⟩:=by unfold Nk;rw [e0,e1,e2,e3]
 rw [hb]
 refine ⟨fun pts hs=>?_,⟨p0,s0,rfl⟩,⟨p1,s1,rfl⟩,⟨p2,s2,rfl⟩,⟨p3,s3,rfl⟩⟩
 have a0:=m0 pts hs;have a1:=m1 pts hs;have a2:=m2 pts hs;have a3:=m3 pts hs;have k0:∀ p:Pt,lY p 0=p.x:=fun p=>rfl;have k1:∀ p:Pt,lY p 1=-p.x:=fun p=>rfl;have k2:∀ p:Pt,lY p 2=p.y:=fun p=>rfl;have k3:∀ p:Pt,lY p 3=-p.y:=fun p=>rfl;rw [k0,k0] at a0;rw [k1,k1] at a1;rw [k2,k2] at a2;rw [k3,k3] at a3;unfold bO;simp only;omega
def rW (p:Problem) (f:Fact) (v:Int):Prop:=(∃ pts,iG p pts) /\
 ((v=2/\∀ pts,iG p pts->zJ f (pts.map bT)=false) \/
  (v=1/\∀ pts,iG p pts->zJ f (pts.map bT)=true) \/
  (v=3/\(∃ pts,iG p pts/\zJ f (pts.map bT)=true)/\∃ pts,iG p pts/\zJ f (pts.map bT)=false))
theorem rW.unique {p:Problem} {f:Fact} {v w:Int} (h:rW p f v) (h':rW p f w):v=w:=by
 obtain ⟨⟨pts,hp⟩,h⟩:=h;obtain ⟨_,h'⟩:=h';rcases h with ⟨rfl,a⟩|⟨rfl,a⟩|⟨rfl,⟨x,hx,fx⟩,y,hy,fy⟩<;>rcases h' with ⟨rfl,b⟩|⟨rfl,b⟩|⟨rfl,⟨x',Nl,fx'⟩,y',F4,fy'⟩
 .rfl
 .have:=a _ hp;rw [b _ hp] at this;simp at this
 .have:=a _ Nl;rw [fx'] at this;simp at this
 .have:=a _ hp;rw [b _ hp] at this;simp at this
 .rfl
 .have:=a _ F4;rw [fy'] at this;simp at this
 .have:=b _ hx;rw [fx] at this;simp at this
 .have:=b _ hy;rw [fy] at this;simp at this
 .rfl
theorem rW.more {p q:Problem} {f:Fact} {v w:Int} (hs:∀ pts,iG q pts->iG p pts) (h:rW p f v) (h':rW q f w):v=3\/v=w:=by
 obtain ⟨_,h⟩:=h;obtain ⟨⟨pts,hp⟩,h'⟩:=h';rcases h with ⟨rfl,a⟩|⟨rfl,a⟩|⟨rfl,_⟩
 .right;rcases h' with ⟨rfl,b⟩|⟨rfl,b⟩|⟨rfl,⟨x',Nl,fx'⟩,_⟩
  .rfl
  .have:=a _ (hs _ hp);rw [b _ hp] at this;simp at this
  .have:=a _ (hs _ Nl);rw [fx'] at this;simp at this
 .right;rcases h' with ⟨rfl,b⟩|⟨rfl,b⟩|⟨rfl,_,y',F4,fy'⟩
  .have:=a _ (hs _ hp);rw [b _ hp] at this;simp at this
  .rfl
  .have:=a _ (hs _ F4);rw [fy'] at this;simp at this
 .left;rfl
end Go.Proofs.YtmmhnfghklppiaaGreat.Vm
