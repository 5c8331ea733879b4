/- What Count, Hull and Decide say of the solutions. Plain Lean. The specification's bare, hold and about, walked. -/
import Derived.Test.YtmmhnfghklppiaaGreatPk26
import Derived.Test.YtmmhnfghklppiaaGreatPk32
import Derived.Test.YtmmhnfghklppiaaGreatPk28
namespace Go.Proofs.YtmmhnfghklppiaaGreat.Vm
open Go
set_option linter.unusedSimpArgs false
set_option linter.unusedVariables false
set_option maxHeartbeats 4000000
structure HullAt (p:Problem) (i:Nat) (b:Box):Prop where
 all:∀ pts,Solv p pts->inB' pts[i]! b
 x0:∃ pts,Solv p pts/\pts[i]!.x=b.x.lo
 x1:∃ pts,Solv p pts/\pts[i]!.x=b.x.hi
 y0:∃ pts,Solv p pts/\pts[i]!.y=b.y.lo
 y1:∃ pts,Solv p pts/\pts[i]!.y=b.y.hi
theorem HullAt.unique {p:Problem} {i:Nat} {b c:Box} (h:HullAt p i b) (h':HullAt p i c):b=c:=by
 have key:∀ {b c:Box},HullAt p i b->HullAt p i c->c.x.lo<=b.x.lo/\b.x.hi<=c.x.hi/\c.y.lo<=b.y.lo/\b.y.hi<=c.y.hi:=fun {b c} h h'=>by
  obtain ⟨p0,s0,e0⟩:=h.x0;obtain ⟨p1,s1,e1⟩:=h.x1;obtain ⟨p2,s2,e2⟩:=h.y0;obtain ⟨p3,s3,e3⟩:=h.y1;have a0:=h'.all _ s0;have a1:=h'.all _ s1;have a2:=h'.all _ s2;have a3:=h'.all _ s3;unfold inB' at a0 a1 a2 a3;omega
 have k1:=key h h';have k2:=key h' h;obtain ⟨⟨b1,b2⟩,b3,b4⟩:=b;obtain ⟨⟨c1,c2⟩,c3,c4⟩:=c;simp only [Box.mk.injEq,Span.mk.injEq] at *;omega
theorem ziu {pt:Nat}:∀ (ss:List SeenD) (i:Nat) (s:SeenD),s∈ss->pt∈s.part->(∀ s'∈ss,pt∈s'.part->s'=s)->(zlH pt ss i).1=zmM s (s.part.idxOf pt)
 | a::ss,i,s,hs,hp,hu=>by
  unfold zlH
  by_cases h:pt∈a.part
  ·rw [if_pos h,hu a List.mem_cons_self h]
  ·rw [if_neg h];rcases List.mem_cons.1 hs with rfl|hs
   ·exact absurd hp h
   ·exact ziu ss (i+1) s hs hp fun s' h'=>hu s' (List.mem_cons_of_mem _ h')
theorem FindIn.hull {p:Problem} {D:FoundD} {l:List Box} {gs:List (List Nat)} (h:FindIn p D l gs) (he:D.empty=false) {i:Nat} (hi:i < l.length):HullAt p i (zlH i D.seens 0).1:=by
 obtain ⟨g,hg,hig⟩:=List.mem_flatten.1 ((h.div.all i).1 hi);have hone:=h.div.one g hg;have ho:=h.seen g hg;have hn:(zah p.facts.xs l g).n≠0:=fun e=>by
  have:D.empty=true:=by rw [h.empty,emptyB_iff,h.seens];exact ⟨_,List.mem_map.2 ⟨g,hg,rfl⟩,e⟩
  rw [this] at he;simp at he
 have hf:(zlH i D.seens 0).1=zmM (zah p.facts.xs l g) (g.idxOf i):=by
  rw [ziu D.seens 0 (zah p.facts.xs l g) (by rw [h.seens];exact List.mem_map.2 ⟨g,hg,rfl⟩) (by rw [ho.same];exact hig) (fun s' hs' hi'=>?_),ho.same];rw [h.seens] at hs';obtain ⟨g',hg',rfl⟩:=List.mem_map.1 hs';rw [(h.seen g' hg').same] at hi';have:g'=g:=by
   have hnd:=(List.pairwise_flatten.1 h.div.nodup).2
   refine Classical.byContradiction fun hne=>?_
   obtain ⟨a,ha,rfl⟩:=List.mem_iff_getElem.1 hg;obtain ⟨b,hb,rfl⟩:=List.mem_iff_getElem.1 hg';rcases Nat.lt_trichotomy a b with hl|hl|hl
   ·exact List.pairwise_iff_getElem.1 hnd a b ha hb hl i hig i hi' rfl
   ·subst hl;exact hne rfl
   ·exact List.pairwise_iff_getElem.1 hnd b a hb ha hl i hi' i hig rfl
  rw [this]
 rw [hf];have hk:=List.idxOf_lt_length_of_mem hig;have hgk:g[g.idxOf i]=i:=List.getElem_idxOf hk;generalize g.idxOf i=k at *;have hlen:=ho.len
 -- what stands at a side
 have side:∀ t,t < 4->∃ pts,Solv p pts/\endP (zah p.facts.xs l g) (4*k+t) k=pts[i]! /\ ∀ pts',Solv p pts'->keyS pts[i]! t<=keyS pts'[i]! t:=fun t ht=>by
  have hj:4*k+t < (zah p.facts.xs l g).ends.length:=by omega
  obtain ⟨c,hc,h1,h2⟩:=ho.ends hn _ hj;obtain ⟨pts,hs,hpk⟩:=h.some he hg hc;have hcl:c.length=g.length:=by rw [<- hpk];simp [pick]
  have hkc:k < c.length:=by omega
  have hck:c[k]! = pts[i]! := by
   rw [getElem!_pos c k hkc];have:c[k]=(pick pts g)[k]'(by simpa [pick] using hk):=by simp only [hpk]
   rw [this];simp only [pick,List.getElem_map,hgk]
  refine ⟨pts,hs,?_,fun pts' hs'=>?_⟩
  ·unfold endP;rw [getElem!_pos (zah p.facts.xs l g).ends (4*k+t) hj,h1];exact hck
  ·have h3:=h2 _ (zii h.div ((zgf h.nar _).1 hs') g hg);unfold keyC at h3;rw [show (4*k+t) / 4=k by omega,show (4*k+t) % 4=t by omega,hck] at h3;have hkp:k < (pick pts' g).length:=by simpa [pick] using hk
   rw [getElem!_pos (pick pts' g) k hkp] at h3;simp only [pick,List.getElem_map,hgk] at h3;exact h3
 obtain ⟨p0,s0,e0,m0⟩:=side 0 (by omega);obtain ⟨p1,s1,e1,m1⟩:=side 1 (by omega);obtain ⟨p2,s2,e2,m2⟩:=side 2 (by omega);obtain ⟨p3,s3,e3,m3⟩:=side 3 (by omega);rw [Nat.add_zero] at e0;have hb:zmM (zah p.facts.xs l g) k=⟨⟨p0[i]!.x,p1[i]!.x⟩,⟨p2[i]!.y,p3[i]!.y⟩⟩:=by unfold zmM;rw [e0,e1,e2,e3]
 rw [hb]
 refine ⟨fun pts hs=>?_,⟨p0,s0,rfl⟩,⟨p1,s1,rfl⟩,⟨p2,s2,rfl⟩,⟨p3,s3,rfl⟩⟩
 have a0:=m0 pts hs;have a1:=m1 pts hs;have a2:=m2 pts hs;have a3:=m3 pts hs;have k0:∀ p:Pt,keyS p 0=p.x:=fun p=>rfl;have k1:∀ p:Pt,keyS p 1=-p.x:=fun p=>rfl;have k2:∀ p:Pt,keyS p 2=p.y:=fun p=>rfl;have k3:∀ p:Pt,keyS p 3=-p.y:=fun p=>rfl;rw [k0,k0] at a0;rw [k1,k1] at a1;rw [k2,k2] at a2;rw [k3,k3] at a3;unfold inB';simp only;omega
theorem znH (f:Fact):zcx f false=f:=by
 obtain ⟨_,_,nt,_⟩:=f;simp [zcx]
def DecSem (p:Problem) (f:Fact) (v:Int):Prop:=(∃ pts,Solv p pts) /\
 ((v=2/\∀ pts,Solv p pts->zJ f (pts.map atB)=false) \/
  (v=1/\∀ pts,Solv p pts->zJ f (pts.map atB)=true) \/
  (v=3/\(∃ pts,Solv p pts/\zJ f (pts.map atB)=true)/\∃ pts,Solv p pts/\zJ f (pts.map atB)=false))
theorem DecSem.unique {p:Problem} {f:Fact} {v w:Int} (h:DecSem p f v) (h':DecSem p f w):v=w:=by
 obtain ⟨⟨pts,hp⟩,h⟩:=h;obtain ⟨_,h'⟩:=h';rcases h with ⟨rfl,a⟩|⟨rfl,a⟩|⟨rfl,⟨x,hx,fx⟩,y,hy,fy⟩<;>rcases h' with ⟨rfl,b⟩|⟨rfl,b⟩|⟨rfl,⟨x',hx',fx'⟩,y',hy',fy'⟩
 ·rfl
 ·have:=a _ hp;rw [b _ hp] at this;simp at this
 ·have:=a _ hx';rw [fx'] at this;simp at this
 ·have:=a _ hp;rw [b _ hp] at this;simp at this
 ·rfl
 ·have:=a _ hy';rw [fy'] at this;simp at this
 ·have:=b _ hx;rw [fx] at this;simp at this
 ·have:=b _ hy;rw [fy] at this;simp at this
 ·rfl
theorem DecSem.more {p q:Problem} {f:Fact} {v w:Int} (hs:∀ pts,Solv q pts->Solv p pts) (h:DecSem p f v) (h':DecSem q f w):v=3\/v=w:=by
 obtain ⟨_,h⟩:=h;obtain ⟨⟨pts,hp⟩,h'⟩:=h';rcases h with ⟨rfl,a⟩|⟨rfl,a⟩|⟨rfl,_⟩
 ·right;rcases h' with ⟨rfl,b⟩|⟨rfl,b⟩|⟨rfl,⟨x',hx',fx'⟩,_⟩
  ·rfl
  ·have:=a _ (hs _ hp);rw [b _ hp] at this;simp at this
  ·have:=a _ (hs _ hx');rw [fx'] at this;simp at this
 ·right;rcases h' with ⟨rfl,b⟩|⟨rfl,b⟩|⟨rfl,_,y',hy',fy'⟩
  ·have:=a _ (hs _ hp);rw [b _ hp] at this;simp at this
  ·rfl
  ·have:=a _ (hs _ hy');rw [fy'] at this;simp at this
 ·left;rfl
theorem zpD (p:Problem) (f:Fact):∃ D1 e1 D2 e2 D3 e3,(zD p f=0->FindOut p D1 e1/\FindOut (zad p f false) D2 e2/\FindOut (zad p f true) D3 e3):=by
 by_cases h:zD p f=0
 ·obtain ⟨ok,ok2,_⟩:=zcb (t:=false) h;obtain ⟨_,ok3,_⟩:=zcb (t:=true) h;obtain ⟨D1,e1,h1⟩:=zhF ok;obtain ⟨D2,e2,h2⟩:=zhF ok2;obtain ⟨D3,e3,h3⟩:=zhF ok3;exact ⟨D1,e1,D2,e2,D3,e3,fun _=>⟨h1,h2,h3⟩⟩
 ·exact ⟨⟨false,[]⟩,0,⟨false,[]⟩,0,⟨false,[]⟩,0,fun hc=>absurd hc h⟩
set_option maxRecDepth 4000
theorem zq0 {d:Int} (h:-2097152<=d/\d<=2097152):0<=d*d/\d*d<=4398046511104:=by
 have:=zgU (M:=2097152) (N:=2097152) h h
 refine ⟨?_,by omega⟩
 rcases Int.le_total 0 d with h0|h0
 ·exact Int.mul_nonneg h0 h0
 ·exact Int.mul_nonneg_of_nonpos_of_nonpos h0 h0
structure BareIn (f:Fact) (p q r:Pt) (pts:List Pt):Prop where
 hp:okP p
 hq:okP q
 hr:okP r
 a:f.kind=2->(0<=f.a/\∃ h:f.a.toNat < pts.length,pts[f.a.toNat]=p)/\(0<=f.c/\∃ h:f.c.toNat < pts.length,pts[f.c.toNat]=r)
theorem zvZ:G.shared 111=false:=by decide
theorem e111 (n:Nat) (f:Fact) (p q r:Pt) (pts:Sl Pt) (h:BareIn f p q r pts.xs):zH G (n+1) 111 [.agg f.cells,.int .i64 (q.x - p.x),.int .i64 (q.y - p.y),pts.pv Pt.cells 2]=some (.bool (zfg f p q r)):=by
 refine zy (zx _) rfl g111 rfl ?_
 have hp:=h.hp;have hq:=h.hq;have hr:=h.hr;unfold okP at hp hq hr;obtain ⟨dx,hdx⟩:∃ d,d=q.x - p.x:=⟨_,rfl⟩
 obtain ⟨dy,hdy⟩:∃ d,d=q.y - p.y:=⟨_,rfl⟩
 have bx:-2097152<=dx/\dx<=2097152:=by omega
 have by':-2097152<=dy/\dy<=2097152:=by omega
 have s1:=zq0 bx;have s2:=zq0 by';have w1:IntKind.i64.wrap (dx*dx)=dx*dx:=wrap64 (by omega) (by omega);have w2:IntKind.i64.wrap (dy*dy)=dy*dy:=wrap64 (by omega) (by omega);have w3:IntKind.i64.wrap (dx*dx+dy*dy)=dx*dx+dy*dy:=wrap64 (by omega) (by omega);have w4:IntKind.i64.wrap (0 - dx)=-dx:=by rw [wrap64 (by omega) (by omega)];omega
 have w5:IntKind.i64.wrap (0 - dy)=-dy:=by rw [wrap64 (by omega) (by omega)];omega
 have w6:IntKind.i64.wrap (-dx)=-dx:=wrap64 (by omega) (by omega);have w7:IntKind.i64.wrap (-dy)=-dy:=wrap64 (by omega) (by omega);have w8:IntKind.i64.wrap dx=dx:=wrap64 (by omega) (by omega);have w9:IntKind.i64.wrap dy=dy:=wrap64 (by omega) (by omega)
 by_cases hk2:f.kind=2
 ·obtain ⟨⟨a0,a1,a2⟩,c0,c1,c2⟩:=h.a hk2;have hbv:zfg f p q r=(decide (f.span.lo<=dx*(r.y - p.y) - dy*(r.x - p.x))&&decide (dx*(r.y - p.y) - dy*(r.x - p.x)<=f.span.hi)):=by
   unfold zfg zaW;rw [if_pos hk2,<- hdx,<- hdy]
  rw [hbv,<- hdx,<- hdy];have t1:=zgU (M:=2097152) (N:=2097152) (a:=dx) (b:=r.y - p.y) bx (by omega);have t2:=zgU (M:=2097152) (N:=2097152) (a:=dy) (b:=r.x - p.x) by' (by omega);have v1:IntKind.i64.wrap (r.y - p.y)=r.y - p.y:=wrap64 (by omega) (by omega);have v2:IntKind.i64.wrap (r.x - p.x)=r.x - p.x:=wrap64 (by omega) (by omega);have v3:IntKind.i64.wrap (dx*(r.y - p.y))=dx*(r.y - p.y):=wrap64 (by omega) (by omega);have v4:IntKind.i64.wrap (dy*(r.x - p.x))=dy*(r.x - p.x):=wrap64 (by omega) (by omega);have v5:IntKind.i64.wrap (dx*(r.y - p.y) - dy*(r.x - p.x))=dx*(r.y - p.y) - dy*(r.x - p.x):=wrap64 (by omega) (by omega);obtain ⟨A,hA⟩:=Int.eq_ofNat_of_zero_le a0;obtain ⟨C,hC⟩:=Int.eq_ofNat_of_zero_le c0;obtain ⟨f1,f2,f3,f4,f5,f6,⟨f7,f8⟩,f9⟩:=f;simp only at hk2 hA hC a1 a2 c1 c2;subst hk2 hA hC;simp only [Int.toNat_natCast] at a1 a2 c1 c2;have hAd:=zax (k:=.i64) (f:=Pt.cells) (sz:=2) (s:=pts) (n:=A) a1;have hCd:=zax (k:=.i64) (f:=Pt.cells) (sz:=2) (s:=pts) (n:=C) c1;rw [a2] at hAd;rw [c2] at hCd;simp only [Pt.cells] at hAd hCd;obtain ⟨E,hE⟩:∃ E,E=dx*(r.y - p.y) - dy*(r.x - p.x):=⟨_,rfl⟩
  have v6:IntKind.i64.wrap (dx*(r.y - p.y) - dy*(r.x - p.x))=E:=by rw [v5,hE]
  rw [<- hE];clear hbv t1 t2 hp hq hr h s1 s2 bx by' a1 a2 c1 c2 a0 c0 hdx hdy w4 w5 w6 w7 w8 w9 v5 hE;(repeat' first|simp [*,za,c111,Fact.cells,Span.cells]|(apply zb<;>intro _ h<;>try simp [-Nat.le_zero_eq] at h))
  all_goals (intros;omega)
 ·have hbv:zfg f p q r=zo1 f dx dy:=by unfold zfg;rw [if_neg hk2,<- hdx,<- hdy]
  rw [hbv,<- hdx,<- hdy];obtain ⟨f1,f2,f3,f4,f5,f6,⟨f7,f8⟩,f9⟩:=f;unfold zo1;obtain ⟨E,hE⟩:∃ E,E=dx*dx+dy*dy:=⟨_,rfl⟩
  have w3':IntKind.i64.wrap (dx*dx+dy*dy)=E:=by rw [w3,hE]
  rw [<- hE];clear w3 hE;clear hbv hp hq hr h s1 s2 bx by' hdx hdy;simp only at hk2 ⊢
  by_cases k3:f2=3
  ·subst k3;unfold zfH
   by_cases q1:f9=1
   ·clear w3';(repeat' first|simp [*,za,c111,Fact.cells,Span.cells]|(apply zb<;>intro _ h<;>try simp [-Nat.le_zero_eq] at h))
   ·by_cases q2:f9=2
    ·clear w3';(repeat' first|simp [*,za,c111,Fact.cells,Span.cells]|(apply zb<;>intro _ h<;>try simp [-Nat.le_zero_eq] at h))
    ·by_cases q3:f9=3
     ·clear w3';(repeat' first|simp [*,za,c111,Fact.cells,Span.cells]|(apply zb<;>intro _ h<;>try simp [-Nat.le_zero_eq] at h))
     ·clear w3';(repeat' first|simp [*,za,c111,Fact.cells,Span.cells]|(apply zb<;>intro _ h<;>try simp [-Nat.le_zero_eq] at h))
  ·by_cases k4:f2=4
   ·(repeat' first|simp [*,za,c111,Fact.cells,Span.cells]|(apply zb<;>intro _ h<;>try simp [-Nat.le_zero_eq] at h))
    all_goals (intros;first|omega|(rw [Bool.eq_iff_iff];simp only [Bool.and_eq_true,decide_eq_true_eq];omega))
   ·by_cases k5:f2=5
    ·(repeat' first|simp [*,za,c111,Fact.cells,Span.cells]|(apply zb<;>intro _ h<;>try simp [-Nat.le_zero_eq] at h))
     all_goals (intros;omega)
    ·by_cases k6:f2=6
     ·(repeat' first|simp [*,za,c111,Fact.cells,Span.cells]|(apply zb<;>intro _ h<;>try simp [-Nat.le_zero_eq] at h))
      all_goals (intros;omega)
     ·(repeat' first|simp [*,za,c111,Fact.cells,Span.cells]|(apply zb<;>intro _ h<;>try simp [-Nat.le_zero_eq] at h))
      all_goals (intros;omega)
theorem zsm {f:Fact} {pts:List Pt} (h:ROk f (pts.map atB)):∃ (A B:Nat) (hA:A < pts.length) (hB:B < pts.length) (r:Pt),f.a=A/\f.b=B/\BareIn f pts[A] pts[B] r pts/\zJ f (pts.map atB)=(if f.nt=true then zfg f pts[A] pts[B] r else !zfg f pts[A] pts[B] r):=by
 obtain ⟨A,hA,ea,xa⟩:=getB h.a.1 h.a.2;obtain ⟨B,hB,eb,xb⟩:=getB h.b.1 h.b.2;have hA':A < pts.length:=by simpa using hA
 have hB':B < pts.length:=by simpa using hB
 have hp:∀ k (hk:k < pts.length),okP pts[k]:=fun k hk=>by
  have:=valid_iff.1 (h.v (atB pts[k]) (List.mem_map.2 ⟨_,List.getElem_mem hk,rfl⟩));simp only [atB] at this;unfold okP;omega
 rw [List.getElem_map] at xa xb
 by_cases hk:f.kind=2
 ·obtain ⟨C,hC,ec,xc⟩:=getB (h.c hk).1 (h.c hk).2;have hC':C < pts.length:=by simpa using hC
  rw [List.getElem_map] at xc
  refine ⟨A,B,hA',hB',pts[C],ea,eb,⟨hp _ _,hp _ _,hp _ _,fun _=>⟨⟨h.a.1,?_,?_⟩,(h.c hk).1,?_,?_⟩⟩,?_⟩
  ·rw [ea];simpa using hA'
  ·simp [ea]
  ·rw [ec];simpa using hC'
  ·simp [ec]
  ·unfold zJ;rw [zpc,xa,xb,xc,zmT]
 ·refine ⟨A,B,hA',hB',pts[A],ea,eb,⟨hp _ _,hp _ _,hp _ _,fun h=>absurd h hk⟩,?_⟩
  unfold zJ;have hno:∀ c c':Box,zj3 f (atB pts[A]) (atB pts[B]) c=zj3 f (atB pts[A]) (atB pts[B]) c':=fun c c'=>by unfold zj3;simp only [if_neg hk]
  rw [zpc,xa,xb,hno _ (atB pts[A]),zmT]
theorem e88 (n:Nat) (fs:Sl Fact) (pts:Sl Pt) (h:∀ f∈fs.xs,ROk f (pts.xs.map atB)) (hl:fs.xs.length < 1000):zH G (n+2) 88 [fs.pv Fact.cells 9,pts.pv Pt.cells 2]=some (.bool (fs.xs.all fun f=>!zJ f (pts.xs.map atB))):=by
 refine zy (zx _) rfl g88 rfl ?_
 obtain ⟨R,hR⟩:∃ R,R=fs.xs.all fun f=>!zJ f (pts.xs.map atB):=⟨_,rfl⟩
 rw [<- hR];have hRh:=Hide.mk hR;have hh:=Hide.mk h;clear hR h;(repeat' first|simp [*,za,c88]|(apply zb<;>intro _ h<;>try simp [-Nat.le_zero_eq] at h))
 refine zB [(4,53)] (fun (i:Nat) env H=>env 5=.pure (.int .i64 i)/\i<=fs.xs.length/\Hide (∀ j (h:j < fs.xs.length),j < i->zJ fs.xs[j] (pts.xs.map atB)=false)) (fun i=>fs.xs.length - i) 0 ?_ ?_ ?_ ?_
 ·decide
 ·exact ⟨by simp,by omega,⟨fun _ _ h=>by omega⟩⟩
 ·simp only [zz];omega
 rintro i env H ⟨g0,hi,hn⟩
 by_cases hlt:i < fs.xs.length
 ·have w1:IntKind.i64.wrap ((i:Int)+1)=(i+1:Nat):=by rw [wrap64 (by omega) (by omega)];omega
  obtain ⟨A,B,hA,hB,r,ea,eb,hin,hF⟩:=zsm (hh.h _ (List.getElem_mem hlt));have hv:=fun H=>zf (G:=G) (n:=n+1) (H:=H) (caps:=[]) (ps:=[.agg fs.xs[i].cells,.int .i64 (pts.xs[B].x - pts.xs[A].x),.int .i64 (pts.xs[B].y - pts.xs[A].y),pts.pv Pt.cells 2]) zvZ (e111 n fs.xs[i] pts.xs[A] pts.xs[B] r pts hin);simp only [Fact.cells,List.map_cons,List.map_nil] at hv;have oA:=hin.hp;have oB:=hin.hq;unfold okP at oA oB;have w2:IntKind.i64.wrap (pts.xs[B].x - pts.xs[A].x)=pts.xs[B].x - pts.xs[A].x:=wrap64 (by omega) (by omega);have w3:IntKind.i64.wrap (pts.xs[B].y - pts.xs[A].y)=pts.xs[B].y - pts.xs[A].y:=wrap64 (by omega) (by omega);have hAI:(A:Int) < pts.xs.length:=by omega
  have hBI:(B:Int) < pts.xs.length:=by omega
  have hst:zJ fs.xs[i] (pts.xs.map atB)=false->Hide (∀ j (h:j < fs.xs.length),j < i+1->zJ fs.xs[j] (pts.xs.map atB)=false):=fun he=>⟨fun j hj hji=>by
   rcases Nat.lt_or_ge j i with h1|h1
   ·exact hn.h j hj h1
   ·obtain rfl:j=i:=by omega
    exact he⟩
  have hbad:zJ fs.xs[i] (pts.xs.map atB)=true->R=false:=fun he=>by
   rw [hRh.h,List.all_eq_false];exact ⟨_,List.getElem_mem hlt,by simp [he]⟩
  rw [hF] at hst hbad;generalize zfg fs.xs[i] pts.xs[A] pts.xs[B] r=bv at *;clear hn hin hF oA oB hh hRh;rw [ea,eb] at hv
  cases hnt:fs.xs[i].nt<;>cases bv<;>simp only [hnt] at hv
  ·have hbad:=hbad (by simp [hnt]);clear hst;subst hbad;(repeat' first|simp [*,za,Fact.cells,Pt.cells]|(apply zb<;>intro _ h<;>try simp [-Nat.le_zero_eq] at h))
  ·have hst:=hst (by simp [hnt]);clear hbad;(repeat' first|simp [*,za,Fact.cells,Pt.cells]|(apply zb<;>intro _ h<;>try simp [-Nat.le_zero_eq] at h));exact ⟨i+1,by omega,by omega,by omega,hst⟩
  ·have hst:=hst (by simp [hnt]);clear hbad;(repeat' first|simp [*,za,Fact.cells,Pt.cells]|(apply zb<;>intro _ h<;>try simp [-Nat.le_zero_eq] at h));exact ⟨i+1,by omega,by omega,by omega,hst⟩
  ·have hbad:=hbad (by simp [hnt]);clear hst;subst hbad;(repeat' first|simp [*,za,Fact.cells,Pt.cells]|(apply zb<;>intro _ h<;>try simp [-Nat.le_zero_eq] at h))
 ·have hil:i=fs.xs.length:=by omega
  subst hil;have hRt:R=true:=by
   rw [hRh.h,List.all_eq_true];intro f hf;obtain ⟨j,hj,rfl⟩:=List.getElem_of_mem hf;rw [hn.h j hj hj];rfl
  clear hn hh hRh;subst hRt;(repeat' first|simp [*,za]|(apply zb<;>intro _ h<;>try simp [-Nat.le_zero_eq] at h))
end Go.Proofs.YtmmhnfghklppiaaGreat.Vm
