/- What Count, Hull and Decide say of the solutions. Plain Lean. The specification's bare, hold and about, walked. -/
import Derived.Test.YtmmhnfghklppiaaGreatUk25
import Derived.Test.YtmmhnfghklppiaaGreatUk31
import Derived.Test.YtmmhnfghklppiaaGreatUk27
namespace Go.Proofs.YtmmhnfghklppiaaGreat.Vm
open Go
set_option linter.unusedSimpArgs false
set_option linter.unusedVariables false
set_option maxHeartbeats 4000000
structure jU (p:Problem) (i:Nat) (b:Box):Prop where
 all:∀ pts,fZ p pts->bF pts[i]! b
 x0:∃ pts,fZ p pts/\pts[i]!.x=b.x.lo
 x1:∃ pts,fZ p pts/\pts[i]!.x=b.x.hi
 y0:∃ pts,fZ p pts/\pts[i]!.y=b.y.lo
 y1:∃ pts,fZ p pts/\pts[i]!.y=b.y.hi
theorem jU.unique {p:Problem} {i:Nat} {b c:Box} (h:jU p i b) (h':jU p i c):b=c:=by
 have key:∀ {b c:Box},jU p i b->jU p i c->c.x.lo<=b.x.lo/\b.x.hi<=c.x.hi/\c.y.lo<=b.y.lo/\b.y.hi<=c.y.hi:=fun {b c} h h'=>by
  obtain ⟨p0,s0,e0⟩:=h.x0;obtain ⟨p1,s1,e1⟩:=h.x1;obtain ⟨p2,s2,e2⟩:=h.y0;obtain ⟨p3,s3,e3⟩:=h.y1;have a0:=h'.all _ s0;have a1:=h'.all _ s1;have a2:=h'.all _ s2;have a3:=h'.all _ s3;unfold bF at a0 a1 a2 a3;omega
 have k1:=key h h';have k2:=key h' h;obtain ⟨⟨b1,b2⟩,b3,b4⟩:=b;obtain ⟨⟨c1,c2⟩,c3,c4⟩:=c;simp only [Box.mk.injEq,Span.mk.injEq] at *;omega
theorem zit {pt:Nat}:∀ (ss:List fB) (i:Nat) (s:fB),s∈ss->pt∈s.part->(∀ s'∈ss,pt∈s'.part->s'=s)->(zZ pt ss i).1=Ov s (s.part.idxOf pt)
 | a::ss,i,s,hs,hp,hu=>by
  unfold zZ
  by_cases h:pt∈a.part
  .rw [if_pos h,hu a List.mem_cons_self h]
  .rw [if_neg h];rcases List.mem_cons.1 hs with rfl|hs
   .exact absurd hp h
   .exact zit ss (i+1) s hs hp fun s' h'=>hu s' (List.mem_cons_of_mem _ h')
theorem lJ.Et {p:Problem} {D:aN} {l:List Box} {gs:List (List Nat)} (h:lJ p D l gs) (he:D.empty=false) {i:Nat} (hi:i < l.length):jU p i (zZ i D.aa 0).1:=by
 obtain ⟨g,hg,xW⟩:=List.mem_flatten.1 ((h.div.all i).1 hi);have bn:=h.div.one g hg;have ho:=h.seen g hg;have hn:(zW p.facts.xs l g).n≠0:=fun e=>by
  have:D.empty=true:=by rw [h.empty,iJ,h.aa];exact ⟨_,List.mem_map.2 ⟨g,hg,rfl⟩,e⟩
  rw [this] at he;simp at he
 have hf:(zZ i D.aa 0).1=Ov (zW p.facts.xs l g) (g.idxOf i):=by
  rw [zit D.aa 0 (zW p.facts.xs l g) (by rw [h.aa];exact List.mem_map.2 ⟨g,hg,rfl⟩) (by rw [ho.same];exact xW) (fun s' oH bV=>?_),ho.same];rw [h.aa] at oH;obtain ⟨g',tq,rfl⟩:=List.mem_map.1 oH;rw [(h.seen g' tq).same] at bV;have:g'=g:=by
   have tZ:=(List.pairwise_flatten.1 h.div.nodup).2
   refine Classical.byContradiction fun bC=>?_
   obtain ⟨a,ha,rfl⟩:=List.mem_iff_getElem.1 hg;obtain ⟨b,hb,rfl⟩:=List.mem_iff_getElem.1 tq;rcases Nat.lt_trichotomy a b with hl|hl|hl
   .exact List.pairwise_iff_getElem.1 tZ a b ha hb hl i xW i bV rfl
   .subst hl;exact bC rfl
   .exact List.pairwise_iff_getElem.1 tZ b a hb ha hl i bV i xW rfl
  rw [this]
 rw [hf];have hk:=List.idxOf_lt_length_of_mem xW;have Hr:g[g.idxOf i]=i:=List.getElem_idxOf hk;generalize g.idxOf i=k at *;have hlen:=ho.len
 -- what stands at a side
 have side:∀ t,t < 4->∃ pts,fZ p pts/\xh (zW p.facts.xs l g) (4*k+t) k=pts[i]! /\ ∀ mW,fZ p mW->lU pts[i]! t<=lU mW[i]! t:=fun t ht=>by
  have hj:4*k+t < (zW p.facts.xs l g).ends.length:=by omega
  obtain ⟨c,hc,h1,h2⟩:=ho.ends hn _ hj;obtain ⟨pts,hs,CW⟩:=h.some he hg hc;have bW:c.length=g.length:=by rw [<- CW];simp [pick]
  have AL:k < c.length:=by omega
  have OD:c[k]! = pts[i]! := by
   rw [getElem!_pos c k AL];have:c[k]=(pick pts g)[k]'(by simpa [pick] using hk):=by simp only [CW]
   rw [this];simp only [pick,List.getElem_map,Hr]
  refine ⟨pts,hs,?_,fun mW oH=>?_⟩
  .unfold xh;rw [getElem!_pos (zW p.facts.xs l g).ends (4*k+t) hj,h1];exact OD
  .have h3:=h2 _ (YO h.div ((QF h.BA _).1 oH) g hg);unfold lG at h3;rw [show (4*k+t) / 4=k by omega,show (4*k+t) % 4=t by omega,OD] at h3;have Jh:k < (pick mW g).length:=by simpa [pick] using hk
   rw [getElem!_pos (pick mW g) k Jh] at h3;simp only [pick,List.getElem_map,Hr] at h3;exact h3
 obtain ⟨p0,s0,e0,m0⟩:=side 0 (by omega);obtain ⟨p1,s1,e1,m1⟩:=side 1 (by omega);obtain ⟨p2,s2,e2,m2⟩:=side 2 (by omega);obtain ⟨p3,s3,e3,m3⟩:=side 3 (by omega);rw [Nat.add_zero] at e0;have hb:Ov (zW p.facts.xs l g) k=⟨⟨p0[i]!.x,p1[i]!.x⟩,⟨p2[i]!.y,p3[i]!.y⟩⟩:=by unfold Ov;rw [e0,e1,e2,e3]
 rw [hb]
 refine ⟨fun pts hs=>?_,⟨p0,s0,rfl⟩,⟨p1,s1,rfl⟩,⟨p2,s2,rfl⟩,⟨p3,s3,rfl⟩⟩
 have a0:=m0 pts hs;have a1:=m1 pts hs;have a2:=m2 pts hs;have a3:=m3 pts hs;have k0:∀ p:Pt,lU p 0=p.x:=fun p=>rfl;have k1:∀ p:Pt,lU p 1=-p.x:=fun p=>rfl;have k2:∀ p:Pt,lU p 2=p.y:=fun p=>rfl;have k3:∀ p:Pt,lU p 3=-p.y:=fun p=>rfl;rw [k0,k0] at a0;rw [k1,k1] at a1;rw [k2,k2] at a2;rw [k3,k3] at a3;unfold bF;simp only;omega
theorem zrW {p:Problem} {D:aN} {e:Int} (h:ik p D e) (h0:(rJ D e p.boxes.xs.length).2=0):jL p=0/\(∃ pts,fZ p pts)/\(rJ D e p.boxes.xs.length).1.length=p.boxes.xs.length/\∀ i,i < p.boxes.xs.length->jU p i (rJ D e p.boxes.xs.length).1[i]! := by
 unfold rJ at h0 ⊢
 split at h0
 .exact absurd h0 (by assumption)
 .rename_i he;have F3:e=0:=Classical.byContradiction fun hc=>he hc;subst F3
  split at h0
  .simp at h0
  .rename_i hD;have BH:D.empty=false:=by simpa using hD
   rw [if_neg (by simp),if_neg hD];rcases h with ⟨h1,_,h2⟩|⟨h1,hf⟩
   .exact absurd h2.symm h1
   .have ok:=bT.1 h1
    refine ⟨h1,?_,by simp,fun i hi=>?_⟩
    .have:=zjm ok hf;rw [BH] at this;exact Classical.byContradiction fun hc=>by simpa using this.2 hc
    .rw [getElem!_pos _ i (by simpa using hi)];simp only [List.getElem_map,List.getElem_range];rcases Zf ok hf with ⟨_,rfl,_⟩|⟨h2,_⟩|⟨_,l,gs,iZ⟩
     .simp at BH
     .omega
     .exact iZ.Et BH (by rw [iZ.BA.1.sub.1];exact hi)
def sV (p:Problem) (f:Fact) (v:Int):Prop:=(∃ pts,fZ p pts) /\
 ((v=2/\∀ pts,fZ p pts->zD f (pts.map bf)=false) \/
  (v=1/\∀ pts,fZ p pts->zD f (pts.map bf)=true) \/
  (v=3/\(∃ pts,fZ p pts/\zD f (pts.map bf)=true)/\∃ pts,fZ p pts/\zD f (pts.map bf)=false))
theorem sV.unique {p:Problem} {f:Fact} {v w:Int} (h:sV p f v) (h':sV p f w):v=w:=by
 obtain ⟨⟨pts,hp⟩,h⟩:=h;obtain ⟨_,h'⟩:=h';rcases h with ⟨rfl,a⟩|⟨rfl,a⟩|⟨rfl,⟨x,hx,fx⟩,y,hy,fy⟩<;>rcases h' with ⟨rfl,b⟩|⟨rfl,b⟩|⟨rfl,⟨x',Oz,fx'⟩,y',GZ,fy'⟩
 .rfl
 .have:=a _ hp;rw [b _ hp] at this;simp at this
 .have:=a _ Oz;rw [fx'] at this;simp at this
 .have:=a _ hp;rw [b _ hp] at this;simp at this
 .rfl
 .have:=a _ GZ;rw [fy'] at this;simp at this
 .have:=b _ hx;rw [fx] at this;simp at this
 .have:=b _ hy;rw [fy] at this;simp at this
 .rfl
theorem sV.more {p q:Problem} {f:Fact} {v w:Int} (hs:∀ pts,fZ q pts->fZ p pts) (h:sV p f v) (h':sV q f w):v=3\/v=w:=by
 obtain ⟨_,h⟩:=h;obtain ⟨⟨pts,hp⟩,h'⟩:=h';rcases h with ⟨rfl,a⟩|⟨rfl,a⟩|⟨rfl,_⟩
 .right;rcases h' with ⟨rfl,b⟩|⟨rfl,b⟩|⟨rfl,⟨x',Oz,fx'⟩,_⟩
  .rfl
  .have:=a _ (hs _ hp);rw [b _ hp] at this;simp at this
  .have:=a _ (hs _ Oz);rw [fx'] at this;simp at this
 .right;rcases h' with ⟨rfl,b⟩|⟨rfl,b⟩|⟨rfl,_,y',GZ,fy'⟩
  .have:=a _ (hs _ hp);rw [b _ hp] at this;simp at this
  .rfl
  .have:=a _ (hs _ GZ);rw [fy'] at this;simp at this
 .left;rfl
set_option maxRecDepth 4000
theorem zrN {d:Int} (h:-2097152<=d/\d<=2097152):0<=d*d/\d*d<=4398046511104:=by
 have:=SF (M:=2097152) (N:=2097152) h h
 refine ⟨?_,by omega⟩
 rcases Int.le_total 0 d with h0|h0
 .exact Int.mul_nonneg h0 h0
 .exact Int.mul_nonneg_of_nonpos_of_nonpos h0 h0
structure JG (f:Fact) (p q r:Pt) (pts:List Pt):Prop where
 hp:mO p
 hq:mO q
 hr:mO r
 a:f.kind=2->(0<=f.a/\∃ h:f.a.toNat < pts.length,pts[f.a.toNat]=p)/\(0<=f.c/\∃ h:f.c.toNat < pts.length,pts[f.c.toNat]=r)
theorem zvB:G.shared 111=false:=by decide
theorem e111 (n:Nat) (f:Fact) (p q r:Pt) (pts:Sl Pt) (h:JG f p q r pts.xs):zF G (n+1) 111 [.agg f.cells,.int .i64 (q.x - p.x),.int .i64 (q.y - p.y),pts.pv Pt.cells 2]=some (.bool (I9 f p q r)):=by
 refine zy (zx _) rfl g111 rfl ?_
 have hp:=h.hp;have hq:=h.hq;have hr:=h.hr;unfold mO at hp hq hr;obtain ⟨dx,Md⟩:∃ d,d=q.x - p.x:=⟨_,rfl⟩
 obtain ⟨dy,Tz⟩:∃ d,d=q.y - p.y:=⟨_,rfl⟩
 have bx:-2097152<=dx/\dx<=2097152:=by omega
 have by':-2097152<=dy/\dy<=2097152:=by omega
 have s1:=zrN bx;have s2:=zrN by';have w1:IntKind.i64.wrap (dx*dx)=dx*dx:=wrap64 (by omega) (by omega);have w2:IntKind.i64.wrap (dy*dy)=dy*dy:=wrap64 (by omega) (by omega);have w3:IntKind.i64.wrap (dx*dx+dy*dy)=dx*dx+dy*dy:=wrap64 (by omega) (by omega);have w4:IntKind.i64.wrap (0 - dx)=-dx:=by rw [wrap64 (by omega) (by omega)];omega
 have w5:IntKind.i64.wrap (0 - dy)=-dy:=by rw [wrap64 (by omega) (by omega)];omega
 have w6:IntKind.i64.wrap (-dx)=-dx:=wrap64 (by omega) (by omega);have w7:IntKind.i64.wrap (-dy)=-dy:=wrap64 (by omega) (by omega);have w8:IntKind.i64.wrap dx=dx:=wrap64 (by omega) (by omega);have w9:IntKind.i64.wrap dy=dy:=wrap64 (by omega) (by omega)
 by_cases nM:f.kind=2
 .obtain ⟨⟨a0,a1,a2⟩,c0,c1,c2⟩:=h.a nM;have KI:I9 f p q r=(decide (f.span.lo<=dx*(r.y - p.y) - dy*(r.x - p.x))&&decide (dx*(r.y - p.y) - dy*(r.x - p.x)<=f.span.hi)):=by
   unfold I9 oJ;rw [if_pos nM,<- Md,<- Tz]
  rw [KI,<- Md,<- Tz];have t1:=SF (M:=2097152) (N:=2097152) (a:=dx) (b:=r.y - p.y) bx (by omega);have t2:=SF (M:=2097152) (N:=2097152) (a:=dy) (b:=r.x - p.x) by' (by omega);have v1:IntKind.i64.wrap (r.y - p.y)=r.y - p.y:=wrap64 (by omega) (by omega);have v2:IntKind.i64.wrap (r.x - p.x)=r.x - p.x:=wrap64 (by omega) (by omega);have v3:IntKind.i64.wrap (dx*(r.y - p.y))=dx*(r.y - p.y):=wrap64 (by omega) (by omega);have v4:IntKind.i64.wrap (dy*(r.x - p.x))=dy*(r.x - p.x):=wrap64 (by omega) (by omega);have v5:IntKind.i64.wrap (dx*(r.y - p.y) - dy*(r.x - p.x))=dx*(r.y - p.y) - dy*(r.x - p.x):=wrap64 (by omega) (by omega);obtain ⟨A,hA⟩:=Int.eq_ofNat_of_zero_le a0;obtain ⟨C,hC⟩:=Int.eq_ofNat_of_zero_le c0;obtain ⟨f1,f2,f3,f4,f5,f6,⟨f7,f8⟩,f9⟩:=f;simp only at nM hA hC a1 a2 c1 c2;subst nM hA hC;simp only [Int.toNat_natCast] at a1 a2 c1 c2;have hAd:=pR (k:=.i64) (f:=Pt.cells) (sz:=2) (s:=pts) (n:=A) a1;have hCd:=pR (k:=.i64) (f:=Pt.cells) (sz:=2) (s:=pts) (n:=C) c1;rw [a2] at hAd;rw [c2] at hCd;simp only [Pt.cells] at hAd hCd;obtain ⟨E,hE⟩:∃ E,E=dx*(r.y - p.y) - dy*(r.x - p.x):=⟨_,rfl⟩
  have v6:IntKind.i64.wrap (dx*(r.y - p.y) - dy*(r.x - p.x))=E:=by rw [v5,hE]
  rw [<- hE];clear KI t1 t2 hp hq hr h s1 s2 bx by' a1 a2 c1 c2 a0 c0 Md Tz w4 w5 w6 w7 w8 w9 v5 hE;(repeat' first|simp [*,zb,c111,Fact.cells,Span.cells]|(apply za<;>intro _ h<;>try simp [-Nat.le_zero_eq] at h))
  all_goals (intros;omega)
 .have KI:I9 f p q r=YB f dx dy:=by unfold I9;rw [if_neg nM,<- Md,<- Tz]
  rw [KI,<- Md,<- Tz];obtain ⟨f1,f2,f3,f4,f5,f6,⟨f7,f8⟩,f9⟩:=f;unfold YB;obtain ⟨E,hE⟩:∃ E,E=dx*dx+dy*dy:=⟨_,rfl⟩
  have w3':IntKind.i64.wrap (dx*dx+dy*dy)=E:=by rw [w3,hE]
  rw [<- hE];clear w3 hE;clear KI hp hq hr h s1 s2 bx by' Md Tz;simp only at nM ⊢
  by_cases k3:f2=3
  .subst k3;unfold P5
   by_cases q1:f9=1
   .clear w3';(repeat' first|simp [*,zb,c111,Fact.cells,Span.cells]|(apply za<;>intro _ h<;>try simp [-Nat.le_zero_eq] at h))
   .by_cases q2:f9=2
    .clear w3';(repeat' first|simp [*,zb,c111,Fact.cells,Span.cells]|(apply za<;>intro _ h<;>try simp [-Nat.le_zero_eq] at h))
    .by_cases q3:f9=3
     .clear w3';(repeat' first|simp [*,zb,c111,Fact.cells,Span.cells]|(apply za<;>intro _ h<;>try simp [-Nat.le_zero_eq] at h))
     .clear w3';(repeat' first|simp [*,zb,c111,Fact.cells,Span.cells]|(apply za<;>intro _ h<;>try simp [-Nat.le_zero_eq] at h))
  .by_cases k4:f2=4
   ·(repeat' first|simp [*,zb,c111,Fact.cells,Span.cells]|(apply za<;>intro _ h<;>try simp [-Nat.le_zero_eq] at h))
    all_goals (intros;first|omega|(rw [Bool.eq_iff_iff];simp only [Bool.and_eq_true,decide_eq_true_eq];omega))
   .by_cases k5:f2=5
    ·(repeat' first|simp [*,zb,c111,Fact.cells,Span.cells]|(apply za<;>intro _ h<;>try simp [-Nat.le_zero_eq] at h))
     all_goals (intros;omega)
    .by_cases k6:f2=6
     ·(repeat' first|simp [*,zb,c111,Fact.cells,Span.cells]|(apply za<;>intro _ h<;>try simp [-Nat.le_zero_eq] at h))
      all_goals (intros;omega)
     ·(repeat' first|simp [*,zb,c111,Fact.cells,Span.cells]|(apply za<;>intro _ h<;>try simp [-Nat.le_zero_eq] at h))
      all_goals (intros;omega)
theorem ztb {f:Fact} {pts:List Pt} (h:rT f (pts.map bf)):∃ (A B:Nat) (hA:A < pts.length) (hB:B < pts.length) (r:Pt),f.a=A/\f.b=B/\JG f pts[A] pts[B] r pts/\zD f (pts.map bf)=(if f.nt=true then I9 f pts[A] pts[B] r else !I9 f pts[A] pts[B] r):=by
 obtain ⟨A,hA,ea,xa⟩:=sM h.a.1 h.a.2;obtain ⟨B,hB,eb,xb⟩:=sM h.b.1 h.b.2;have hA':A < pts.length:=by simpa using hA
 have MJ:B < pts.length:=by simpa using hB
 have hp:∀ k (hk:k < pts.length),mO pts[k]:=fun k hk=>by
  have:=aH.1 (h.v (bf pts[k]) (List.mem_map.2 ⟨_,List.getElem_mem hk,rfl⟩));simp only [bf] at this;unfold mO;omega
 rw [List.getElem_map] at xa xb
 by_cases hk:f.kind=2
 .obtain ⟨C,hC,ec,xc⟩:=sM (h.c hk).1 (h.c hk).2;have hC':C < pts.length:=by simpa using hC
  rw [List.getElem_map] at xc
  refine ⟨A,B,hA',MJ,pts[C],ea,eb,⟨hp _ _,hp _ _,hp _ _,fun _=>⟨⟨h.a.1,?_,?_⟩,(h.c hk).1,?_,?_⟩⟩,?_⟩
  .rw [ea];simpa using hA'
  .simp [ea]
  .rw [ec];simpa using hC'
  .simp [ec]
  .unfold zD;rw [zpa,xa,xb,xc,zlN]
 .refine ⟨A,B,hA',MJ,pts[A],ea,eb,⟨hp _ _,hp _ _,hp _ _,fun h=>absurd h hk⟩,?_⟩
  unfold zD;have ry:∀ c c':Box,SC f (bf pts[A]) (bf pts[B]) c=SC f (bf pts[A]) (bf pts[B]) c':=fun c c'=>by unfold SC;simp only [if_neg hk]
  rw [zpa,xa,xb,ry _ (bf pts[A]),zlN]
theorem e88 (n:Nat) (fs:Sl Fact) (pts:Sl Pt) (h:∀ f∈fs.xs,rT f (pts.xs.map bf)) (hl:fs.xs.length < 1000):zF G (n+2) 88 [fs.pv Fact.cells 9,pts.pv Pt.cells 2]=some (.bool (fs.xs.all fun f=>!zD f (pts.xs.map bf))):=by
 refine zy (zx _) rfl g88 rfl ?_
 obtain ⟨R,hR⟩:∃ R,R=fs.xs.all fun f=>!zD f (pts.xs.map bf):=⟨_,rfl⟩
 rw [<- hR];have Zj:=Hide.mk hR;have hh:=Hide.mk h;clear hR h;(repeat' first|simp [*,zb,c88]|(apply za<;>intro _ h<;>try simp [-Nat.le_zero_eq] at h))
 refine zA [(4,53)] (fun (i:Nat) env H=>env 5=.pure (.int .i64 i)/\i<=fs.xs.length/\Hide (∀ j (h:j < fs.xs.length),j < i->zD fs.xs[j] (pts.xs.map bf)=false)) (fun i=>fs.xs.length - i) 0 ?_ ?_ ?_ ?_
 .decide
 .exact ⟨by simp,by omega,⟨fun _ _ h=>by omega⟩⟩
 .simp only [zz];omega
 rintro i env H ⟨g0,hi,hn⟩
 by_cases aK:i < fs.xs.length
 .have w1:IntKind.i64.wrap ((i:Int)+1)=(i+1:Nat):=by rw [wrap64 (by omega) (by omega)];omega
  obtain ⟨A,B,hA,hB,r,ea,eb,iZ,hF⟩:=ztb (hh.h _ (List.getElem_mem aK));have hv:=fun H=>zf (G:=G) (n:=n+1) (H:=H) (caps:=[]) (ps:=[.agg fs.xs[i].cells,.int .i64 (pts.xs[B].x - pts.xs[A].x),.int .i64 (pts.xs[B].y - pts.xs[A].y),pts.pv Pt.cells 2]) zvB (e111 n fs.xs[i] pts.xs[A] pts.xs[B] r pts iZ);simp only [Fact.cells,List.map] at hv;have oA:=iZ.hp;have oB:=iZ.hq;unfold mO at oA oB;have w2:IntKind.i64.wrap (pts.xs[B].x - pts.xs[A].x)=pts.xs[B].x - pts.xs[A].x:=wrap64 (by omega) (by omega);have w3:IntKind.i64.wrap (pts.xs[B].y - pts.xs[A].y)=pts.xs[B].y - pts.xs[A].y:=wrap64 (by omega) (by omega);have hAI:(A:Int) < pts.xs.length:=by omega
  have hBI:(B:Int) < pts.xs.length:=by omega
  have bu:zD fs.xs[i] (pts.xs.map bf)=false->Hide (∀ j (h:j < fs.xs.length),j < i+1->zD fs.xs[j] (pts.xs.map bf)=false):=fun he=>⟨fun j hj Aw=>by
   rcases Nat.lt_or_ge j i with h1|h1
   .exact hn.h j hj h1
   .obtain rfl:j=i:=by omega
    exact he⟩
  have mD:zD fs.xs[i] (pts.xs.map bf)=true->R=false:=fun he=>by
   rw [Zj.h,List.all_eq_false];exact ⟨_,List.getElem_mem aK,by simp [he]⟩
  rw [hF] at bu mD;generalize I9 fs.xs[i] pts.xs[A] pts.xs[B] r=bv at *;clear hn iZ hF oA oB hh Zj;rw [ea,eb] at hv
  cases LH:fs.xs[i].nt<;>cases bv<;>simp only [LH] at hv
  .have mD:=mD (by simp [LH]);clear bu;subst mD;simp [*,zb,Fact.cells,Pt.cells]
  .have bu:=bu (by simp [LH]);clear mD;(repeat' first|simp [*,zb,Fact.cells,Pt.cells]|(apply za<;>intro _ h<;>try simp [-Nat.le_zero_eq] at h));exact ⟨i+1,by omega,by omega,by omega,bu⟩
  .have bu:=bu (by simp [LH]);clear mD;(repeat' first|simp [*,zb,Fact.cells,Pt.cells]|(apply za<;>intro _ h<;>try simp [-Nat.le_zero_eq] at h));exact ⟨i+1,by omega,by omega,by omega,bu⟩
  .have mD:=mD (by simp [LH]);clear bu;subst mD;simp [*,zb,Fact.cells,Pt.cells]
 .have aT:i=fs.xs.length:=by omega
  subst aT;have hRt:R=true:=by
   rw [Zj.h,List.all_eq_true];intro f hf;obtain ⟨j,hj,rfl⟩:=List.getElem_of_mem hf;rw [hn.h j hj hj];rfl
  clear hn hh Zj;subst hRt;simp [*,zb]
end Go.Proofs.YtmmhnfghklppiaaGreat.Vm
