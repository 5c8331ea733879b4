/- The tree of the guilty part is small where the problem is tractable. Plain Lean. Few points: sums and volumes; the tree of Prove is small. Plain Lean. search.guilty: the first part without a solution, walked. -/
import Derived.Test.YtmmhnfghklppiaaGreatUk25
import Derived.Test.YtmmhnfghklppiaaGreatUk32
import Derived.Test.YtmmhnfghklppiaaGreatUk31
import Derived.Test.YtmmhnfghklppiaaGreatUk26
import Derived.Test.YtmmhnfghklppiaaGreatUk17
namespace Go.Proofs.YtmmhnfghklppiaaGreat.Vm
open Go
set_option linter.unusedSimpArgs false
set_option linter.unusedVariables false
set_option maxHeartbeats 4000000
def wh (g:List Nat) (N:List Box) (pts:List Pt):List Box:=(List.range N.length).map fun j=>if j∈g then N[j]! else bf pts[j]!
theorem zoH (g:List Nat) (N:List Box) (pts:List Pt):(wh g N pts).length=N.length:=by simp [wh]
theorem WX {g:List Nat} {N:List Box} {pts:List Pt} {j:Nat} (h:j < N.length):(wh g N pts)[j]! = if j∈g then N[j]! else bf pts[j]! := by
 rw [getElem!_pos _ j (by rw [zoH];exact h)];simp [wh]
theorem zg0 {l:List Box} {i k j:Nat} (hi:i < l.length) (hj:j < l.length):(jP l i k)[j]! = if i=j then qw l[j]! k else l[j]! := by
 rw [CX hi,getElem!_pos _ j (by simpa using hj),List.getElem_set]
 split
 .rename_i e;subst e;rw [getElem!_pos l i hi]
 .rw [getElem!_pos l j hj]
structure uY (q:Problem) (g:List Nat) (pts:List Pt):Prop where
 y8:∀ j,j < q.boxes.xs.length->j ∉ g->bF pts[j]! q.boxes.xs[j]!
 len:pts.length=q.boxes.xs.length
 facts:∀ f∈q.facts.xs,f.a.toNat ∉ g->zD f (pts.map bf)=false
theorem znI {q:Problem} (ok:ak q) {gs:List (List Nat)} (hd:iI q.facts.xs q.boxes.xs.length gs) {g:List Nat} (hg:g∈gs) {N:List Box} (hw:Wf N) (hs:aR N q.boxes.xs) (bu:Stable jR (iC q.facts.xs g) N) {pts:List Pt} (hb:uY q g pts) :
  Wf (wh g N pts)/\aR (wh g N pts) q.boxes.xs/\Stable jR q.facts.xs (wh g N pts):=by
 have hl:=zoH g N pts
 refine ⟨fun b hbm=>?_,⟨by rw [hl];exact hs.1,fun i h1 h2=>?_⟩,fun i hi k hk f hf WY=>?_⟩
 .obtain ⟨j,hj,rfl⟩:=List.mem_iff_getElem.1 hbm;have o8:j < N.length:=by omega
  have e:=WX (g:=g) (pts:=pts) o8;rw [getElem!_pos _ j hj] at e;rw [e]
  split
  .rw [getElem!_pos N j o8];exact hw _ (List.getElem_mem o8)
  .exact ⟨Int.le_refl _,Int.le_refl _⟩
 .have o8:i < N.length:=by omega
  have e:=WX (g:=g) (pts:=pts) o8;rw [getElem!_pos _ i h1] at e;rw [e]
  split
  .rw [getElem!_pos N i o8];exact hs.2 i o8 h2
  .rename_i X9;have:=hb.y8 i h2 X9;rw [getElem!_pos q.boxes.xs i h2] at this;unfold bF at this;simp only [bf,fD,fC];omega
 .have hn:=hd.named f hf;have qy:i < N.length:=by omega
  by_cases Df:f.a.toNat∈g
  .have pI:=hd.within f hf g hg Df;have key:∀ j∈g,(jP (wh g N pts) i k)[j]! = (jP N i k)[j]! := fun j hj=>by
    have iX:j < N.length:=by rw [hs.1];exact (hd.one g hg).2 j hj
    rw [zg0 hi (by omega),zg0 qy iX,WX iX,if_pos hj]
   refine bu i qy k hk f (bK.2 ⟨hf,Df⟩) ?_
   unfold jR at WY ⊢;rw [<- WY];exact (LJ ⟨key _ pI.a,key _ pI.b,fun h2=>key _ (pI.c h2)⟩).symm
  .have key:∀ j:Int,0<=j/\j < q.boxes.xs.length->j.toNat ∉ g->(jP (wh g N pts) i k)[j.toNat]! = (pts.map bf)[j.toNat]! := fun j h1 hj=>by
    have iX:j.toNat < N.length:=by rw [hs.1];omega
    have QW:j.toNat < pts.length:=by rw [hb.len];omega
    rw [zg0 hi (by omega),WX iX,if_neg hj,getElem!_pos (pts.map bf) _ (by simpa using QW),List.getElem_map,getElem!_pos pts _ QW]
    split
    .exact zlC _ _
    .rfl
   have out:∀ j:Int,0<=j->rU f j=true->j.toNat ∉ g:=fun j h0 hj Ic=>Df (zjP ok hd hg Ic hf (by rw [show ((j.toNat:Nat):Int)=j by omega];exact hj));have na:rU f f.a=true:=by unfold rU;simp
   have nb:rU f f.b=true:=by unfold rU;simp
   have nc:f.kind=2->rU f f.c=true:=fun h=>by unfold rU;simp [h]
   have e:=LJ (f:=f) (l:=jP (wh g N pts) i k) (m:=pts.map bf) ⟨key _ hn.a Df,key _ hn.b (out _ hn.b.1 nb),fun h2=>key _ hn.c (out _ hn.c.1 (nc h2))⟩;unfold jR at WY;rw [e,hb.facts f hf Df] at WY;simp at WY
theorem zoJ {g:List Nat} {N:List Box} {pts:List Pt}:∀ {h:List Nat},(∀ i∈h,i∈g/\i < N.length)->ig (wh g N pts) h=ig N h
 | [],_=>rfl
 | i::h,hh=>by
  have h1:=hh i List.mem_cons_self;simp only [ig];rw [WX h1.2,if_pos h1.1,zoJ fun j hj=>hh j (List.mem_cons_of_mem _ hj)]
theorem zlx {a b:List Box} (hs:aR a b):∀ {g:List Nat},(∀ i∈g,i < a.length)->ig a g<=ig b g
 | [],_=>Nat.le_refl _
 | i::g,h=>by
  have hi:=h i List.mem_cons_self;have bV:i < b.length:=by rw [<- hs.1];exact hi
  have h1:=hs.2 i hi bV;simp only [ig];rw [getElem!_pos a i hi,getElem!_pos b i bV]
  refine Nat.mul_le_mul ?_ (zlx hs fun j hj=>h j (List.mem_cons_of_mem _ hj))
  unfold fD fC at h1;unfold wI;exact Nat.mul_le_mul (by omega) (by omega)
theorem zjh {b:Box} (h:ja b):oq b=(wI b:Int):=by
 unfold oq wI;unfold ja at h;rw [Int.natCast_mul,Int.toNat_of_nonneg (by omega),Int.toNat_of_nonneg (by omega)]
theorem zma {l:List Box} (hw:Wf l):∀ (g:List Nat) (n:Nat),(∀ i∈g,i < l.length)->1<=n->lV l n g<=65536->((n*ig l g:Nat):Int)=lV l n g
 | [],n,_,_,_=>by simp [lV,ig]
 | i::g,n,h,h1,hv=>by
  have hi:=h i List.mem_cons_self;have pI:=hw _ (List.getElem_mem hi);have ha:=zjh pI;have hp:=zgO pI;have e1:oq l[i]! = (wI l[i]! : Int):=by rw [getElem!_pos l i hi];exact ha
  have VR:1<=wI l[i]! := by rw [getElem!_pos l i hi];exact hp
  have hgt:∀ (g:List Nat) (x:Int),(∀ i∈g,i < l.length)->x=65537->lV l x g=65537:=by
   intro g
   induction g with
   | nil=>intro x _ hx;simp [lV,hx]
   | cons a g ih =>
    intro x hh hx;rw [lV]
    refine ih _ (fun j hj=>hh j (List.mem_cons_of_mem _ hj)) ?_
    have ha:=hh a List.mem_cons_self;have h2:=zgO (hw _ (List.getElem_mem ha));have h3:oq l[a]! = (wI l[a]:Int):=by rw [getElem!_pos l a ha];exact zjh (hw _ (List.getElem_mem ha))
    rw [h3,hx];omega
  have Q4:∀ j∈g,j < l.length:=fun j hj=>h j (List.mem_cons_of_mem _ hj);rw [lV] at hv ⊢;rw [e1] at hv ⊢
  by_cases hc:(n:Int)*(wI l[i]! : Int)<=65536
  .rw [show min ((n:Int)*(wI l[i]! : Int)) 65537=((n*wI l[i]! : Nat):Int) by rw [Int.natCast_mul];omega] at hv ⊢;rw [<- zma hw g (n*wI l[i]!) Q4 (Nat.mul_pos h1 VR) hv];simp only [ig];rw [Nat.mul_assoc]
  .rw [show min ((n:Int)*(wI l[i]! : Int)) 65537=65537 by omega,hgt g _ Q4 rfl] at hv;omega
theorem zqK {l:List Box} (hw:Wf l) {g:List Nat} (hg:∀ i∈g,i < l.length) (h1:1 < g.length) (hv:iM l g<=65536):ig l g<=65536:=by
 unfold iM at hv;rw [if_pos h1] at hv;have:=zma hw g 1 hg (Nat.le_refl _) (by simpa using hv);simp at this;omega
theorem zkz {p:Problem} (ok:ak p) {gs:List (List Nat)} (hd:iI p.facts.xs p.boxes.xs.length gs) {g:List Nat} (hg:g∈gs) (ry:GA p g):1 < g.length:=by
 refine Classical.byContradiction fun hc=>?_
 have bn:iC p.facts.xs g=[]:=by
  refine List.eq_nil_iff_forall_not_mem.2 fun f hf=>?_
  obtain ⟨Gz,Df⟩:=bK.1 hf;have hw:=hd.within f Gz g hg Df;have Db:=(vR f _).1 (ok.fact f Gz)
  match g,hc,hw with
  | [],_,hw=>simpa using hw.a
  | [x],_,hw =>
   have ha:=hw.a;have hb:=hw.b;simp only [List.mem_singleton] at ha hb;omega
  | x::y::r,hc,_=>simp at hc
 refine ry (p.boxes.xs.map fun b=>⟨b.x.lo,b.y.lo⟩) ⟨by simp,fun i h h'=>?_,fun f hf=>?_⟩
 .have:=xX ok _ (List.getElem_mem h');unfold ja at this;simp only [List.getElem_map];unfold bF;simp only;omega
 .rw [bn] at hf;simp at hf
theorem zqr {q:Problem} (ok:ak q) {gs:List (List Nat)} (hd:iI q.facts.xs q.boxes.xs.length gs) {g:List Nat} (hg:g∈gs) {r:Option (List Box)} (hr:bM jR (iC q.facts.xs g) q.boxes.xs r) {pts:List Pt} (hb:uY q g pts)
  (hv:∀ m,Wf m->aR m q.boxes.xs->Stable jR q.facts.xs m->ig m g<=65536):Gf r g<=65536:=by
 cases r with
 | none=>simp [Gf]
 | some N =>
  obtain ⟨h1,h2⟩:=hr;obtain ⟨w,s,st⟩:=znI ok hd hg h1.wf h1.sub h2 hb;have:=hv _ w s st;rw [zoJ fun i hi=>⟨hi,by rw [h1.sub.1];exact (hd.one g hg).2 i hi⟩] at this;exact this
theorem zpR {p q:Problem} (Ie:ak q) {gs:List (List Nat)} (hd:iI q.facts.xs q.boxes.xs.length gs) {g:List Nat} (hg:g∈gs) {pts:List Pt} (hs:fZ p pts) (hl:q.boxes.xs.length=p.boxes.xs.length)
  (xm:∀ j,j < q.boxes.xs.length->j ∉ g->q.boxes.xs[j]! = p.boxes.xs[j]!) (hf:∀ f∈q.facts.xs,f.a.toNat ∉ g->zD f (pts.map bf)=false):uY q g pts :=
 ⟨fun j hj Ic=>by
  rw [xm j hj Ic];have QW:j < pts.length:=by rw [hs.len];omega
  have:=hs.y8 j QW (by omega);rwa [getElem!_pos pts j QW,getElem!_pos p.boxes.xs j (by omega)],by rw [hs.len,hl],hf⟩
structure JL (p:Problem):Prop where
 nb:p.boxes.xs.length<=5
 nf:p.facts.xs.length<=16
 side:∀ b∈p.boxes.xs,b.x.hi - b.x.lo<=60/\b.y.hi - b.y.lo<=60
theorem zwj {p:Problem} (ok:ak p) (h:pX p=true):JL p:=by
 unfold pX at h;simp only [Bool.and_eq_true,decide_eq_true_eq,List.all_eq_true,Bool.not_eq_true'] at h
 refine ⟨h.1.1,h.1.2,fun b hb=>?_⟩
 have h1:=h.2 b hb;unfold OC at h1;rw [ok.valid b hb] at h1;simp only [Bool.true_and,Bool.or_eq_false_iff,decide_eq_false_iff_not] at h1;omega
theorem JL.mu {l:List Box} (hn:l.length<=5) (hs:∀ b∈l,b.x.hi - b.x.lo<=60/\b.y.hi - b.y.lo<=60):iU l<=600:=by
 have h:∀ (l:List Box),(∀ b∈l,b.x.hi - b.x.lo<=60/\b.y.hi - b.y.lo<=60)->iU l<=120*l.length:=by
  intro l
  induction l with
  | nil=>intro _;simp [iU]
  | cons a l ih =>
   intro hh;have h1:=ih fun b hb=>hh b (List.mem_cons_of_mem _ hb);have h2:=hh a List.mem_cons_self;unfold iU at *;simp only [List.map_cons,List.sum_cons,List.length_cons];have:F9 a<=120:=by unfold F9;omega
   omega
 have:=h l hs;omega
theorem zoT {l:List Box} (hs:∀ b∈l,b.x.hi - b.x.lo<=60/\b.y.hi - b.y.lo<=60):∀ {g:List Nat},(∀ i∈g,i < l.length)->ig l g<=3721 ^ g.length
 | [],_=>Nat.le_refl _
 | i::g,h=>by
  have hi:=h i List.mem_cons_self;have h1:=zoT hs (g:=g) fun j hj=>h j (List.mem_cons_of_mem _ hj);have h2:=hs _ (List.getElem_mem hi);simp only [ig,List.length_cons];rw [getElem!_pos l i hi,Nat.pow_succ,Nat.mul_comm]
  refine Nat.mul_le_mul h1 ?_
  unfold wI;have a1:(l[i].x.hi - l[i].x.lo+1).toNat<=61:=by omega
  have a2:(l[i].y.hi - l[i].y.lo+1).toNat<=61:=by omega
  show _<=61*61;exact Nat.mul_le_mul a1 a2
theorem zqc {g:List Nat} {n:Nat} (hn:g.Nodup) (hl:∀ i∈g,i < n):g.length<=n:=by
 have:=YK g (List.range n) hn fun x hx=>List.mem_range.2 (hl x hx);rwa [List.length_range] at this
theorem JL.QO {l:List Box} (hn:l.length<=5) (hs:∀ b∈l,b.x.hi - b.x.lo<=60/\b.y.hi - b.y.lo<=60) {g:List Nat} (hg:g.Nodup) (hl:∀ i∈g,i < l.length):ig l g<=1000000000000000000:=by
 have h1:=zoT hs hl;have h2:=zqc hg hl;have h3:3721 ^ g.length<=3721 ^ 5:=Nat.pow_le_pow_right (by decide) (by omega);have h4:3721 ^ 5<=1000000000000000000:=by decide
 omega
theorem zlz {l:List Box} (hw:Wf l):∀ {g:List Nat},(∀ i∈g,i < l.length)->(nG l g).length=ig l g
 | [],_=>rfl
 | i::g,h=>by
  have hi:=h i List.mem_cons_self;rw [zhn,zlz hw fun j hj=>h j (List.mem_cons_of_mem _ hj)];simp only [ig];have:=zfj (hw _ (List.getElem_mem hi));have h2:=zjh (hw _ (List.getElem_mem hi));rw [getElem!_pos l i hi]
  congr 1
  omega
theorem zri {fs:List Fact} {l m:List Box} (hw:Wf l) (hs:aR l m) {g:List Nat} (hl:∀ i∈g,i < l.length):(jd fs l g).length<=ig m g:=by
 have h1:=zlI (uj fs g) l g 0 l;have h2:=zlz hw hl;have h3:=zlx hs hl;unfold jd;omega
theorem zsi {p:Problem} (ok:ak p) {D:aN} (h:fV p D 0) {m:Nat->Nat} (hm:bH (mM p.facts.xs) p.boxes.xs.length m) {g:List Nat} (hg:g∈zK m p.boxes.xs.length) (h1:1 < g.length) :
  ∀ x,Wf x->aR x p.boxes.xs->Stable jR p.facts.xs x->ig x g<=65536:=fun x hw hs bu=>by
 have aK:∀ i∈g,i < p.boxes.xs.length:=((Ho hm (FH ok)).one g hg).2;rcases h with ⟨hr,_,_⟩|⟨l,m',hr,EO,h⟩
 .exact absurd bu (hr x hw hs)
 .have e2:=zeS (hm.unique EO);rcases h with ⟨_,_,h⟩|⟨hv,_,_⟩
  .omega
  .rw [<- e2] at hv;have hlen:l.length=p.boxes.xs.length:=hr.1.sub.1;have hvp:iM l g<=65536:=Int.le_trans (Za hg) hv;have h2:=zqK hr.1.wf (fun i hi=>by rw [hlen];exact aK i hi) h1 hvp;have h3:=zlx (hr.1.all x hw hs bu) (g:=g) fun i hi=>by rw [hs.1];exact aK i hi
   omega
def ZA (q:Problem) (t:List Node):Prop:=GD q.facts.xs q.boxes.xs t=true/\t.length<=262144
theorem znQ {q:Problem} (ok:ak q) {gs:List (List Nat)} (hd:iI q.facts.xs q.boxes.xs.length gs) {g:List Nat} (hg:g∈gs) (ry:GA q g) {pts:List Pt} (hb:uY q g pts)
  (hv:∀ m,Wf m->aR m q.boxes.xs->Stable jR q.facts.xs m->ig m g<=65536) {m:Nat} (J9:iU q.boxes.xs<=600) (hm:iU q.boxes.xs < m):ZA q (xk q g m q.boxes.xs):=by
 obtain ⟨r,hr⟩:=Yr (zlJ ok g) (xX ok);have pM:=zkz ok hd hg ry;have bC:g≠[]:=fun e=>by rw [e] at pM;simp at pM
 obtain ⟨h1,h2⟩:=zp7 ok hd hg bC ry hr hm;have h3:=zqr ok hd hg hr hb hv;exact ⟨zqN h1,by omega⟩
theorem znC {q:Problem} (ok:ak q) {m:Nat->Nat} (hm:bH (mM q.facts.xs) q.boxes.xs.length m) (ry:¬ ∃ pts,fZ q pts):∃ g∈zK m q.boxes.xs.length,GA q g:=by
 refine Classical.byContradiction fun hc=>ry (zsD ok (Ho hm (FH ok)) fun g hg h=>hc ⟨g,hg,h⟩)
set_option maxRecDepth 4000
structure jX (p:Problem) (gs:List (List Nat)) (k:Nat):Prop where
 ok:ak p
 cls:∃ m,bH (mM p.facts.xs) p.boxes.xs.length m/\gs=zK m p.boxes.xs.length
 lt:k < gs.length
 no:GA p gs[k]!
 first:∀ j,j < k->¬ GA p gs[j]!
 QO:∀ g∈gs,ig p.boxes.xs g<=1000000000000000000
theorem jX.pos {p:Problem} {gs:List (List Nat)} {k:Nat} (h:jX p gs k) {g:List Nat} (hg:g∈gs):0 < g.length:=by
 obtain ⟨m,hm,wJ⟩:=h.cls;rw [wJ] at hg;obtain ⟨x,hx,WZ,rfl⟩:=jh.1 hg;exact (ziF hm (FH h.ok) (zh5 h.ok) hx WZ).2.1
theorem zm2 (s:fB):(s.pv).cold=true:=by
 have uP:∀ o:Option (List Pt),(iN o).iR 11=true:=fun o=>by
  cases o with
  | none=>rfl
  | some c=>simp [iN,Sl.pv,PV.iR,Pt.cells]
 have h2:∀ (m:Nat) (B:List PV),(∀ x∈B,x.iR 10=true)->(chunks 4 m B).all (fun e=>e.all (PV.iR 10))=true:=by
  intro m
  induction m with
  | zero=>intro B _;rfl
  | succ m ih =>
   intro B hB;simp only [chunks,List.all_cons,Bool.and_eq_true]
   refine ⟨List.all_eq_true.2 fun x hx=>hB x (List.mem_of_mem_take hx),ih _ fun x hx=>hB x (List.mem_of_mem_drop hx)⟩
 have h3:∀ x∈s.ends.map iN,x.iR 10=true:=fun x hx=>by
  obtain ⟨o,_,rfl⟩:=List.mem_map.1 hx
  cases o with
  | none=>rfl
  | some c=>simp [iN,Sl.pv,PV.iR,Pt.cells]
 have h4:=h2 s.part.length _ h3;unfold fB.pv fB.cells PV.cold;simp only [PV.iR,List.all_cons,List.all_nil,Bool.not_false,Bool.true_and,Bool.and_true,Bool.and_eq_true,Bool.or_eq_true]
 refine ⟨?_,?_,uP _⟩
 .simp [lD,PV.iR]
 .exact .inr h4
theorem zq8 (p:Problem) (r:Option (List Box)):(PV.aQ [FD p r,.bool r.isSome]).cold=true:=by
 have h:(FD p r).iR 11=true:=by
  cases r with
  | none=>rfl
  | some l =>
   unfold FD;simp only
   split
   .rfl
   .simp [Sl.pv,PV.iR,Box.cells,Span.cells]
 unfold PV.cold PV.iR;simp only [List.all_cons,List.all_nil,h,Bool.and_true,Bool.true_and];rfl
theorem zqq {fs:List Fact} {g:List Nat} {a:Nat} (h:a < fs.length):iC (fs.take (a+1)) g=if g.contains fs[a].a.toNat then iC (fs.take a) g++[fs[a]] else iC (fs.take a) g:=by
 unfold iC;rw [<- DY h,List.filter_append];simp only [List.filter_cons,List.filter_nil]
 split<;>simp
theorem zfK {g:List Nat} {a:Int} (h:0<=a):decide (a∈zL g)=g.contains a.toNat:=by
 rw [Bool.eq_iff_iff];simp only [decide_eq_true_eq,List.contains_eq_mem,zL,List.mem_map]
 constructor
 .rintro ⟨x,hx,rfl⟩;simpa using hx
 .intro hx;exact ⟨a.toNat,hx,by omega⟩
theorem zsk {H:Heap} {B V:AV} {bs:List Box} {fs:List Fact} (hB:bP Box.cells 4 H B bs) (hV:bP Fact.cells 9 H V fs):∃ q:Problem,q.boxes.xs=bs/\q.facts.xs=fs/\FrzK H true qP (fQ [B,V]) (.agg q.cells):=by
 obtain ⟨s1,h1,f1⟩:=VA (f:=Box.cells) (sz:=4) (n:=9) (fun _=>rfl) hB;obtain ⟨s2,h2,f2⟩:=VA (f:=Fact.cells) (sz:=9) (n:=9) (fun _=>rfl) hV;exact ⟨⟨s1,s2⟩,h1,h2,FrzK.fQ (n:=11) (.cons f1 (.cons f2 .nil))⟩
theorem sh72:G.shared 72=false:=by decide
theorem e72 (n:Nat) (p:Problem) (gs:List (List Nat)) (k:Nat) (h:jX p gs k):zF G (n+52) 72 [.agg p.cells]=some (lD gs[k]!):=by
 refine zy (zx _) rfl g72 rfl ?_
 obtain ⟨m,hm,wJ⟩:=h.cls;have ok:=h.ok;have nb:=ok.nb;have nf:=ok.nf;have hd:=Ho hm (FH ok);have rG:=HY m p.boxes.xs.length;have hp:=fun H=>zf (G:=G) (n:=n+51) (H:=H) (caps:=[]) (ps:=[.agg p.cells]) sh95 (e95 (n+49) p ok m hm);rw [<- wJ] at hd rG hp;rw [YS] at hp;have aK:=h.lt;have Hu:(k:Int) < gs.length:=by omega
 have hH:=Hide.mk h;have QT:=Hide.mk hd;have M8:=Hide.mk rG;clear h hm wJ hd;have TE:Hide (∀ f∈p.facts.xs,0<=f.a):=⟨fun f hf=>by have:=(vR f _).1 (ok.fact f hf);omega⟩
 obtain ⟨bs,fs⟩:=p;have ES:bs.xs.length < 1000:=by have:bs.xs.length<=12:=nb;omega
 have qd:fs.xs.length<=60:=nf;have ou:gs.length<=12:=by have h1:=rG.1;have h2:bs.xs.length<=12:=nb;omega
 simp only [Problem.cells,List.map] at hp;have NQ:Hide (∀ (g:List Nat) (x:Int),g.length<=12->0<=x->∀ H,zG (zt G (n+51)) H (.pure (.func 70 [])) [.pure ((Sl.mk false (zL g)).pv aF 1),.pure (.int .i64 x)]=some (.val (.pure (.bool (g.contains x.toNat))))):=⟨fun g x hg hx H=>by
  have:=zf (G:=G) (n:=n+51) (H:=H) (caps:=[]) (ps:=[(Sl.mk false (zL g)).pv aF 1,.int .i64 x]) sh70 (e70 (n+49) (Sl.mk false (zL g)) x (by rw [Sl.bL,z8];omega));rw [Sl.bL,zfK hx] at this;exact this⟩
 obtain ⟨s,hs⟩:∃ s,s=Sl.of gs:=⟨_,rfl⟩
 have qE:s.xs=gs:=by rw [hs,Sl.fP]
 rw [<- hs] at hp;clear hs rG nb nf ok;obtain ⟨gk,Q5⟩:∃ x,x=gs[k]! := ⟨_,rfl⟩
 rw [<- Q5,Kv gk];have W9:=Hide.mk Q5;clear Q5;have Ah:s.xs.length=gs.length:=by rw [qE]
 have Jk:=Hide.mk qE;clear qE;(repeat' first|simp [*,zb,c72,Problem.cells]|(apply za<;>intro _ h<;>try simp [-Nat.le_zero_eq] at h)|(show wpE 0 (zh ..) ..;refine zm ?_)|(refine ze fun v2 H2 aV aD ae af ai aj=>?_))
 refine zA [(2,2),(4,5),(7,9),(13,57)] (fun (i:Nat) env H=>env 13=.pure (.int .i64 i)/\i<=k) (fun i=>gs.length - i) 0 ?_ ?_ ?_ ?_
 .decide
 .exact ⟨by simp,by omega⟩
 .simp only [zz];omega
 rintro i env H ⟨g13,hi⟩;have w1:IntKind.i64.wrap ((i:Int)+1)=(i+1:Nat):=by rw [wrap64 (by omega) (by omega)];omega
 have xW:i < gs.length:=by omega
 have nk:i < s.xs.length:=by omega
 have hisI:(i:Int) < gs.length:=by omega
 obtain ⟨g,hg⟩:∃ g,s.xs[i]=g:=⟨_,rfl⟩
 have SV:gs[i]! = g:=by
  have e:=Jk.h;subst e;rw [getElem!_pos s.xs i nk];exact hg
 have OJ:g∈gs:=by rw [<- SV,getElem!_pos gs i xW];exact List.getElem_mem xW
 have JM:g.length<=12:=by have h1:=(M8.h.2 g OJ).1;have h2:=hH.h.ok.nb;omega
 have JN:=Hide.mk SV;have hgmH:=Hide.mk OJ;clear SV OJ;(repeat' first|simp [*,zb,qz]|(apply za<;>intro _ h<;>try simp [-Nat.le_zero_eq] at h)|(show wpE 0 (zh ..) ..;refine zm ?_)|(refine ze fun v2 H2 aV aD ae af ai aj=>?_))
 refine Gn ES ?_
 intro B H1 hB GN bU ah aS;have bn:=hB.one;have UR:=bn.1;have ho2:=bn.2;have FM:Hide (∀ id,Names B id->id < H1.nx):=⟨fun id h=>hB.names_lt h⟩
 have hBH:=Hide.mk hB;obtain ⟨o,ho⟩:∃ o,H1.nx=o:=⟨_,rfl⟩
 clear hB GN bn ah aS bU;(repeat' first|simp [*,zb]|(apply za<;>intro _ h<;>try simp [-Nat.le_zero_eq] at h)|(show wpE 0 (zh ..) ..;refine zm ?_)|(refine ze fun v2 H2 aV aD ae af ai aj=>?_))
 refine zA [(7,7),(24,38)] (fun (a:Nat) env H=>env 24=.pure (.int .i64 a)/\a<=fs.xs.length/\o < H.nx/\∃ V,H.get o=.cells true [B,V]/\Hide (bP Box.cells 4 H B bs.xs/\aC Fact.cells 9 H V (iC (fs.xs.take a) g)/\(∀ id,Names V id->o < id))) (fun a=>fs.xs.length - a) 0 ?_ ?_ ?_ ?_
 .decide
 .refine ⟨by simp,by omega,by simp;omega,.pure .nils,?_,⟨?_,by simpa [iC] using aC.nil,fun id ⟨_,_,_,h⟩=>by simp at h⟩⟩
  .rw [zn (by simp;omega)]
  .refine hBH.h.keep fun id ⟨n,hn⟩=>?_
   have:=FM.h id ⟨_,_,_,hn⟩;rw [zg (by omega)];exact zi this
 .simp only [zz];omega
 rintro a env H ⟨g24,ha,bU,V,h1,hV⟩;have wL:=hV.h.2.1.1.one;have JA:=wL.1;have JB:=wL.2
 by_cases jT:a < fs.xs.length
 .have w2:IntKind.i64.wrap ((a:Int)+1)=(a+1:Nat):=by rw [wrap64 (by omega) (by omega)];omega
  have jM:(a:Int) < fs.xs.length:=by omega
  have bu:=zqq (g:=g) jT;have hlen:(iC (fs.xs.take a) g).length < 900:=by
   have:=List.length_filter_le (fun f:Fact=>g.contains f.a.toNat) (fs.xs.take a);rw [List.length_take] at this;unfold iC;omega
  have HZ:=NQ.h g fs.xs[a].a JM (TE.h _ (List.getElem_mem jT));obtain ⟨F,hF⟩:∃ F,fs.xs[a]=F:=⟨_,rfl⟩
  rw [hF] at bu HZ;obtain ⟨d1,d2,d3,da,db,dc,⟨d4,d5⟩,d6⟩:=F;simp only at HZ bu;have hneo:o≠H.nx:=by omega
  have hneo2:H.nx≠o:=by omega
  clear wL
  cases hq:g.contains da.toNat with
  | true =>
   rw [hq,if_pos rfl] at bu;rw [hq] at HZ;have xy:=Hide.mk bu;clear bu hq;(repeat' first|simp [*,zb,Fact.cells,Span.cells]|(apply za<;>intro _ h<;>try simp [-Nat.le_zero_eq] at h)|(show wpE 0 (zh ..) ..;refine zm ?_)|(refine ze fun v2 H2 aV aD ae af ai aj=>?_))
   refine Fp (f:=Fact.cells) (sz:=9) (l:=iC (fs.xs.take a) g) ((hV.h.2.1.mi _ _).alloc _) (fun _=>rfl) (by decide) (fun _=>rfl) (by unfold zu;omega) ⟨⟨d1,d2,d3,da,db,dc,⟨d4,d5⟩,d6⟩,by simp [Fact.cells,Span.cells],?_⟩
   intro V4 H4 j5 xz;have uR:∀ c,c < H.nx->¬ Names V c->H4.get c=H.get c:=fun c hc hn=>by rw [xz.get c (by rw [qp,lM,qp];omega) hn,zi (by rw [lM,qp];omega),zg (by omega),zi hc]
   have k1:H4.get o=.cells true [B,V]:=by rw [uR o bU (fun hn=>by have:=hV.h.2.2 o hn;omega)];exact h1
   have gn:o < H4.nx:=by have:=xz.nx;rw [qp,lM,qp] at this;omega
   have wM:Hide (bP Box.cells 4 H4 B bs.xs/\aC Fact.cells 9 H4 V4 (iC (fs.xs.take (a+1)) g)/\∀ id,Names V4 id->o < id):=⟨hV.h.1.keep fun id ⟨m,hm⟩=>by
    have h8:=FM.h id ⟨_,_,_,hm⟩;exact uR id (by omega) (fun h2=>by have:=hV.h.2.2 id h2;omega),by rw [xy.h];exact j5,fun id hn=>by have:=xz.new id hn;rw [qp,lM,qp] at this;omega⟩
   have o4:=j5.1.one;have Tq:=o4.1;have Tt:=o4.2;clear j5 xz o4 hV uR h1;(repeat' first|simp [*,zb]|(apply za<;>intro _ h<;>try simp [-Nat.le_zero_eq] at h)|(show wpE 0 (zh ..) ..;refine zm ?_)|(refine ze fun v2 H2 aV aD ae af ai aj=>?_))
   refine ⟨a+1,by omega,by omega,by omega,⟨wM.h.1.keep fun id ⟨m,hm⟩=>?_,wM.h.2.1.set (fun hn=>by have:=wM.h.2.2 o hn;omega) _,wM.h.2.2⟩⟩
   have h8:=FM.h id ⟨_,_,_,hm⟩;exact zg (by omega)
  | false =>
   rw [hq,if_neg (by simp)] at bu;rw [hq] at HZ;have xy:=Hide.mk bu;have Og:Hide (∀ o1 o2,bP Box.cells 4 ((H.alloc o1).set H.nx o2) B bs.xs):=⟨fun o1 o2=>hV.h.1.keep fun id ⟨m,hm⟩=>by
    have h8:=FM.h id ⟨_,_,_,hm⟩;rw [zg (by omega),zi (by omega)]⟩
   clear bu hq;(repeat' first|simp [*,zb,Fact.cells,Span.cells]|(apply za<;>intro _ h<;>try simp [-Nat.le_zero_eq] at h)|(show wpE 0 (zh ..) ..;refine zm ?_)|(refine ze fun v2 H2 aV aD ae af ai aj=>?_));exact ⟨a+1,by omega,by omega,by omega,by omega,⟨Og.h _ _,by rw [xy.h];exact hV.h.2.1.mi _ _,hV.h.2.2⟩⟩
 .have Gp:a=fs.xs.length:=by omega
  subst Gp;rw [List.take_length] at hV;obtain ⟨q,Dy,Tm,hqf⟩:=zsk hV.h.1 hV.h.2.1.1;have okp:=hH.h.ok;have Ie:ak q:=zto (p:=⟨bs,fs⟩) okp Dy Tm;have NN:=QT.h;have EC:=hgmH.h;obtain ⟨r,hr⟩:=Yr (Kz Ie) (xX Ie);have hn:zG (zt G (n+51)) H (.pure (.func 62 [])) [fQ [B,V]]=some (.val (.pure (.aQ [FD q r,.bool r.isSome]))):=KH sh62 (.cons hqf .nil) (e62 (n+44) q Ie r hr) (zq8 q r)
  cases r with
  | none =>
   have ry:GA ⟨bs,fs⟩ g:=zmH (p:=⟨bs,fs⟩) Dy Tm hr;have J4:i=k:=by
    refine Classical.byContradiction fun hc=>hH.h.first i (by omega) ?_
    rw [JN.h];exact ry
   have Hr:gk=g:=by rw [W9.h,<- J4];exact JN.h
   have rF:FD q none=.nils:=rfl;rw [rF] at hn;subst Hr;clear hV QT NN hH M8 Jk;simp [*,zb]
  | some l =>
   have xK:l.length=q.boxes.xs.length:=hr.1.sub.1;obtain ⟨L,hL,FL⟩:=zqJ xK;have IV:=NN.one g EC;have JO:Wf L.xs:=by rw [FL];exact hr.1.wf
   have Ah:aR L.xs q.boxes.xs:=by rw [FL];exact hr.1.sub
   have Bw:Ei q L g:=⟨Ie,Ah,JO,IV.1,fun x hx=>by rw [FL,xK,Dy];exact IV.2 x hx,hH.h.pos EC,JM,fun f hf TE=>by rw [Tm] at hf;exact NN.within f (bK.1 hf).1 g EC TE,fun _=>by
    have h1:=zri (fs:=q.facts.xs) JO Ah (g:=g) (fun x hx=>by rw [FL,xK,Dy];exact IV.2 x hx);have h2:=hH.h.QO g EC;rw [Dy] at h1;exact Nat.le_trans h1 h2⟩
   have hk:zG (zt G (n+51)) H (.pure (.func 97 [])) [fQ [B,V],.pure (L.pv Box.cells 4),.pure (lD g)]=some (.val (.pure (zW q.facts.xs L.xs g).pv)):=KH sh97 (.cons hqf (.cons (.pure _) (.cons (.pure _) .nil))) (e97 (n+1) q L g Bw) (zm2 _);have wJ:=zm1 (p:=⟨bs,fs⟩) okp NN EC Dy Tm hr;rw [hL] at hn;rw [FL] at hk;obtain ⟨D,hD⟩:∃ D,zW q.facts.xs l g=D:=⟨_,rfl⟩
   rw [hD] at hk wJ;have Gv:D.pv=.ptr false [lD D.part,.int .i64 D.n,.slice false 4 (chunks 4 D.part.length (D.ends.map iN)),iN D.first] 0:=rfl;rw [Gv] at hk;obtain ⟨nn,Tn⟩:∃ nn:Int,nn=D.n:=⟨_,rfl⟩
   rw [<- Tn] at hk;simp only [Kv g] at hk;generalize lD D.part=pp at *;generalize chunks 4 D.part.length (D.ends.map iN)=cc at *;generalize iN D.first=oo at *
   by_cases hz:nn=0
   .have ry:GA ⟨bs,fs⟩ g:=wJ.1 (by omega);have J4:i=k:=by
     refine Classical.byContradiction fun hc=>hH.h.first i (by omega) ?_
     rw [JN.h];exact ry
    have Hr:gk=g:=by rw [W9.h,<- J4];exact JN.h
    subst Hr;subst hz;clear hV QT NN hH M8 Jk wJ Bw ry EC hD;simp [*,zb]
   .have ry:¬ GA ⟨bs,fs⟩ g:=fun h=>hz (by have:=wJ.2 h;omega);have J4:i≠k:=fun e=>ry (by have:=hH.h.no;rw [<- e,JN.h] at this;exact this);have hik2:i+1<=k:=by omega
    clear hV QT NN M8 Jk wJ Bw ry EC hD Tn Gv;(repeat' first|simp [*,zb]|(apply za<;>intro _ h<;>try simp [-Nat.le_zero_eq] at h)|(show wpE 0 (zh ..) ..;refine zm ?_)|(refine ze fun v2 H2 aV aD ae af ai aj=>?_));exact ⟨i+1,by omega,by omega,by omega⟩
end Go.Proofs.YtmmhnfghklppiaaGreat.Vm
