/- The tree of the guilty part is small where the problem is tractable. Plain Lean. Few points: sums and volumes; the tree of Prove is small. Plain Lean. search.guilty: the first part without a solution, walked. -/
import Derived.Test.YtmmhnfghklppiaaGreatVk25
import Derived.Test.YtmmhnfghklppiaaGreatVk32
import Derived.Test.YtmmhnfghklppiaaGreatVk31
import Derived.Test.YtmmhnfghklppiaaGreatVk26
import Derived.Test.YtmmhnfghklppiaaGreatVk17
namespace Go.Proofs.YtmmhnfghklppiaaGreat.Vm
open Go
set_option linter.unusedSimpArgs false
set_option linter.unusedVariables false
set_option maxHeartbeats 4000000
def sw (g:List Nat) (N:List Box) (pts:List Pt):List Box:=(List.range N.length).map fun j=>if j∈g then N[j]! else fT pts[j]!
theorem zoh (g:List Nat) (N:List Box) (pts:List Pt):(sw g N pts).length=N.length:=by simp [sw]
theorem Sv {g:List Nat} {N:List Box} {pts:List Pt} {j:Nat} (h:j < N.length):(sw g N pts)[j]! = if j∈g then N[j]! else fT pts[j]! := by
 rw [getElem!_pos _ j (by rw [zoh];exact h)];simp [sw]
theorem zgq {l:List Box} {i k j:Nat} (hi:i < l.length) (hj:j < l.length):(zV l i k)[j]! = if i=j then tJ l[j]! k else l[j]! := by
 rw [Aj hi,getElem!_pos _ j (by simpa using hj),List.getElem_set]
 split
 .rename_i e;subst e;rw [getElem!_pos l i hi]
 .rw [getElem!_pos l j hj]
structure rz (q:Problem) (g:List Nat) (pts:List Pt):Prop where
 CS:∀ j,j < q.boxes.xs.length->j ∉ g->fA pts[j]! q.boxes.xs[j]!
 len:pts.length=q.boxes.xs.length
 facts:∀ f∈q.facts.xs,f.a.toNat ∉ g->zJ f (pts.map fT)=false
theorem znl {q:Problem} (ok:af q) {gs:List (List Nat)} (hd:fP q.facts.xs q.boxes.xs.length gs) {g:List Nat} (hg:g∈gs) {N:List Box} (hw:Wf N) (hs:aL N q.boxes.xs) (fF:Stable lG (fI q.facts.xs g) N) {pts:List Pt} (hb:rz q g pts) :
  Wf (sw g N pts)/\aL (sw g N pts) q.boxes.xs/\Stable lG q.facts.xs (sw g N pts):=by
 have hl:=zoh g N pts
 refine ⟨fun b hbm=>?_,⟨by rw [hl];exact hs.1,fun i h1 h2=>?_⟩,fun i hi k hk f hf Sz=>?_⟩
 .obtain ⟨j,hj,rfl⟩:=List.mem_iff_getElem.1 hbm;have ng:j < N.length:=by omega
  have e:=Sv (g:=g) (pts:=pts) ng;rw [getElem!_pos _ j hj] at e;rw [e]
  split
  .rw [getElem!_pos N j ng];exact hw _ (List.getElem_mem ng)
  .exact ⟨Int.le_refl _,Int.le_refl _⟩
 .have ng:i < N.length:=by omega
  have e:=Sv (g:=g) (pts:=pts) ng;rw [getElem!_pos _ i h1] at e;rw [e]
  split
  .rw [getElem!_pos N i ng];exact hs.2 i ng h2
  .rename_i N9;have:=hb.CS i h2 N9;rw [getElem!_pos q.boxes.xs i h2] at this;unfold fA at this;simp only [fT,fG,fq];omega
 .have hn:=hd.named f hf;have wL:i < N.length:=by omega
  by_cases yl:f.a.toNat∈g
  .have oq:=hd.within f hf g hg yl;have key:∀ j∈g,(zV (sw g N pts) i k)[j]! = (zV N i k)[j]! := fun j hj=>by
    have jm:j < N.length:=by rw [hs.1];exact (hd.one g hg).2 j hj
    rw [zgq hi (by omega),zgq wL jm,Sv jm,if_pos hj]
   refine fF i wL k hk f (bn.2 ⟨hf,yl⟩) ?_
   unfold lG at Sz ⊢;rw [<- Sz];exact (JY ⟨key _ oq.a,key _ oq.b,fun h2=>key _ (oq.c h2)⟩).symm
  .have key:∀ j:Int,0<=j/\j < q.boxes.xs.length->j.toNat ∉ g->(zV (sw g N pts) i k)[j.toNat]! = (pts.map fT)[j.toNat]! := fun j h1 hj=>by
    have jm:j.toNat < N.length:=by rw [hs.1];omega
    have SA:j.toNat < pts.length:=by rw [hb.len];omega
    rw [zgq hi (by omega),Sv jm,if_neg hj,getElem!_pos (pts.map fT) _ (by simpa using SA),List.getElem_map,getElem!_pos pts _ SA]
    split
    .exact zlE _ _
    .rfl
   have out:∀ j:Int,0<=j->o8 f j=true->j.toNat ∉ g:=fun j h0 hj hjg=>yl (zi4 ok hd hg hjg hf (by rw [show ((j.toNat:Nat):Int)=j by omega];exact hj));have na:o8 f f.a=true:=by unfold o8;simp
   have nb:o8 f f.b=true:=by unfold o8;simp
   have nc:f.kind=2->o8 f f.c=true:=fun h=>by unfold o8;simp [h]
   have e:=JY (f:=f) (l:=zV (sw g N pts) i k) (m:=pts.map fT) ⟨key _ hn.a yl,key _ hn.b (out _ hn.b.1 nb),fun h2=>key _ hn.c (out _ hn.c.1 (nc h2))⟩;unfold lG at Sz;rw [e,hb.facts f hf yl] at Sz;simp at Sz
theorem znX {g:List Nat} {N:List Box} {pts:List Pt}:∀ {h:List Nat},(∀ i∈h,i∈g/\i < N.length)->fB (sw g N pts) h=fB N h
 | [],_=>rfl
 | i::h,hh=>by
  have h1:=hh i List.mem_cons_self;simp only [fB];rw [Sv h1.2,if_pos h1.1,znX fun j hj=>hh j (List.mem_cons_of_mem _ hj)]
theorem zjT {a b:List Box} (hs:aL a b):∀ {g:List Nat},(∀ i∈g,i < a.length)->fB a g<=fB b g
 | [],_=>Nat.le_refl _
 | i::g,h=>by
  have hi:=h i List.mem_cons_self;have bT:i < b.length:=by rw [<- hs.1];exact hi
  have h1:=hs.2 i hi bT;simp only [fB];rw [getElem!_pos a i hi,getElem!_pos b i bT]
  refine Nat.mul_le_mul ?_ (zjT hs fun j hj=>h j (List.mem_cons_of_mem _ hj))
  unfold fG fq at h1;unfold sN;exact Nat.mul_le_mul (by omega) (by omega)
theorem zhY {b:Box} (h:jq b):o9 b=(sN b:Int):=by
 unfold o9 sN;unfold jq at h;rw [Int.natCast_mul,Int.toNat_of_nonneg (by omega),Int.toNat_of_nonneg (by omega)]
theorem zlf {l:List Box} (hw:Wf l):∀ (g:List Nat) (n:Nat),(∀ i∈g,i < l.length)->1<=n->jM l n g<=65536->((n*fB l g:Nat):Int)=jM l n g
 | [],n,_,_,_=>by simp [jM,fB]
 | i::g,n,h,h1,hv=>by
  have hi:=h i List.mem_cons_self;have oq:=hw _ (List.getElem_mem hi);have ha:=zhY oq;have hp:=X5 oq;have e1:o9 l[i]! = (sN l[i]! : Int):=by rw [getElem!_pos l i hi];exact ha
  have Zr:1<=sN l[i]! := by rw [getElem!_pos l i hi];exact hp
  have hgt:∀ (g:List Nat) (x:Int),(∀ i∈g,i < l.length)->x=65537->jM l x g=65537:=by
   intro g
   induction g with
   | nil=>intro x _ hx;simp [jM,hx]
   | cons a g ih =>
    intro x hh hx;rw [jM]
    refine ih _ (fun j hj=>hh j (List.mem_cons_of_mem _ hj)) ?_
    have ha:=hh a List.mem_cons_self;have h2:=X5 (hw _ (List.getElem_mem ha));have h3:o9 l[a]! = (sN l[a]:Int):=by rw [getElem!_pos l a ha];exact zhY (hw _ (List.getElem_mem ha))
    rw [h3,hx];omega
  have Ni:∀ j∈g,j < l.length:=fun j hj=>h j (List.mem_cons_of_mem _ hj);rw [jM] at hv ⊢;rw [e1] at hv ⊢
  by_cases hc:(n:Int)*(sN l[i]! : Int)<=65536
  .rw [show min ((n:Int)*(sN l[i]! : Int)) 65537=((n*sN l[i]! : Nat):Int) by rw [Int.natCast_mul];omega] at hv ⊢;rw [<- zlf hw g (n*sN l[i]!) Ni (Nat.mul_pos h1 Zr) hv];simp only [fB];rw [Nat.mul_assoc]
  .rw [show min ((n:Int)*(sN l[i]! : Int)) 65537=65537 by omega,hgt g _ Ni rfl] at hv;omega
theorem zqU {l:List Box} (hw:Wf l) {g:List Nat} (hg:∀ i∈g,i < l.length) (h1:1 < g.length) (hv:nA l g<=65536):fB l g<=65536:=by
 unfold nA at hv;rw [if_pos h1] at hv;have:=zlf hw g 1 hg (Nat.le_refl _) (by simpa using hv);simp at this;omega
theorem zjx {p:Problem} (ok:af p) {gs:List (List Nat)} (hd:fP p.facts.xs p.boxes.xs.length gs) {g:List Nat} (hg:g∈gs) (oL:Dm p g):1 < g.length:=by
 refine Classical.byContradiction fun hc=>?_
 have bu:fI p.facts.xs g=[]:=by
  refine List.eq_nil_iff_forall_not_mem.2 fun f hf=>?_
  obtain ⟨KH,yl⟩:=bn.1 hf;have hw:=hd.within f KH g hg yl;have L8:=(Au f _).1 (ok.fact f KH)
  match g,hc,hw with
  | [],_,hw=>simpa using hw.a
  | [x],_,hw =>
   have ha:=hw.a;have hb:=hw.b;simp only [List.mem_singleton] at ha hb;omega
  | x::y::r,hc,_=>simp at hc
 refine oL (p.boxes.xs.map fun b=>⟨b.x.lo,b.y.lo⟩) ⟨by simp,fun i h h'=>?_,fun f hf=>?_⟩
 .have:=Fz ok _ (List.getElem_mem h');unfold jq at this;simp only [List.getElem_map];unfold fA;simp only;omega
 .rw [bu] at hf;simp at hf
theorem zpH {q:Problem} (ok:af q) {gs:List (List Nat)} (hd:fP q.facts.xs q.boxes.xs.length gs) {g:List Nat} (hg:g∈gs) {r:Option (List Box)} (hr:bN lG (fI q.facts.xs g) q.boxes.xs r) {pts:List Pt} (hb:rz q g pts)
  (hv:∀ m,Wf m->aL m q.boxes.xs->Stable lG q.facts.xs m->fB m g<=65536):CU r g<=65536:=by
 cases r with
 | none=>simp [CU]
 | some N =>
  obtain ⟨h1,h2⟩:=hr;obtain ⟨w,s,st⟩:=znl ok hd hg h1.wf h1.sub h2 hb;have:=hv _ w s st;rw [znX fun i hi=>⟨hi,by rw [h1.sub.1];exact (hd.one g hg).2 i hi⟩] at this;exact this
theorem zo7 {p q:Problem} (uJ:af q) {gs:List (List Nat)} (hd:fP q.facts.xs q.boxes.xs.length gs) {g:List Nat} (hg:g∈gs) {pts:List Pt} (hs:iQ p pts) (hl:q.boxes.xs.length=p.boxes.xs.length)
  (Dr:∀ j,j < q.boxes.xs.length->j ∉ g->q.boxes.xs[j]! = p.boxes.xs[j]!) (hf:∀ f∈q.facts.xs,f.a.toNat ∉ g->zJ f (pts.map fT)=false):rz q g pts :=
 ⟨fun j hj hjg=>by
  rw [Dr j hj hjg];have SA:j < pts.length:=by rw [hs.len];omega
  have:=hs.CS j SA (by omega);rwa [getElem!_pos pts j SA,getElem!_pos p.boxes.xs j (by omega)],by rw [hs.len,hl],hf⟩
structure Dw (p:Problem):Prop where
 nb:p.boxes.xs.length<=5
 nf:p.facts.xs.length<=16
 side:∀ b∈p.boxes.xs,b.x.hi - b.x.lo<=60/\b.y.hi - b.y.lo<=60
theorem zsL {p:Problem} (ok:af p) (h:pW p=true):Dw p:=by
 unfold pW at h;simp only [Bool.and_eq_true,decide_eq_true_eq,List.all_eq_true,Bool.not_eq_true'] at h
 refine ⟨h.1.1,h.1.2,fun b hb=>?_⟩
 have h1:=h.2 b hb;unfold KJ at h1;rw [ok.valid b hb] at h1;simp only [Bool.true_and,Bool.or_eq_false_iff,decide_eq_false_iff_not] at h1;omega
theorem Dw.mu {l:List Box} (hn:l.length<=5) (hs:∀ b∈l,b.x.hi - b.x.lo<=60/\b.y.hi - b.y.lo<=60):fU l<=600:=by
 have h:∀ (l:List Box),(∀ b∈l,b.x.hi - b.x.lo<=60/\b.y.hi - b.y.lo<=60)->fU l<=120*l.length:=by
  intro l
  induction l with
  | nil=>intro _;simp [fU]
  | cons a l ih =>
   intro hh;have h1:=ih fun b hb=>hh b (List.mem_cons_of_mem _ hb);have h2:=hh a List.mem_cons_self;unfold fU at *;simp only [List.map_cons,List.sum_cons,List.length_cons];have:CR a<=120:=by unfold CR;omega
   omega
 have:=h l hs;omega
theorem znQ {l:List Box} (hs:∀ b∈l,b.x.hi - b.x.lo<=60/\b.y.hi - b.y.lo<=60):∀ {g:List Nat},(∀ i∈g,i < l.length)->fB l g<=3721 ^ g.length
 | [],_=>Nat.le_refl _
 | i::g,h=>by
  have hi:=h i List.mem_cons_self;have h1:=znQ hs (g:=g) fun j hj=>h j (List.mem_cons_of_mem _ hj);have h2:=hs _ (List.getElem_mem hi);simp only [fB,List.length_cons];rw [getElem!_pos l i hi,Nat.pow_succ,Nat.mul_comm]
  refine Nat.mul_le_mul h1 ?_
  unfold sN;have a1:(l[i].x.hi - l[i].x.lo+1).toNat<=61:=by omega
  have a2:(l[i].y.hi - l[i].y.lo+1).toNat<=61:=by omega
  show _<=61*61;exact Nat.mul_le_mul a1 a2
theorem zpr {g:List Nat} {n:Nat} (hn:g.Nodup) (hl:∀ i∈g,i < n):g.length<=n:=by
 have:=UK g (List.range n) hn fun x hx=>List.mem_range.2 (hl x hx);rwa [List.length_range] at this
theorem Dw.vol {l:List Box} (hn:l.length<=5) (hs:∀ b∈l,b.x.hi - b.x.lo<=60/\b.y.hi - b.y.lo<=60) {g:List Nat} (hg:g.Nodup) (hl:∀ i∈g,i < l.length):fB l g<=1000000000000000000:=by
 have h1:=znQ hs hl;have h2:=zpr hg hl;have h3:3721 ^ g.length<=3721 ^ 5:=Nat.pow_le_pow_right (by decide) (by omega);have h4:3721 ^ 5<=1000000000000000000:=by decide
 omega
theorem zlz {l:List Box} (hw:Wf l):∀ {g:List Nat},(∀ i∈g,i < l.length)->(mi l g).length=fB l g
 | [],_=>rfl
 | i::g,h=>by
  have hi:=h i List.mem_cons_self;rw [zgT,zlz hw fun j hj=>h j (List.mem_cons_of_mem _ hj)];simp only [fB];have:=YU (hw _ (List.getElem_mem hi));have h2:=zhY (hw _ (List.getElem_mem hi));rw [getElem!_pos l i hi]
  congr 1
  omega
theorem zqt {fs:List Fact} {l m:List Box} (hw:Wf l) (hs:aL l m) {g:List Nat} (hl:∀ i∈g,i < l.length):(jk fs l g).length<=fB m g:=by
 have h1:=zk2 (qD fs g) l g 0 l;have h2:=zlz hw hl;have h3:=zjT hs hl;unfold jk;omega
theorem zq7 {p:Problem} (ok:af p) {D:bB} (h:aX p D 0) {m:Nat->Nat} (hm:bF (nz p.facts.xs) p.boxes.xs.length m) {g:List Nat} (hg:g∈z8 m p.boxes.xs.length) (h1:1 < g.length) :
  ∀ x,Wf x->aL x p.boxes.xs->Stable lG p.facts.xs x->fB x g<=65536:=fun x hw hs fF=>by
 have aK:∀ i∈g,i < p.boxes.xs.length:=((LZ hm (IV ok)).one g hg).2;rcases h with ⟨hr,_,_⟩|⟨l,m',hr,F4,h⟩
 .exact absurd fF (hr x hw hs)
 .have e2:=Yd (hm.unique F4);rcases h with ⟨_,_,h⟩|⟨hv,_,_⟩
  .omega
  .rw [<- e2] at hv;have hlen:l.length=p.boxes.xs.length:=hr.1.sub.1;have hvp:nA l g<=65536:=Int.le_trans (ZP hg) hv;have h2:=zqU hr.1.wf (fun i hi=>by rw [hlen];exact aK i hi) h1 hvp;have h3:=zjT (hr.1.all x hw hs fF) (g:=g) fun i hi=>by rw [hs.1];exact aK i hi
   omega
def znE (q:Problem) (t:List Node):Prop:=ym q.facts.xs q.boxes.xs t=true/\t.length<=262144
theorem zmE {q:Problem} (ok:af q) {gs:List (List Nat)} (hd:fP q.facts.xs q.boxes.xs.length gs) {g:List Nat} (hg:g∈gs) (oL:Dm q g) {pts:List Pt} (hb:rz q g pts)
  (hv:∀ m,Wf m->aL m q.boxes.xs->Stable lG q.facts.xs m->fB m g<=65536) {m:Nat} (oZ:fU q.boxes.xs<=600) (hm:fU q.boxes.xs < m):znE q (sP q g m q.boxes.xs):=by
 obtain ⟨r,hr⟩:=XZ (zkZ ok g) (Fz ok);have oF:=zjx ok hd hg oL;have bL:g≠[]:=fun e=>by rw [e] at oF;simp at oF
 obtain ⟨h1,h2⟩:=zpd ok hd hg bL oL hr hm;have h3:=zpH ok hd hg hr hb hv;exact ⟨zqF h1,by omega⟩
theorem zmV {q:Problem} (ok:af q) {m:Nat->Nat} (hm:bF (nz q.facts.xs) q.boxes.xs.length m) (oL:¬ ∃ pts,iQ q pts):∃ g∈z8 m q.boxes.xs.length,Dm q g:=by
 refine Classical.byContradiction fun hc=>oL (zrQ ok (LZ hm (IV ok)) fun g hg h=>hc ⟨g,hg,h⟩)
theorem znc {p:Problem} {f:Fact} {D1 D3:bB} (h0:zK p f=0) (h1:aX p D1 0) (e1:D1.empty=false) (h3:aX (jc p f true) D3 0) {m:Nat->Nat} (hm:bF (nz (jc p f true).facts.xs) (jc p f true).boxes.xs.length m)
  {g:List Nat} (hg:g∈z8 m (jc p f true).boxes.xs.length) (oL:Dm (jc p f true) g) (oZ:fU p.boxes.xs<=600) {k:Nat} (hk:fU p.boxes.xs < k):znE (jc p f true) (sP (jc p f true) g k (jc p f true).boxes.xs):=by
 obtain ⟨ok,uJ,hf⟩:=GM (t:=true) h0;have hd:=LZ hm (IV uJ);obtain ⟨pts,hs⟩:∃ pts,iQ p pts:=by
  have:=zio ok h1;rw [e1] at this;exact Classical.byContradiction fun hc=>by simpa using this.2 hc
 have yl:f.a.toNat∈g:=by
  refine Classical.byContradiction fun hc=>oL pts ⟨hs.len,hs.CS,fun f' CJ=>?_⟩
  obtain ⟨h1,h2⟩:=bn.1 CJ;have oV:f'∈p.facts.xs++[yn f true]:=h1;rcases List.mem_append.1 oV with h|h
  .exact hs.facts f' h
  .simp only [List.mem_singleton] at h;rw [h] at h2;exact absurd h2 hc
 refine zmE uJ hd hg oL (zo7 (p:=p) uJ hd hg hs rfl (fun _ _ _=>rfl) fun f' CJ N9=>?_) (zq7 uJ h3 hm hg (zjx uJ hd hg oL)) oZ hk
 have oV:f'∈p.facts.xs++[yn f true]:=CJ;rcases List.mem_append.1 oV with h|h
 .exact hs.facts f' h
 .simp only [List.mem_singleton] at h;rw [h] at N9;exact absurd yl N9
set_option maxRecDepth 4000
structure jT (p:Problem) (gs:List (List Nat)) (k:Nat):Prop where
 ok:af p
 cls:∃ m,bF (nz p.facts.xs) p.boxes.xs.length m/\gs=z8 m p.boxes.xs.length
 lt:k < gs.length
 no:Dm p gs[k]!
 first:∀ j,j < k->¬ Dm p gs[j]!
 vol:∀ g∈gs,fB p.boxes.xs g<=1000000000000000000
theorem jT.pos {p:Problem} {gs:List (List Nat)} {k:Nat} (h:jT p gs k) {g:List Nat} (hg:g∈gs):0 < g.length:=by
 obtain ⟨m,hm,vB⟩:=h.cls;rw [vB] at hg;obtain ⟨x,hx,hrx,rfl⟩:=iV.1 hg;exact (zl6 hm (IV h.ok) (zhw h.ok) hx hrx).2.1
theorem zlq (s:bX):(s.pv).cold=true:=by
 have oV:∀ o:Option (List Pt),(l7 o).fZ 11=true:=fun o=>by
  cases o with
  | none=>rfl
  | some c=>simp [l7,Sl.pv,PV.fZ,Pt.cells]
 have h2:∀ (m:Nat) (B:List PV),(∀ x∈B,x.fZ 10=true)->(chunks 4 m B).all (fun e=>e.all (PV.fZ 10))=true:=by
  intro m
  induction m with
  | zero=>intro B _;rfl
  | succ m ih =>
   intro B hB;simp only [chunks,List.all_cons,Bool.and_eq_true]
   refine ⟨List.all_eq_true.2 fun x hx=>hB x (List.mem_of_mem_take hx),ih _ fun x hx=>hB x (List.mem_of_mem_drop hx)⟩
 have h3:∀ x∈s.ends.map l7,x.fZ 10=true:=fun x hx=>by
  obtain ⟨o,_,rfl⟩:=List.mem_map.1 hx
  cases o with
  | none=>rfl
  | some c=>simp [l7,Sl.pv,PV.fZ,Pt.cells]
 have h4:=h2 s.part.length _ h3;unfold bX.pv bX.cells PV.cold;simp only [PV.fZ,List.all_cons,List.all_nil,Bool.not_false,Bool.true_and,Bool.and_true,Bool.and_eq_true,Bool.or_eq_true]
 refine ⟨?_,?_,oV _⟩
 .simp [lM,PV.fZ]
 .exact .inr h4
theorem zqr (p:Problem) (r:Option (List Box)):(PV.aM [BX p r,.bool r.isSome]).cold=true:=by
 have h:(BX p r).fZ 11=true:=by
  cases r with
  | none=>rfl
  | some l =>
   unfold BX;simp only
   split
   .rfl
   .simp [Sl.pv,PV.fZ,Box.cells,Span.cells]
 unfold PV.cold PV.fZ;simp only [List.all_cons,List.all_nil,h,Bool.and_true,Bool.true_and];rfl
theorem zox {fs:List Fact} {g:List Nat} {a:Nat} (h:a < fs.length):fI (fs.take (a+1)) g=if g.contains fs[a].a.toNat then fI (fs.take a) g++[fs[a]] else fI (fs.take a) g:=by
 unfold fI;rw [<- Gn h,List.filter_append];simp only [List.filter_cons,List.filter_nil]
 split<;>simp
theorem zfr {g:List Nat} {a:Int} (h:0<=a):decide (a∈zZ g)=g.contains a.toNat:=by
 rw [Bool.eq_iff_iff];simp only [decide_eq_true_eq,List.contains_eq_mem,zZ,List.mem_map]
 constructor
 .rintro ⟨x,hx,rfl⟩;simpa using hx
 .intro hx;exact ⟨a.toNat,hx,by omega⟩
theorem zqu {H:Heap} {B V:AV} {bs:List Box} {fs:List Fact} (hB:aZ Box.cells 4 H B bs) (hV:aZ Fact.cells 9 H V fs):∃ q:Problem,q.boxes.xs=bs/\q.facts.xs=fs/\FrzK H true nZ (jw [B,V]) (.agg q.cells):=by
 obtain ⟨s1,h1,f1⟩:=Q3 (f:=Box.cells) (sz:=4) (n:=9) (fun _=>rfl) hB;obtain ⟨s2,h2,f2⟩:=Q3 (f:=Fact.cells) (sz:=9) (n:=9) (fun _=>rfl) hV;exact ⟨⟨s1,s2⟩,h1,h2,FrzK.jw (n:=11) (.cons f1 (.cons f2 .nil))⟩
theorem sh72:G.shared 72=false:=by decide
theorem e72 (n:Nat) (p:Problem) (gs:List (List Nat)) (k:Nat) (h:jT p gs k):zF G (n+52) 72 [.agg p.cells]=some (lM gs[k]!):=by
 refine zx (zw _) rfl g72 rfl ?_
 obtain ⟨m,hm,vB⟩:=h.cls;have ok:=h.ok;have nb:=ok.nb;have nf:=ok.nf;have hd:=LZ hm (IV ok);have AQ:=RN m p.boxes.xs.length;have hp:=fun H=>zg (G:=G) (n:=n+51) (H:=H) (caps:=[]) (ps:=[.agg p.cells]) sh95 (e95 (n+49) p ok m hm);rw [<- vB] at hd AQ hp;rw [zib] at hp;have aK:=h.lt;have Q0:(k:Int) < gs.length:=by omega
 have hH:=Hide.mk h;have Vi:=Hide.mk hd;have Jb:=Hide.mk AQ;clear h hm vB hd;have OW:Hide (∀ f∈p.facts.xs,0<=f.a):=⟨fun f hf=>by have:=(Au f _).1 (ok.fact f hf);omega⟩
 obtain ⟨bs,fs⟩:=p;have O6:bs.xs.length < 1000:=by have:bs.xs.length<=12:=nb;omega
 have nI:fs.xs.length<=60:=nf;have mF:gs.length<=12:=by have h1:=AQ.1;have h2:bs.xs.length<=12:=nb;omega
 simp only [Problem.cells,List.map] at hp;have JL:Hide (∀ (g:List Nat) (x:Int),g.length<=12->0<=x->∀ H,zD (zn G (n+51)) H (.pure (.func 70 [])) [.pure ((Sl.mk false (zZ g)).pv aD 1),.pure (.int .i64 x)]=some (.val (.pure (.bool (g.contains x.toNat))))):=⟨fun g x hg hx H=>by
  have:=zg (G:=G) (n:=n+51) (H:=H) (caps:=[]) (ps:=[(Sl.mk false (zZ g)).pv aD 1,.int .i64 x]) sh70 (e70 (n+49) (Sl.mk false (zZ g)) x (by rw [Sl.jg,D8];omega));rw [Sl.jg,zfr hx] at this;exact this⟩
 obtain ⟨s,hs⟩:∃ s,s=Sl.of gs:=⟨_,rfl⟩
 have MZ:s.xs=gs:=by rw [hs,Sl.lZ]
 rw [<- hs] at hp;clear hs AQ nb nf ok;obtain ⟨gk,Nj⟩:∃ x,x=gs[k]! := ⟨_,rfl⟩
 rw [<- Nj,Io gk];have SB:=Hide.mk Nj;clear Nj;have IL:s.xs.length=gs.length:=by rw [MZ]
 have Fq:=Hide.mk MZ;clear MZ;(repeat' first|simp [*,za,c72,Problem.cells]|(apply zb<;>intro _ h<;>try simp [-Nat.le_zero_eq] at h)|(show wpE 0 (zk ..) ..;refine zA ?_)|(refine zq fun v2 H2 fQ aT aF aG aH aI=>?_))
 refine zN [(2,2),(4,5),(7,9),(13,57)] (fun (i:Nat) env H=>env 13=.pure (.int .i64 i)/\i<=k) (fun i=>gs.length - i) 0 ?_ ?_ ?_ ?_
 .decide
 .exact ⟨by simp,by omega⟩
 .simp only [zI];omega
 rintro i env H ⟨g13,hi⟩;have w1:IntKind.i64.wrap ((i:Int)+1)=(i+1:Nat):=by rw [wrap64 (by omega) (by omega)];omega
 have BP:i < gs.length:=by omega
 have oh:i < s.xs.length:=by omega
 have hisI:(i:Int) < gs.length:=by omega
 obtain ⟨g,hg⟩:∃ g,s.xs[i]=g:=⟨_,rfl⟩
 have OD:gs[i]! = g:=by
  have e:=Fq.h;subst e;rw [getElem!_pos s.xs i oh];exact hg
 have KN:g∈gs:=by rw [<- OD,getElem!_pos gs i BP];exact List.getElem_mem BP
 have FR:g.length<=12:=by have h1:=(Jb.h.2 g KN).1;have h2:=hH.h.ok.nb;omega
 have FT:=Hide.mk OD;have hgmH:=Hide.mk KN;clear OD KN;(repeat' first|simp [*,za,GA]|(apply zb<;>intro _ h<;>try simp [-Nat.le_zero_eq] at h)|(show wpE 0 (zk ..) ..;refine zA ?_)|(refine zq fun v2 H2 fQ aT aF aG aH aI=>?_))
 refine Ij O6 ?_
 intro B H1 hB SC fD ag aW;have bu:=hB.one;have Qp:=bu.1;have ho2:=bu.2;have Ci:Hide (∀ id,Names B id->id < H1.nx):=⟨fun id h=>hB.names_lt h⟩
 have hBH:=Hide.mk hB;obtain ⟨o,ho⟩:∃ o,H1.nx=o:=⟨_,rfl⟩
 clear hB SC bu ag aW fD;(repeat' first|simp [*,za]|(apply zb<;>intro _ h<;>try simp [-Nat.le_zero_eq] at h)|(show wpE 0 (zk ..) ..;refine zA ?_)|(refine zq fun v2 H2 fQ aT aF aG aH aI=>?_))
 refine zN [(7,7),(24,38)] (fun (a:Nat) env H=>env 24=.pure (.int .i64 a)/\a<=fs.xs.length/\o < H.nx/\∃ V,H.get o=.cells true [B,V]/\Hide (aZ Box.cells 4 H B bs.xs/\aC Fact.cells 9 H V (fI (fs.xs.take a) g)/\(∀ id,Names V id->o < id))) (fun a=>fs.xs.length - a) 0 ?_ ?_ ?_ ?_
 .decide
 .refine ⟨by simp,by omega,by simp;omega,.pure .nils,?_,⟨?_,by simpa [fI] using aC.nil,fun id ⟨_,_,_,h⟩=>by simp at h⟩⟩
  .rw [zo (by simp;omega)]
  .refine hBH.h.keep fun id ⟨n,hn⟩=>?_
   have:=Ci.h id ⟨_,_,_,hn⟩;rw [zh (by omega)];exact ze this
 .simp only [zI];omega
 rintro a env H ⟨g24,ha,fD,V,h1,hV⟩;have vR:=hV.h.2.1.1.one;have IX:=vR.1;have IY:=vR.2
 by_cases pM:a < fs.xs.length
 .have w2:IntKind.i64.wrap ((a:Int)+1)=(a+1:Nat):=by rw [wrap64 (by omega) (by omega)];omega
  have pO:(a:Int) < fs.xs.length:=by omega
  have fF:=zox (g:=g) pM;have hlen:(fI (fs.xs.take a) g).length < 900:=by
   have:=List.length_filter_le (fun f:Fact=>g.contains f.a.toNat) (fs.xs.take a);rw [List.length_take] at this;unfold fI;omega
  have Jc:=JL.h g fs.xs[a].a FR (OW.h _ (List.getElem_mem pM));obtain ⟨F,hF⟩:∃ F,fs.xs[a]=F:=⟨_,rfl⟩
  rw [hF] at fF Jc;obtain ⟨d1,d2,d3,da,db,dc,⟨d4,d5⟩,d6⟩:=F;simp only at Jc fF;have hneo:o≠H.nx:=by omega
  have hneo2:H.nx≠o:=by omega
  clear vR
  cases hq:g.contains da.toNat with
  | true =>
   rw [hq,if_pos rfl] at fF;rw [hq] at Jc;have Bc:=Hide.mk fF;clear fF hq;(repeat' first|simp [*,za,Fact.cells,Span.cells]|(apply zb<;>intro _ h<;>try simp [-Nat.le_zero_eq] at h)|(show wpE 0 (zk ..) ..;refine zA ?_)|(refine zq fun v2 H2 fQ aT aF aG aH aI=>?_))
   refine EY (f:=Fact.cells) (sz:=9) (l:=fI (fs.xs.take a) g) ((hV.h.2.1.lU _ _).alloc _) (fun _=>rfl) (by decide) (fun _=>rfl) (by unfold zl;omega) ⟨⟨d1,d2,d3,da,db,dc,⟨d4,d5⟩,d6⟩,by simp [Fact.cells,Span.cells],?_⟩
   intro V4 H4 l6 tY;have qX:∀ c,c < H.nx->¬ Names V c->H4.get c=H.get c:=fun c hc hn=>by rw [tY.get c (by rw [pJ,mE,pJ];omega) hn,ze (by rw [mE,pJ];omega),zh (by omega),ze hc]
   have k1:H4.get o=.cells true [B,V]:=by rw [qX o fD (fun hn=>by have:=hV.h.2.2 o hn;omega)];exact h1
   have gn:o < H4.nx:=by have:=tY.nx;rw [pJ,mE,pJ] at this;omega
   have uG:Hide (aZ Box.cells 4 H4 B bs.xs/\aC Fact.cells 9 H4 V4 (fI (fs.xs.take (a+1)) g)/\∀ id,Names V4 id->o < id):=⟨hV.h.1.keep fun id ⟨m,hm⟩=>by
    have h8:=Ci.h id ⟨_,_,_,hm⟩;exact qX id (by omega) (fun h2=>by have:=hV.h.2.2 id h2;omega),by rw [Bc.h];exact l6,fun id hn=>by have:=tY.new id hn;rw [pJ,mE,pJ] at this;omega⟩
   have o4:=l6.1.one;have KD:=o4.1;have KE:=o4.2;clear l6 tY o4 hV qX h1;(repeat' first|simp [*,za]|(apply zb<;>intro _ h<;>try simp [-Nat.le_zero_eq] at h)|(show wpE 0 (zk ..) ..;refine zA ?_)|(refine zq fun v2 H2 fQ aT aF aG aH aI=>?_))
   refine ⟨a+1,by omega,by omega,by omega,⟨uG.h.1.keep fun id ⟨m,hm⟩=>?_,uG.h.2.1.set (fun hn=>by have:=uG.h.2.2 o hn;omega) _,uG.h.2.2⟩⟩
   have h8:=Ci.h id ⟨_,_,_,hm⟩;exact zh (by omega)
  | false =>
   rw [hq,if_neg (by simp)] at fF;rw [hq] at Jc;have Bc:=Hide.mk fF;have Kq:Hide (∀ o1 o2,aZ Box.cells 4 ((H.alloc o1).set H.nx o2) B bs.xs):=⟨fun o1 o2=>hV.h.1.keep fun id ⟨m,hm⟩=>by
    have h8:=Ci.h id ⟨_,_,_,hm⟩;rw [zh (by omega),ze (by omega)]⟩
   clear fF hq;(repeat' first|simp [*,za,Fact.cells,Span.cells]|(apply zb<;>intro _ h<;>try simp [-Nat.le_zero_eq] at h)|(show wpE 0 (zk ..) ..;refine zA ?_)|(refine zq fun v2 H2 fQ aT aF aG aH aI=>?_));exact ⟨a+1,by omega,by omega,by omega,by omega,⟨Kq.h _ _,by rw [Bc.h];exact hV.h.2.1.lU _ _,hV.h.2.2⟩⟩
 .have J5:a=fs.xs.length:=by omega
  subst J5;rw [List.take_length] at hV;obtain ⟨q,Gf,IM,hqf⟩:=zqu hV.h.1 hV.h.2.1.1;have okp:=hH.h.ok;have uJ:af q:=zrK (p:=⟨bs,fs⟩) okp Gf IM;have JK:=Vi.h;have Bd:=hgmH.h;obtain ⟨r,hr⟩:=XZ (Ir uJ) (Fz uJ);have hn:zD (zn G (n+51)) H (.pure (.func 62 [])) [jw [B,V]]=some (.val (.pure (.aM [BX q r,.bool r.isSome]))):=GL sh62 (.cons hqf .nil) (e62 (n+44) q uJ r hr) (zqr q r)
  cases r with
  | none =>
   have oL:Dm ⟨bs,fs⟩ g:=zlU (p:=⟨bs,fs⟩) Gf IM hr;have Gj:i=k:=by
    refine Classical.byContradiction fun hc=>hH.h.first i (by omega) ?_
    rw [FT.h];exact oL
   have Fh:gk=g:=by rw [SB.h,<- Gj];exact FT.h
   have wR:BX q none=.nils:=rfl;rw [wR] at hn;subst Fh;clear hV Vi JK hH Jb Fq;simp [*,za]
  | some l =>
   have xU:l.length=q.boxes.xs.length:=hr.1.sub.1;obtain ⟨L,hL,SE⟩:=zp9 xU;have ER:=JK.one g Bd;have FU:Wf L.xs:=by rw [SE];exact hr.1.wf
   have IL:aL L.xs q.boxes.xs:=by rw [SE];exact hr.1.sub
   have BV:AP q L g:=⟨uJ,IL,FU,ER.1,fun x hx=>by rw [SE,xU,Gf];exact ER.2 x hx,hH.h.pos Bd,FR,fun f hf OW=>by rw [IM] at hf;exact JK.within f (bn.1 hf).1 g Bd OW,fun _=>by
    have h1:=zqt (fs:=q.facts.xs) FU IL (g:=g) (fun x hx=>by rw [SE,xU,Gf];exact ER.2 x hx);have h2:=hH.h.vol g Bd;rw [Gf] at h1;exact Nat.le_trans h1 h2⟩
   have hk:zD (zn G (n+51)) H (.pure (.func 97 [])) [jw [B,V],.pure (L.pv Box.cells 4),.pure (lM g)]=some (.val (.pure (jS q.facts.xs L.xs g).pv)):=GL sh97 (.cons hqf (.cons (.pure _) (.cons (.pure _) .nil))) (e97 (n+1) q L g BV) (zlq _);have vB:=zlF (p:=⟨bs,fs⟩) okp JK Bd Gf IM hr;rw [hL] at hn;rw [SE] at hk;obtain ⟨D,hD⟩:∃ D,jS q.facts.xs l g=D:=⟨_,rfl⟩
   rw [hD] at hk vB;have Di:D.pv=.ptr false [lM D.part,.int .i64 D.n,.slice false 4 (chunks 4 D.part.length (D.ends.map l7)),l7 D.first] 0:=rfl;rw [Di] at hk;obtain ⟨nn,OO⟩:∃ nn:Int,nn=D.n:=⟨_,rfl⟩
   rw [<- OO] at hk;simp only [Io g] at hk;generalize lM D.part=pp at *;generalize chunks 4 D.part.length (D.ends.map l7)=cc at *;generalize l7 D.first=oo at *
   by_cases hz:nn=0
   .have oL:Dm ⟨bs,fs⟩ g:=vB.1 (by omega);have Gj:i=k:=by
     refine Classical.byContradiction fun hc=>hH.h.first i (by omega) ?_
     rw [FT.h];exact oL
    have Fh:gk=g:=by rw [SB.h,<- Gj];exact FT.h
    subst Fh;subst hz;clear hV Vi JK hH Jb Fq vB BV oL Bd hD;simp [*,za]
   .have oL:¬ Dm ⟨bs,fs⟩ g:=fun h=>hz (by have:=vB.2 h;omega);have Gj:i≠k:=fun e=>oL (by have:=hH.h.no;rw [<- e,FT.h] at this;exact this);have hik2:i+1<=k:=by omega
    clear hV Vi JK Jb Fq vB BV oL Bd hD OO Di;(repeat' first|simp [*,za]|(apply zb<;>intro _ h<;>try simp [-Nat.le_zero_eq] at h)|(show wpE 0 (zk ..) ..;refine zA ?_)|(refine zq fun v2 H2 fQ aT aF aG aH aI=>?_));exact ⟨i+1,by omega,by omega,by omega⟩
end Go.Proofs.YtmmhnfghklppiaaGreat.Vm
