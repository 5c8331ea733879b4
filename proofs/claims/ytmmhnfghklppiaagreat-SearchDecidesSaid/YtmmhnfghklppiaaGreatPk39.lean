/- The tree of the guilty part is small where the problem is tractable. Plain Lean. Few points: sums and volumes; the tree of Prove is small. Plain Lean. search.guilty: the first part without a solution, walked. -/
import Derived.Test.YtmmhnfghklppiaaGreatPk26
import Derived.Test.YtmmhnfghklppiaaGreatPk33
import Derived.Test.YtmmhnfghklppiaaGreatPk32
import Derived.Test.YtmmhnfghklppiaaGreatPk27
import Derived.Test.YtmmhnfghklppiaaGreatPk18
namespace Go.Proofs.YtmmhnfghklppiaaGreat.Vm
open Go
set_option linter.unusedSimpArgs false
set_option linter.unusedVariables false
set_option maxHeartbeats 4000000
def mixL (g:List Nat) (N:List Box) (pts:List Pt):List Box:=(List.range N.length).map fun j=>if j∈g then N[j]! else atB pts[j]!
theorem zo8 (g:List Nat) (N:List Box) (pts:List Pt):(mixL g N pts).length=N.length:=by simp [mixL]
theorem ziI {g:List Nat} {N:List Box} {pts:List Pt} {j:Nat} (h:j < N.length):(mixL g N pts)[j]! = if j∈g then N[j]! else atB pts[j]! := by
 rw [getElem!_pos _ j (by rw [zo8];exact h)];simp [mixL]
theorem zgX {l:List Box} {i k j:Nat} (hi:i < l.length) (hj:j < l.length):(zX l i k)[j]! = if i=j then zaG l[j]! k else l[j]! := by
 rw [zaM hi,getElem!_pos _ j (by simpa using hj),List.getElem_set]
 split
 ·rename_i e;subst e;rw [getElem!_pos l i hi]
 ·rw [getElem!_pos l j hj]
structure BesideP (q:Problem) (g:List Nat) (pts:List Pt):Prop where
 inn:∀ j,j < q.boxes.xs.length->j ∉ g->inB' pts[j]! q.boxes.xs[j]!
 len:pts.length=q.boxes.xs.length
 facts:∀ f∈q.facts.xs,f.a.toNat ∉ g->zJ f (pts.map atB)=false
theorem znX {q:Problem} (ok:CheckOk q) {gs:List (List Nat)} (hd:IsDiv q.facts.xs q.boxes.xs.length gs) {g:List Nat} (hg:g∈gs) {N:List Box} (hw:Wf N) (hs:SubL N q.boxes.xs) (hst:Stable zZ (oneF q.facts.xs g) N) {pts:List Pt} (hb:BesideP q g pts) :
  Wf (mixL g N pts)/\SubL (mixL g N pts) q.boxes.xs/\Stable zZ q.facts.xs (mixL g N pts):=by
 have hl:=zo8 g N pts
 refine ⟨fun b hbm=>?_,⟨by rw [hl];exact hs.1,fun i h1 h2=>?_⟩,fun i hi k hk f hf hfs=>?_⟩
 ·obtain ⟨j,hj,rfl⟩:=List.mem_iff_getElem.1 hbm;have hj':j < N.length:=by omega
  have e:=ziI (g:=g) (pts:=pts) hj';rw [getElem!_pos _ j hj] at e;rw [e]
  split
  ·rw [getElem!_pos N j hj'];exact hw _ (List.getElem_mem hj')
  ·exact ⟨Int.le_refl _,Int.le_refl _⟩
 ·have hj':i < N.length:=by omega
  have e:=ziI (g:=g) (pts:=pts) hj';rw [getElem!_pos _ i h1] at e;rw [e]
  split
  ·rw [getElem!_pos N i hj'];exact hs.2 i hj' h2
  ·rename_i hng;have:=hb.inn i h2 hng;rw [getElem!_pos q.boxes.xs i h2] at this;unfold inB' at this;simp only [atB,subB,subS];omega
 ·have hn:=hd.named f hf;have hiN:i < N.length:=by omega
  by_cases hfg:f.a.toNat∈g
  ·have hwi:=hd.within f hf g hg hfg;have key:∀ j∈g,(zX (mixL g N pts) i k)[j]! = (zX N i k)[j]! := fun j hj=>by
    have hjl:j < N.length:=by rw [hs.1];exact (hd.one g hg).2 j hj
    rw [zgX hi (by omega),zgX hiN hjl,ziI hjl,if_pos hj]
   refine hst i hiN k hk f (mem_oneF.2 ⟨hf,hfg⟩) ?_
   unfold zZ at hfs ⊢;rw [<- hfs];exact (zbs ⟨key _ hwi.a,key _ hwi.b,fun h2=>key _ (hwi.c h2)⟩).symm
  ·have key:∀ j:Int,0<=j/\j < q.boxes.xs.length->j.toNat ∉ g->(zX (mixL g N pts) i k)[j.toNat]! = (pts.map atB)[j.toNat]! := fun j h1 hj=>by
    have hjl:j.toNat < N.length:=by rw [hs.1];omega
    have hjp:j.toNat < pts.length:=by rw [hb.len];omega
    rw [zgX hi (by omega),ziI hjl,if_neg hj,getElem!_pos (pts.map atB) _ (by simpa using hjp),List.getElem_map,getElem!_pos pts _ hjp]
    split
    ·exact zlG _ _
    ·rfl
   have out:∀ j:Int,0<=j->zaO f j=true->j.toNat ∉ g:=fun j h0 hj hjg=>hfg (zjy ok hd hg hjg hf (by rw [show ((j.toNat:Nat):Int)=j by omega];exact hj));have na:zaO f f.a=true:=by unfold zaO;simp
   have nb:zaO f f.b=true:=by unfold zaO;simp
   have nc:f.kind=2->zaO f f.c=true:=fun h=>by unfold zaO;simp [h]
   have e:=zbs (f:=f) (l:=zX (mixL g N pts) i k) (m:=pts.map atB) ⟨key _ hn.a hfg,key _ hn.b (out _ hn.b.1 nb),fun h2=>key _ hn.c (out _ hn.c.1 (nc h2))⟩;unfold zZ at hfs;rw [e,hb.facts f hf hfg] at hfs;simp at hfs
theorem zoL {g:List Nat} {N:List Box} {pts:List Pt}:∀ {h:List Nat},(∀ i∈h,i∈g/\i < N.length)->volN (mixL g N pts) h=volN N h
 | [],_=>rfl
 | i::h,hh=>by
  have h1:=hh i List.mem_cons_self;simp only [volN];rw [ziI h1.2,if_pos h1.1,zoL fun j hj=>hh j (List.mem_cons_of_mem _ hj)]
theorem zkN {a b:List Box} (hs:SubL a b):∀ {g:List Nat},(∀ i∈g,i < a.length)->volN a g<=volN b g
 | [],_=>Nat.le_refl _
 | i::g,h=>by
  have hi:=h i List.mem_cons_self;have hi':i < b.length:=by rw [<- hs.1];exact hi
  have h1:=hs.2 i hi hi';simp only [volN];rw [getElem!_pos a i hi,getElem!_pos b i hi']
  refine Nat.mul_le_mul ?_ (zkN hs fun j hj=>h j (List.mem_cons_of_mem _ hj))
  unfold subB subS at h1;unfold zb4;exact Nat.mul_le_mul (by omega) (by omega)
theorem zh7 {b:Box} (h:wfB b):zaT b=(zb4 b:Int):=by
 unfold zaT zb4;unfold wfB at h;rw [Int.natCast_mul,Int.toNat_of_nonneg (by omega),Int.toNat_of_nonneg (by omega)]
theorem zmp {l:List Box} (hw:Wf l):∀ (g:List Nat) (n:Nat),(∀ i∈g,i < l.length)->1<=n->volG l n g<=65536->((n*volN l g:Nat):Int)=volG l n g
 | [],n,_,_,_=>by simp [volG,volN]
 | i::g,n,h,h1,hv=>by
  have hi:=h i List.mem_cons_self;have hwi:=hw _ (List.getElem_mem hi);have ha:=zh7 hwi;have hp:=zgI hwi;have e1:zaT l[i]! = (zb4 l[i]! : Int):=by rw [getElem!_pos l i hi];exact ha
  have hp1:1<=zb4 l[i]! := by rw [getElem!_pos l i hi];exact hp
  have hgt:∀ (g:List Nat) (x:Int),(∀ i∈g,i < l.length)->x=65537->volG l x g=65537:=by
   intro g
   induction g with
   | nil=>intro x _ hx;simp [volG,hx]
   | cons a g ih =>
    intro x hh hx;rw [volG]
    refine ih _ (fun j hj=>hh j (List.mem_cons_of_mem _ hj)) ?_
    have ha:=hh a List.mem_cons_self;have h2:=zgI (hw _ (List.getElem_mem ha));have h3:zaT l[a]! = (zb4 l[a]:Int):=by rw [getElem!_pos l a ha];exact zh7 (hw _ (List.getElem_mem ha))
    rw [h3,hx];omega
  have hgr:∀ j∈g,j < l.length:=fun j hj=>h j (List.mem_cons_of_mem _ hj);rw [volG] at hv ⊢;rw [e1] at hv ⊢
  by_cases hc:(n:Int)*(zb4 l[i]! : Int)<=65536
  ·rw [show min ((n:Int)*(zb4 l[i]! : Int)) 65537=((n*zb4 l[i]! : Nat):Int) by rw [Int.natCast_mul];omega] at hv ⊢;rw [<- zmp hw g (n*zb4 l[i]!) hgr (Nat.mul_pos h1 hp1) hv];simp only [volN];rw [Nat.mul_assoc]
  ·rw [show min ((n:Int)*(zb4 l[i]! : Int)) 65537=65537 by omega,hgt g _ hgr rfl] at hv;omega
theorem zrX {l:List Box} (hw:Wf l) {g:List Nat} (hg:∀ i∈g,i < l.length) (h1:1 < g.length) (hv:volP l g<=65536):volN l g<=65536:=by
 unfold volP at hv;rw [if_pos h1] at hv;have:=zmp hw g 1 hg (Nat.le_refl _) (by simpa using hv);simp at this;omega
theorem zjR {p:Problem} (ok:CheckOk p) {gs:List (List Nat)} (hd:IsDiv p.facts.xs p.boxes.xs.length gs) {g:List Nat} (hg:g∈gs) (hno:zd9 p g):1 < g.length:=by
 refine Classical.byContradiction fun hc=>?_
 have hone:oneF p.facts.xs g=[]:=by
  refine List.eq_nil_iff_forall_not_mem.2 fun f hf=>?_
  obtain ⟨hff,hfg⟩:=mem_oneF.1 hf;have hw:=hd.within f hff g hg hfg;have hfm:=(z8 f _).1 (ok.fact f hff)
  match g,hc,hw with
  | [],_,hw=>simpa using hw.a
  | [x],_,hw =>
   have ha:=hw.a;have hb:=hw.b;simp only [List.mem_singleton] at ha hb;omega
  | x::y::r,hc,_=>simp at hc
 refine hno (p.boxes.xs.map fun b=>⟨b.x.lo,b.y.lo⟩) ⟨by simp,fun i h h'=>?_,fun f hf=>?_⟩
 ·have:=zcM ok _ (List.getElem_mem h');unfold wfB at this;simp only [List.getElem_map];unfold inB';simp only;omega
 ·rw [hone] at hf;simp at hf
theorem zp6 {q:Problem} (ok:CheckOk q) {gs:List (List Nat)} (hd:IsDiv q.facts.xs q.boxes.xs.length gs) {g:List Nat} (hg:g∈gs) {r:Option (List Box)} (hr:IsNar zZ (oneF q.facts.xs g) q.boxes.xs r) {pts:List Pt} (hb:BesideP q g pts)
  (hv:∀ m,Wf m->SubL m q.boxes.xs->Stable zZ q.facts.xs m->volN m g<=65536):topV r g<=65536:=by
 cases r with
 | none=>simp [topV]
 | some N =>
  obtain ⟨h1,h2⟩:=hr;obtain ⟨w,s,st⟩:=znX ok hd hg h1.wf h1.sub h2 hb;have:=hv _ w s st;rw [zoL fun i hi=>⟨hi,by rw [h1.sub.1];exact (hd.one g hg).2 i hi⟩] at this;exact this
theorem zqj {p q:Problem} (okq:CheckOk q) {gs:List (List Nat)} (hd:IsDiv q.facts.xs q.boxes.xs.length gs) {g:List Nat} (hg:g∈gs) {pts:List Pt} (hs:Solv p pts) (hl:q.boxes.xs.length=p.boxes.xs.length)
  (hbx:∀ j,j < q.boxes.xs.length->j ∉ g->q.boxes.xs[j]! = p.boxes.xs[j]!) (hf:∀ f∈q.facts.xs,f.a.toNat ∉ g->zJ f (pts.map atB)=false):BesideP q g pts :=
 ⟨fun j hj hjg=>by
  rw [hbx j hj hjg];have hjp:j < pts.length:=by rw [hs.len];omega
  have:=hs.inn j hjp (by omega);rwa [getElem!_pos pts j hjp,getElem!_pos p.boxes.xs j (by omega)],by rw [hs.len,hl],hf⟩
structure FewP (p:Problem):Prop where
 nb:p.boxes.xs.length<=5
 nf:p.facts.xs.length<=16
 side:∀ b∈p.boxes.xs,b.x.hi - b.x.lo<=60/\b.y.hi - b.y.lo<=60
theorem ztA {p:Problem} (ok:CheckOk p) (h:fewB p=true):FewP p:=by
 unfold fewB at h;simp only [Bool.and_eq_true,decide_eq_true_eq,List.all_eq_true,Bool.not_eq_true'] at h
 refine ⟨h.1.1,h.1.2,fun b hb=>?_⟩
 have h1:=h.2 b hb;unfold zhm at h1;rw [ok.valid b hb] at h1;simp only [Bool.true_and,Bool.or_eq_false_iff,decide_eq_false_iff_not] at h1;omega
theorem FewP.mu {l:List Box} (hn:l.length<=5) (hs:∀ b∈l,b.x.hi - b.x.lo<=60/\b.y.hi - b.y.lo<=60):muL l<=600:=by
 have h:∀ (l:List Box),(∀ b∈l,b.x.hi - b.x.lo<=60/\b.y.hi - b.y.lo<=60)->muL l<=120*l.length:=by
  intro l
  induction l with
  | nil=>intro _;simp [muL]
  | cons a l ih =>
   intro hh;have h1:=ih fun b hb=>hh b (List.mem_cons_of_mem _ hb);have h2:=hh a List.mem_cons_self;unfold muL at *;simp only [List.map_cons,List.sum_cons,List.length_cons];have:muB a<=120:=by unfold muB;omega
   omega
 have:=h l hs;omega
theorem zoE {l:List Box} (hs:∀ b∈l,b.x.hi - b.x.lo<=60/\b.y.hi - b.y.lo<=60):∀ {g:List Nat},(∀ i∈g,i < l.length)->volN l g<=3721 ^ g.length
 | [],_=>Nat.le_refl _
 | i::g,h=>by
  have hi:=h i List.mem_cons_self;have h1:=zoE hs (g:=g) fun j hj=>h j (List.mem_cons_of_mem _ hj);have h2:=hs _ (List.getElem_mem hi);simp only [volN,List.length_cons];rw [getElem!_pos l i hi,Nat.pow_succ,Nat.mul_comm]
  refine Nat.mul_le_mul h1 ?_
  unfold zb4;have a1:(l[i].x.hi - l[i].x.lo+1).toNat<=61:=by omega
  have a2:(l[i].y.hi - l[i].y.lo+1).toNat<=61:=by omega
  show _<=61*61;exact Nat.mul_le_mul a1 a2
theorem zpN {g:List Nat} {n:Nat} (hn:g.Nodup) (hl:∀ i∈g,i < n):g.length<=n:=by
 have:=zgy g (List.range n) hn fun x hx=>List.mem_range.2 (hl x hx);rwa [List.length_range] at this
theorem FewP.vol {l:List Box} (hn:l.length<=5) (hs:∀ b∈l,b.x.hi - b.x.lo<=60/\b.y.hi - b.y.lo<=60) {g:List Nat} (hg:g.Nodup) (hl:∀ i∈g,i < l.length):volN l g<=1000000000000000000:=by
 have h1:=zoE hs hl;have h2:=zpN hg hl;have h3:3721 ^ g.length<=3721 ^ 5:=Nat.pow_le_pow_right (by decide) (by omega);have h4:3721 ^ 5<=1000000000000000000:=by decide
 omega
theorem zmL {l:List Box} (hw:Wf l):∀ {g:List Nat},(∀ i∈g,i < l.length)->(allC l g).length=volN l g
 | [],_=>rfl
 | i::g,h=>by
  have hi:=h i List.mem_cons_self;rw [zha,zmL hw fun j hj=>h j (List.mem_cons_of_mem _ hj)];simp only [volN];have:=zeU (hw _ (List.getElem_mem hi));have h2:=zh7 (hw _ (List.getElem_mem hi));rw [getElem!_pos l i hi]
  congr 1
  omega
theorem zqW {fs:List Fact} {l m:List Box} (hw:Wf l) (hs:SubL l m) {g:List Nat} (hl:∀ i∈g,i < l.length):(zaq fs l g).length<=volN m g:=by
 have h1:=zlE (okK fs g) l g 0 l;have h2:=zmL hw hl;have h3:=zkN hs hl;unfold zaq;omega
theorem zrm {p:Problem} (ok:CheckOk p) {D:FoundD} (h:FindOut p D 0) {m:Nat->Nat} (hm:IsCls (zak p.facts.xs) p.boxes.xs.length m) {g:List Nat} (hg:g∈zK m p.boxes.xs.length) (h1:1 < g.length) :
  ∀ x,Wf x->SubL x p.boxes.xs->Stable zZ p.facts.xs x->volN x g<=65536:=fun x hw hs hst=>by
 have hlt:∀ i∈g,i < p.boxes.xs.length:=((zbq hm (zaR ok)).one g hg).2;rcases h with ⟨hr,_,_⟩|⟨l,m',hr,hm',h⟩
 ·exact absurd hst (hr x hw hs)
 ·have e2:=zeO (hm.unique hm');rcases h with ⟨_,_,h⟩|⟨hv,_,_⟩
  ·omega
  ·rw [<- e2] at hv;have hlen:l.length=p.boxes.xs.length:=hr.1.sub.1;have hvp:volP l g<=65536:=Int.le_trans (zf4 hg) hv;have h2:=zrX hr.1.wf (fun i hi=>by rw [hlen];exact hlt i hi) h1 hvp;have h3:=zkN (hr.1.all x hw hs hst) (g:=g) fun i hi=>by rw [hs.1];exact hlt i hi
   omega
def zoc (q:Problem) (t:List Node):Prop:=zc4 q.facts.xs q.boxes.xs t=true/\t.length<=262144
theorem zm1 {q:Problem} (ok:CheckOk q) {gs:List (List Nat)} (hd:IsDiv q.facts.xs q.boxes.xs.length gs) {g:List Nat} (hg:g∈gs) (hno:zd9 q g) {pts:List Pt} (hb:BesideP q g pts)
  (hv:∀ m,Wf m->SubL m q.boxes.xs->Stable zZ q.facts.xs m->volN m g<=65536) {m:Nat} (hmu:muL q.boxes.xs<=600) (hm:muL q.boxes.xs < m):zoc q (zb3 q g m q.boxes.xs):=by
 obtain ⟨r,hr⟩:=zkr (zl8 ok g) (zcM ok);have hbig:=zjR ok hd hg hno;have hne:g≠[]:=fun e=>by rw [e] at hbig;simp at hbig
 obtain ⟨h1,h2⟩:=zqq ok hd hg hne hno hr hm;have h3:=zp6 ok hd hg hr hb hv;exact ⟨zrd h1,by omega⟩
theorem zm7 {q:Problem} (ok:CheckOk q) {m:Nat->Nat} (hm:IsCls (zak q.facts.xs) q.boxes.xs.length m) (hno:¬ ∃ pts,Solv q pts):∃ g∈zK m q.boxes.xs.length,zd9 q g:=by
 refine Classical.byContradiction fun hc=>hno (zsA ok (zbq hm (zaR ok)) fun g hg h=>hc ⟨g,hg,h⟩)
theorem zop {p:Problem} {f:Fact} {D1 D3:FoundD} (h0:zD p f=0) (h1:FindOut p D1 0) (e1:D1.empty=false) (h3:FindOut (zad p f true) D3 0) {m:Nat->Nat} (hm:IsCls (zak (zad p f true).facts.xs) (zad p f true).boxes.xs.length m)
  {g:List Nat} (hg:g∈zK m (zad p f true).boxes.xs.length) (hno:zd9 (zad p f true) g) (hmu:muL p.boxes.xs<=600) {k:Nat} (hk:muL p.boxes.xs < k):zoc (zad p f true) (zb3 (zad p f true) g k (zad p f true).boxes.xs):=by
 obtain ⟨ok,okq,hf⟩:=zcb (t:=true) h0;have hd:=zbq hm (zaR okq);obtain ⟨pts,hs⟩:∃ pts,Solv p pts:=by
  have:=zhS ok h1;rw [e1] at this;exact Classical.byContradiction fun hc=>by simpa using this.2 hc
 have hfg:f.a.toNat∈g:=by
  refine Classical.byContradiction fun hc=>hno pts ⟨hs.len,hs.inn,fun f' hf'=>?_⟩
  obtain ⟨h1,h2⟩:=mem_oneF.1 hf';have h1':f'∈p.facts.xs++[zcx f true]:=h1;rcases List.mem_append.1 h1' with h|h
  ·exact hs.facts f' h
  ·simp only [List.mem_singleton] at h;rw [h] at h2;exact absurd h2 hc
 refine zm1 okq hd hg hno (zqj (p:=p) okq hd hg hs rfl (fun _ _ _=>rfl) fun f' hf' hng=>?_) (zrm okq h3 hm hg (zjR okq hd hg hno)) hmu hk
 have h1':f'∈p.facts.xs++[zcx f true]:=hf';rcases List.mem_append.1 h1' with h|h
 ·exact hs.facts f' h
 ·simp only [List.mem_singleton] at h;rw [h] at hng;exact absurd hfg hng
set_option maxRecDepth 4000
structure GuiltIn (p:Problem) (gs:List (List Nat)) (k:Nat):Prop where
 ok:CheckOk p
 cls:∃ m,IsCls (zak p.facts.xs) p.boxes.xs.length m/\gs=zK m p.boxes.xs.length
 lt:k < gs.length
 no:zd9 p gs[k]!
 first:∀ j,j < k->¬ zd9 p gs[j]!
 vol:∀ g∈gs,volN p.boxes.xs g<=1000000000000000000
theorem GuiltIn.pos {p:Problem} {gs:List (List Nat)} {k:Nat} (h:GuiltIn p gs k) {g:List Nat} (hg:g∈gs):0 < g.length:=by
 obtain ⟨m,hm,hgs⟩:=h.cls;rw [hgs] at hg;obtain ⟨x,hx,hrx,rfl⟩:=mem_parts.1 hg;exact (zh0 hm (zaR h.ok) (zh4 h.ok) hx hrx).2.1
theorem zmn (s:SeenD):(s.pv).cold=true:=by
 have h1':∀ o:Option (List Pt),(zaN o).coldN 11=true:=fun o=>by
  cases o with
  | none=>rfl
  | some c=>simp [zaN,Sl.pv,PV.coldN,Pt.cells]
 have h2:∀ (m:Nat) (B:List PV),(∀ x∈B,x.coldN 10=true)->(chunks 4 m B).all (fun e=>e.all (PV.coldN 10))=true:=by
  intro m
  induction m with
  | zero=>intro B _;rfl
  | succ m ih =>
   intro B hB;simp only [chunks,List.all_cons,Bool.and_eq_true]
   refine ⟨List.all_eq_true.2 fun x hx=>hB x (List.mem_of_mem_take hx),ih _ fun x hx=>hB x (List.mem_of_mem_drop hx)⟩
 have h3:∀ x∈s.ends.map zaN,x.coldN 10=true:=fun x hx=>by
  obtain ⟨o,_,rfl⟩:=List.mem_map.1 hx
  cases o with
  | none=>rfl
  | some c=>simp [zaN,Sl.pv,PV.coldN,Pt.cells]
 have h4:=h2 s.part.length _ h3;unfold SeenD.pv SeenD.cells PV.cold;simp only [PV.coldN,List.all_cons,List.all_nil,Bool.not_false,Bool.true_and,Bool.and_true,Bool.and_eq_true,Bool.or_eq_true]
 refine ⟨?_,?_,h1' _⟩
 ·simp [zao,PV.coldN]
 ·exact .inr h4
theorem zrz (p:Problem) (r:Option (List Box)):(PV.tup [zdK p r,.bool r.isSome]).cold=true:=by
 have h:(zdK p r).coldN 11=true:=by
  cases r with
  | none=>rfl
  | some l =>
   unfold zdK;simp only
   split
   ·rfl
   ·simp [Sl.pv,PV.coldN,Box.cells,Span.cells]
 unfold PV.cold PV.coldN;simp only [List.all_cons,List.all_nil,h,Bool.and_true,Bool.true_and];rfl
theorem zp2 {fs:List Fact} {g:List Nat} {a:Nat} (h:a < fs.length):oneF (fs.take (a+1)) g=if g.contains fs[a].a.toNat then oneF (fs.take a) g++[fs[a]] else oneF (fs.take a) g:=by
 unfold oneF;rw [<- zaZ h,List.filter_append];simp only [List.filter_cons,List.filter_nil]
 split<;>simp
theorem zfx {g:List Nat} {a:Int} (h:0<=a):decide (a∈zM g)=g.contains a.toNat:=by
 rw [Bool.eq_iff_iff];simp only [decide_eq_true_eq,List.contains_eq_mem,zM,List.mem_map]
 constructor
 ·rintro ⟨x,hx,rfl⟩;simpa using hx
 ·intro hx;exact ⟨a.toNat,hx,by omega⟩
theorem zqT {H:Heap} {B V:AV} {bs:List Box} {fs:List Fact} (hB:OwnV Box.cells 4 H B bs) (hV:OwnV Fact.cells 9 H V fs):∃ q:Problem,q.boxes.xs=bs/\q.facts.xs=fs/\FrzK H true zaJ (aggV [B,V]) (.agg q.cells):=by
 obtain ⟨s1,h1,f1⟩:=zh9 (f:=Box.cells) (sz:=4) (n:=9) (fun _=>rfl) hB;obtain ⟨s2,h2,f2⟩:=zh9 (f:=Fact.cells) (sz:=9) (n:=9) (fun _=>rfl) hV;exact ⟨⟨s1,s2⟩,h1,h2,FrzK.aggV (n:=11) (.cons f1 (.cons f2 .nil))⟩
theorem sh72:G.shared 72=false:=by decide
theorem e72 (n:Nat) (p:Problem) (gs:List (List Nat)) (k:Nat) (h:GuiltIn p gs k):zH G (n+52) 72 [.agg p.cells]=some (zao gs[k]!):=by
 refine zy (zx _) rfl g72 rfl ?_
 obtain ⟨m,hm,hgs⟩:=h.cls;have ok:=h.ok;have nb:=ok.nb;have nf:=ok.nf;have hd:=zbq hm (zaR ok);have hpo:=zbS m p.boxes.xs.length;have hp:=fun H=>zf (G:=G) (n:=n+51) (H:=H) (caps:=[]) (ps:=[.agg p.cells]) sh95 (e95 (n+49) p ok m hm);rw [<- hgs] at hd hpo hp;rw [zez] at hp;have hlt:=h.lt;have hkI:(k:Int) < gs.length:=by omega
 have hH:=Hide.mk h;have hdH:=Hide.mk hd;have hpoH:=Hide.mk hpo;clear h hm hgs hd;have hfa:Hide (∀ f∈p.facts.xs,0<=f.a):=⟨fun f hf=>by have:=(z8 f _).1 (ok.fact f hf);omega⟩
 obtain ⟨bs,fs⟩:=p;have hbl:bs.xs.length < 1000:=by have:bs.xs.length<=12:=nb;omega
 have hfl:fs.xs.length<=60:=nf;have hgl:gs.length<=12:=by have h1:=hpo.1;have h2:bs.xs.length<=12:=nb;omega
 simp only [Problem.cells,List.map_cons,List.map_nil] at hp;have hco:Hide (∀ (g:List Nat) (x:Int),g.length<=12->0<=x->∀ H,zG (zt G (n+51)) H (.pure (.func 70 [])) [.pure ((Sl.mk false (zM g)).pv intF 1),.pure (.int .i64 x)]=some (.val (.pure (.bool (g.contains x.toNat))))):=⟨fun g x hg hx H=>by
  have:=zf (G:=G) (n:=n+51) (H:=H) (caps:=[]) (ps:=[(Sl.mk false (zM g)).pv intF 1,.int .i64 x]) sh70 (e70 (n+49) (Sl.mk false (zM g)) x (by rw [Sl.xs_mk,zab];omega));rw [Sl.xs_mk,zfx hx] at this;exact this⟩
 obtain ⟨s,hs⟩:∃ s,s=Sl.of gs:=⟨_,rfl⟩
 have hsx:s.xs=gs:=by rw [hs,Sl.xs_of]
 rw [<- hs] at hp;clear hs hpo nb nf ok;obtain ⟨gk,hgk0⟩:∃ x,x=gs[k]! := ⟨_,rfl⟩
 rw [<- hgk0,zb0 gk];have hgkH:=Hide.mk hgk0;clear hgk0;have hsl:s.xs.length=gs.length:=by rw [hsx]
 have hsH:=Hide.mk hsx;clear hsx;(repeat' first|simp [*,za,c72,Problem.cells]|(apply zb<;>intro _ h<;>try simp [-Nat.le_zero_eq] at h)|(show wpE 0 (zi ..) ..;refine zm ?_)|(refine zg fun v2 H2 hv2 hnx2 hget2 hnew2 hone2 hcel2=>?_))
 refine zB [(2,2),(4,5),(7,9),(13,57)] (fun (i:Nat) env H=>env 13=.pure (.int .i64 i)/\i<=k) (fun i=>gs.length - i) 0 ?_ ?_ ?_ ?_
 ·decide
 ·exact ⟨by simp,by omega⟩
 ·simp only [zz];omega
 rintro i env H ⟨g13,hi⟩;have w1:IntKind.i64.wrap ((i:Int)+1)=(i+1:Nat):=by rw [wrap64 (by omega) (by omega)];omega
 have hig:i < gs.length:=by omega
 have his:i < s.xs.length:=by omega
 have hisI:(i:Int) < gs.length:=by omega
 obtain ⟨g,hg⟩:∃ g,s.xs[i]=g:=⟨_,rfl⟩
 have hgg:gs[i]! = g:=by
  have e:=hsH.h;subst e;rw [getElem!_pos s.xs i his];exact hg
 have hgm:g∈gs:=by rw [<- hgg,getElem!_pos gs i hig];exact List.getElem_mem hig
 have hgl12:g.length<=12:=by have h1:=(hpoH.h.2 g hgm).1;have h2:=hH.h.ok.nb;omega
 have hggH:=Hide.mk hgg;have hgmH:=Hide.mk hgm;clear hgg hgm;(repeat' first|simp [*,za,za7]|(apply zb<;>intro _ h<;>try simp [-Nat.le_zero_eq] at h)|(show wpE 0 (zi ..) ..;refine zm ?_)|(refine zg fun v2 H2 hv2 hnx2 hget2 hnew2 hone2 hcel2=>?_))
 refine zbv hbl ?_
 intro B H1 hB hBn hnx hsame hnew;have hone:=hB.one;have ho1:=hone.1;have ho2:=hone.2;have hBlow:Hide (∀ id,Names B id->id < H1.nx):=⟨fun id h=>hB.names_lt h⟩
 have hBH:=Hide.mk hB;obtain ⟨o,ho⟩:∃ o,H1.nx=o:=⟨_,rfl⟩
 clear hB hBn hone hsame hnew hnx;(repeat' first|simp [*,za]|(apply zb<;>intro _ h<;>try simp [-Nat.le_zero_eq] at h)|(show wpE 0 (zi ..) ..;refine zm ?_)|(refine zg fun v2 H2 hv2 hnx2 hget2 hnew2 hone2 hcel2=>?_))
 refine zB [(7,7),(24,38)] (fun (a:Nat) env H=>env 24=.pure (.int .i64 a)/\a<=fs.xs.length/\o < H.nx/\∃ V,H.get o=.cells true [B,V]/\Hide (OwnV Box.cells 4 H B bs.xs/\GrowV Fact.cells 9 H V (oneF (fs.xs.take a) g)/\(∀ id,Names V id->o < id))) (fun a=>fs.xs.length - a) 0 ?_ ?_ ?_ ?_
 ·decide
 ·refine ⟨by simp,by omega,by simp;omega,.pure .nils,?_,⟨?_,by simpa [oneF] using GrowV.nil,fun id ⟨_,_,_,h⟩=>by simp at h⟩⟩
  ·rw [zq (by simp;omega)]
  ·refine hBH.h.keep fun id ⟨n,hn⟩=>?_
   have:=hBlow.h id ⟨_,_,_,hn⟩;rw [ze (by omega)];exact zh this
 ·simp only [zz];omega
 rintro a env H ⟨g24,ha,hnx,V,h1,hV⟩;have hVo:=hV.h.2.1.1.one;have hVo1:=hVo.1;have hVo2:=hVo.2
 by_cases hlt2:a < fs.xs.length
 ·have w2:IntKind.i64.wrap ((a:Int)+1)=(a+1:Nat):=by rw [wrap64 (by omega) (by omega)];omega
  have hltI:(a:Int) < fs.xs.length:=by omega
  have hst:=zp2 (g:=g) hlt2;have hlen:(oneF (fs.xs.take a) g).length < 900:=by
   have:=List.length_filter_le (fun f:Fact=>g.contains f.a.toNat) (fs.xs.take a);rw [List.length_take] at this;unfold oneF;omega
  have hca:=hco.h g fs.xs[a].a hgl12 (hfa.h _ (List.getElem_mem hlt2));obtain ⟨F,hF⟩:∃ F,fs.xs[a]=F:=⟨_,rfl⟩
  rw [hF] at hst hca;obtain ⟨d1,d2,d3,da,db,dc,⟨d4,d5⟩,d6⟩:=F;simp only at hca hst;have hneo:o≠H.nx:=by omega
  have hneo2:H.nx≠o:=by omega
  clear hVo
  cases hq:g.contains da.toNat with
  | true =>
   rw [hq,if_pos rfl] at hst;rw [hq] at hca;have hstH:=Hide.mk hst;clear hst hq;(repeat' first|simp [*,za,Fact.cells,Span.cells]|(apply zb<;>intro _ h<;>try simp [-Nat.le_zero_eq] at h)|(show wpE 0 (zi ..) ..;refine zm ?_)|(refine zg fun v2 H2 hv2 hnx2 hget2 hnew2 hone2 hcel2=>?_))
   refine zaH (f:=Fact.cells) (sz:=9) (l:=oneF (fs.xs.take a) g) ((hV.h.2.1.setNew _ _).alloc _) (fun _=>rfl) (by decide) (fun _=>rfl) (by unfold zu;omega) ⟨⟨d1,d2,d3,da,db,dc,⟨d4,d5⟩,d6⟩,by simp [Fact.cells,Span.cells],?_⟩
   intro V4 H4 hg4 ha4;have hgo:∀ c,c < H.nx->¬ Names V c->H4.get c=H.get c:=fun c hc hn=>by rw [ha4.get c (by rw [zam,zaw,zam];omega) hn,zh (by rw [zaw,zam];omega),ze (by omega),zh hc]
   have k1:H4.get o=.cells true [B,V]:=by rw [hgo o hnx (fun hn=>by have:=hV.h.2.2 o hn;omega)];exact h1
   have gn:o < H4.nx:=by have:=ha4.nx;rw [zam,zaw,zam] at this;omega
   have hV4:Hide (OwnV Box.cells 4 H4 B bs.xs/\GrowV Fact.cells 9 H4 V4 (oneF (fs.xs.take (a+1)) g)/\∀ id,Names V4 id->o < id):=⟨hV.h.1.keep fun id ⟨m,hm⟩=>by
    have h8:=hBlow.h id ⟨_,_,_,hm⟩;exact hgo id (by omega) (fun h2=>by have:=hV.h.2.2 id h2;omega),by rw [hstH.h];exact hg4,fun id hn=>by have:=ha4.new id hn;rw [zam,zaw,zam] at this;omega⟩
   have o4:=hg4.1.one;have o4a:=o4.1;have o4b:=o4.2;clear hg4 ha4 o4 hV hgo h1;(repeat' first|simp [*,za]|(apply zb<;>intro _ h<;>try simp [-Nat.le_zero_eq] at h)|(show wpE 0 (zi ..) ..;refine zm ?_)|(refine zg fun v2 H2 hv2 hnx2 hget2 hnew2 hone2 hcel2=>?_))
   refine ⟨a+1,by omega,by omega,by omega,⟨hV4.h.1.keep fun id ⟨m,hm⟩=>?_,hV4.h.2.1.set (fun hn=>by have:=hV4.h.2.2 o hn;omega) _,hV4.h.2.2⟩⟩
   have h8:=hBlow.h id ⟨_,_,_,hm⟩;exact ze (by omega)
  | false =>
   rw [hq,if_neg (by simp)] at hst;rw [hq] at hca;have hstH:=Hide.mk hst;have hB2:Hide (∀ o1 o2,OwnV Box.cells 4 ((H.alloc o1).set H.nx o2) B bs.xs):=⟨fun o1 o2=>hV.h.1.keep fun id ⟨m,hm⟩=>by
    have h8:=hBlow.h id ⟨_,_,_,hm⟩;rw [ze (by omega),zh (by omega)]⟩
   clear hst hq;(repeat' first|simp [*,za,Fact.cells,Span.cells]|(apply zb<;>intro _ h<;>try simp [-Nat.le_zero_eq] at h)|(show wpE 0 (zi ..) ..;refine zm ?_)|(refine zg fun v2 H2 hv2 hnx2 hget2 hnew2 hone2 hcel2=>?_));exact ⟨a+1,by omega,by omega,by omega,by omega,⟨hB2.h _ _,by rw [hstH.h];exact hV.h.2.1.setNew _ _,hV.h.2.2⟩⟩
 ·have haN:a=fs.xs.length:=by omega
  subst haN;rw [List.take_length] at hV;obtain ⟨q,hq1,hq2,hqf⟩:=zqT hV.h.1 hV.h.2.1.1;have okp:=hH.h.ok;have okq:CheckOk q:=zso (p:=⟨bs,fs⟩) okp hq1 hq2;have hgd:=hdH.h;have hgmm:=hgmH.h;obtain ⟨r,hr⟩:=zkr (zb7 okq) (zcM okq);have hn:zG (zt G (n+51)) H (.pure (.func 62 [])) [aggV [B,V]]=some (.val (.pure (.tup [zdK q r,.bool r.isSome]))):=zb6 sh62 (.cons hqf .nil) (e62 (n+44) q okq r hr) (zrz q r)
  cases r with
  | none =>
   have hno:zd9 ⟨bs,fs⟩ g:=zl9 (p:=⟨bs,fs⟩) hq1 hq2 hr;have hik:i=k:=by
    refine Classical.byContradiction fun hc=>hH.h.first i (by omega) ?_
    rw [hggH.h];exact hno
   have hgk:gk=g:=by rw [hgkH.h,<- hik];exact hggH.h
   have hnone:zdK q none=.nils:=rfl;rw [hnone] at hn;subst hgk;clear hV hdH hgd hH hpoH hsH;(repeat' first|simp [*,za]|(apply zb<;>intro _ h<;>try simp [-Nat.le_zero_eq] at h)|(show wpE 0 (zi ..) ..;refine zm ?_)|(refine zg fun v2 H2 hv2 hnx2 hget2 hnew2 hone2 hcel2=>?_))
  | some l =>
   have hls:l.length=q.boxes.xs.length:=hr.1.sub.1;obtain ⟨L,hL,hLx⟩:=zqB hls;have hgi:=hgd.one g hgmm;have hwl:Wf L.xs:=by rw [hLx];exact hr.1.wf
   have hsl:SubL L.xs q.boxes.xs:=by rw [hLx];exact hr.1.sub
   have hlk:LookIn q L g:=⟨okq,hsl,hwl,hgi.1,fun x hx=>by rw [hLx,hls,hq1];exact hgi.2 x hx,hH.h.pos hgmm,hgl12,fun f hf hfa=>by rw [hq2] at hf;exact hgd.within f (mem_oneF.1 hf).1 g hgmm hfa,fun _=>by
    have h1:=zqW (fs:=q.facts.xs) hwl hsl (g:=g) (fun x hx=>by rw [hLx,hls,hq1];exact hgi.2 x hx);have h2:=hH.h.vol g hgmm;rw [hq1] at h1;exact Nat.le_trans h1 h2⟩
   have hk:zG (zt G (n+51)) H (.pure (.func 97 [])) [aggV [B,V],.pure (L.pv Box.cells 4),.pure (zao g)]=some (.val (.pure (zah q.facts.xs L.xs g).pv)):=zb6 sh97 (.cons hqf (.cons (.pure _) (.cons (.pure _) .nil))) (e97 (n+1) q L g hlk) (zmn _);have hgs:=zlo (p:=⟨bs,fs⟩) okp hgd hgmm hq1 hq2 hr;rw [hL] at hn;rw [hLx] at hk;obtain ⟨D,hD⟩:∃ D,zah q.facts.xs l g=D:=⟨_,rfl⟩
   rw [hD] at hk hgs;have hpvE:D.pv=.ptr false [zao D.part,.int .i64 D.n,.slice false 4 (chunks 4 D.part.length (D.ends.map zaN)),zaN D.first] 0:=rfl;rw [hpvE] at hk;obtain ⟨nn,hnn⟩:∃ nn:Int,nn=D.n:=⟨_,rfl⟩
   rw [<- hnn] at hk;simp only [zb0 g] at hk;generalize zao D.part=pp at *;generalize chunks 4 D.part.length (D.ends.map zaN)=cc at *;generalize zaN D.first=oo at *
   by_cases hz:nn=0
   ·have hno:zd9 ⟨bs,fs⟩ g:=hgs.1 (by omega);have hik:i=k:=by
     refine Classical.byContradiction fun hc=>hH.h.first i (by omega) ?_
     rw [hggH.h];exact hno
    have hgk:gk=g:=by rw [hgkH.h,<- hik];exact hggH.h
    subst hgk;subst hz;clear hV hdH hgd hH hpoH hsH hgs hlk hno hgmm hD;(repeat' first|simp [*,za]|(apply zb<;>intro _ h<;>try simp [-Nat.le_zero_eq] at h)|(show wpE 0 (zi ..) ..;refine zm ?_)|(refine zg fun v2 H2 hv2 hnx2 hget2 hnew2 hone2 hcel2=>?_))
   ·have hno:¬ zd9 ⟨bs,fs⟩ g:=fun h=>hz (by have:=hgs.2 h;omega);have hik:i≠k:=fun e=>hno (by have:=hH.h.no;rw [<- e,hggH.h] at this;exact this);have hik2:i+1<=k:=by omega
    clear hV hdH hgd hpoH hsH hgs hlk hno hgmm hD hnn hpvE;(repeat' first|simp [*,za]|(apply zb<;>intro _ h<;>try simp [-Nat.le_zero_eq] at h)|(show wpE 0 (zi ..) ..;refine zm ?_)|(refine zg fun v2 H2 hv2 hnx2 hget2 hnew2 hone2 hcel2=>?_));exact ⟨i+1,by omega,by omega,by omega⟩
end Go.Proofs.YtmmhnfghklppiaaGreat.Vm
