/- Few, boxes, ints, With and lies of the laws, walked. Few points: sums and volumes; the tree of Prove is small. Plain Lean. What lies beyond a side of a box; the trees of Extent are small. Plain Lean. -/
import Derived.Test.YtmmhnfghklppiaaGreatWk26
import Derived.Test.YtmmhnfghklppiaaGreatWk17
import Derived.Test.YtmmhnfghklppiaaGreatWk25
namespace Go.Proofs.YtmmhnfghklppiaaGreat.Vm
open Go
set_option linter.unusedSimpArgs false
set_option linter.unusedVariables false
set_option maxHeartbeats 4000000
set_option maxRecDepth 4000
def Nq (b:Box):Bool:=o7 b&&(decide (60 < b.x.hi - b.x.lo)||decide (60 < b.y.hi - b.y.lo))
def oO (p:Problem):Bool:=decide (p.boxes.xs.length<=5)&&decide (p.facts.xs.length<=16)&&p.boxes.xs.all fun b=>!Nq b
def zq4 (l:List Box) (i:Nat):Prop:=∀ j (h:j < l.length),j < i->Nq l[j]=false
theorem sh10:G.shared 10=false:=by decide
theorem e10 (n:Nat) (p:Problem):zK G (n+3) 10 [.agg p.cells]=some (.bool (oO p)):=by
 refine zz (zy _) rfl g10 rfl ?_
 obtain ⟨bs,fs⟩:=p;have UW:Hide (∀ b:Box,∀ H,zH (zu G (n+2)) H (.pure (.func 37 [])) [.pure (.agg b.cells)]=some (.val (.pure (.bool (o7 b))))):=⟨fun b H=>ze (caps:=[]) (ps:=[_]) sh37 (e37 n b)⟩
 by_cases h1:5 < bs.xs.length
 .have Xc:(5:Int) < bs.xs.length:=by omega
  have hR:oO ⟨bs,fs⟩=false:=by
   have:decide (bs.xs.length<=5)=false:=by simp;omega
   simp [oO,this]
  rw [hR];simp [*,zb,c10,Problem.cells]
 have Xc:¬ (5:Int) < bs.xs.length:=by omega
 by_cases h2:16 < fs.xs.length
 .have h2I:(16:Int) < fs.xs.length:=by omega
  have hR:oO ⟨bs,fs⟩=false:=by
   have:decide (fs.xs.length<=16)=false:=by simp;omega
   simp [oO,this]
  rw [hR];simp [*,zb,c10,Problem.cells]
 have h2I:¬ (16:Int) < fs.xs.length:=by omega
 have Pv:Hide (oO ⟨bs,fs⟩=bs.xs.all fun b=>!Nq b):=⟨by
  have a1:decide (bs.xs.length<=5)=true:=by simp;omega
  have a2:decide (fs.xs.length<=16)=true:=by simp;omega
  simp [oO,a1,a2]⟩
 generalize hR:oO ⟨bs,fs⟩=R;rw [hR] at Pv;clear hR;(repeat' first|simp [*,zb,c10,Problem.cells]|(apply za<;>intro _ h<;>try simp [-Nat.le_zero_eq] at h))
 refine zL [(2,5),(16,50)] (fun (i:Nat) env H=>env 3=.pure (.int .i64 i)/\i<=bs.xs.length/\Hide (zq4 bs.xs i)) (fun i=>bs.xs.length - i) 0 ?_ ?_ ?_ ?_
 .decide
 .exact ⟨by simp,by omega,⟨fun _ _ h=>by omega⟩⟩
 .simp only [zF];omega
 rintro i env H ⟨g3,hi,hn⟩
 by_cases aO:i < bs.xs.length
 .have w1:IntKind.i64.wrap ((i:Int)+1)=(i+1:Nat):=by rw [wrap64 (by omega) (by omega)];omega
  have qh:(i:Int) < bs.xs.length:=by omega
  have c1:=UW.h bs.xs[i];simp only [Box.cells,Span.cells] at c1
  by_cases hw:Nq bs.xs[i]=true
  .have hRf:R=false:=by
    rw [Pv.h,List.all_eq_false];exact ⟨_,List.getElem_mem aO,by simp [hw]⟩
   subst hRf;unfold Nq at hw;rw [Bool.and_eq_true,Bool.or_eq_true,decide_eq_true_eq,decide_eq_true_eq] at hw;obtain ⟨hv,hw⟩:=hw;have F8:=aF.1 hv;have x1:IntKind.i64.wrap (bs.xs[i].x.hi - bs.xs[i].x.lo)=bs.xs[i].x.hi - bs.xs[i].x.lo:=wrap64 (by omega) (by omega);have x2:IntKind.i64.wrap (bs.xs[i].y.hi - bs.xs[i].y.lo)=bs.xs[i].y.hi - bs.xs[i].y.lo:=wrap64 (by omega) (by omega);rw [hv] at c1;clear Pv hn F8 hv UW
   by_cases hx:60 < bs.xs[i].x.hi - bs.xs[i].x.lo
   .clear hw;simp [*,zb,Box.cells,Span.cells]
   .have hy:60 < bs.xs[i].y.hi - bs.xs[i].y.lo:=by omega
    clear hw;simp [*,zb,Box.cells,Span.cells]
  .have qz:Nq bs.xs[i]=false:=by simpa using hw
   have jD:Hide (zq4 bs.xs (i+1)):=⟨fun j h hj=>by
    by_cases e:j=i
    .subst e;exact qz
    .exact hn.h j h (by omega)⟩
   clear hw hn;unfold Nq at qz
   cases hv:o7 bs.xs[i] with
   | false =>
    rw [hv] at c1;clear qz Pv UW hv;(repeat' first|simp [*,zb,Box.cells,Span.cells]|(apply za<;>intro _ h<;>try simp [-Nat.le_zero_eq] at h));exact ⟨i+1,by omega,by omega,by omega,jD⟩
   | true =>
    rw [hv] at qz c1;rw [Bool.true_and,Bool.or_eq_false_iff,decide_eq_false_iff_not,decide_eq_false_iff_not] at qz;obtain ⟨hx,hy⟩:=qz;have F8:=aF.1 hv;have x1:IntKind.i64.wrap (bs.xs[i].x.hi - bs.xs[i].x.lo)=bs.xs[i].x.hi - bs.xs[i].x.lo:=wrap64 (by omega) (by omega);have x2:IntKind.i64.wrap (bs.xs[i].y.hi - bs.xs[i].y.lo)=bs.xs[i].y.hi - bs.xs[i].y.lo:=wrap64 (by omega) (by omega);clear Pv F8 hv UW;(repeat' first|simp [*,zb,Box.cells,Span.cells]|(apply za<;>intro _ h<;>try simp [-Nat.le_zero_eq] at h));exact ⟨i+1,by omega,by omega,by omega,jD⟩
 .have xO:i=bs.xs.length:=by omega
  subst xO;have hRt:R=true:=by
   rw [Pv.h,List.all_eq_true];intro b hb;obtain ⟨j,hj,rfl⟩:=List.mem_iff_getElem.1 hb;rw [hn.h j hj hj];rfl
  subst hRt;clear hn Pv UW;simp [*,zb]
structure FM (p:Problem):Prop where
 nb:p.boxes.xs.length<=5
 nf:p.facts.xs.length<=16
 side:∀ b∈p.boxes.xs,b.x.hi - b.x.lo<=60/\b.y.hi - b.y.lo<=60
theorem zrF {p:Problem} (ok:ae p) (h:oO p=true):FM p:=by
 unfold oO at h;simp only [Bool.and_eq_true,decide_eq_true_eq,List.all_eq_true,Bool.not_eq_true'] at h
 refine ⟨h.1.1,h.1.2,fun b hb=>?_⟩
 have h1:=h.2 b hb;unfold Nq at h1;rw [ok.valid b hb] at h1;simp only [Bool.true_and,Bool.or_eq_false_iff,decide_eq_false_iff_not] at h1;omega
theorem FM.mu {l:List Box} (hn:l.length<=5) (hs:∀ b∈l,b.x.hi - b.x.lo<=60/\b.y.hi - b.y.lo<=60):iq l<=600:=by
 have h:∀ (l:List Box),(∀ b∈l,b.x.hi - b.x.lo<=60/\b.y.hi - b.y.lo<=60)->iq l<=120*l.length:=by
  intro l
  induction l with
  | nil=>intro _;simp [iq]
  | cons a l ih =>
   intro hh;have h1:=ih fun b hb=>hh b (List.mem_cons_of_mem _ hb);have h2:=hh a List.mem_cons_self;unfold iq at *;simp only [List.map_cons,List.sum_cons,List.length_cons];have:E8 a<=120:=by unfold E8;omega
   omega
 have:=h l hs;omega
theorem zkC {l:List Box} (hs:∀ b∈l,b.x.hi - b.x.lo<=60/\b.y.hi - b.y.lo<=60):∀ {g:List Nat},(∀ i∈g,i < l.length)->fB l g<=3721 ^ g.length
 | [],_=>Nat.le_refl _
 | i::g,h=>by
  have hi:=h i List.mem_cons_self;have h1:=zkC hs (g:=g) fun j hj=>h j (List.mem_cons_of_mem _ hj);have h2:=hs _ (List.getElem_mem hi);simp only [fB,List.length_cons];rw [getElem!_pos l i hi,Nat.pow_succ,Nat.mul_comm]
  refine Nat.mul_le_mul h1 ?_
  unfold vG;have a1:(l[i].x.hi - l[i].x.lo+1).toNat<=61:=by omega
  have a2:(l[i].y.hi - l[i].y.lo+1).toNat<=61:=by omega
  show _<=61*61;exact Nat.mul_le_mul a1 a2
theorem zjW {g:List Nat} {n:Nat} (hn:g.Nodup) (hl:∀ i∈g,i < n):g.length<=n:=by
 have:=W9 g (List.range n) hn fun x hx=>List.mem_range.2 (hl x hx);rwa [List.length_range] at this
theorem FM.vol {l:List Box} (hn:l.length<=5) (hs:∀ b∈l,b.x.hi - b.x.lo<=60/\b.y.hi - b.y.lo<=60) {g:List Nat} (hg:g.Nodup) (hl:∀ i∈g,i < l.length):fB l g<=1000000000000000000:=by
 have h1:=zkC hs hl;have h2:=zjW hg hl;have h3:3721 ^ g.length<=3721 ^ 5:=Nat.pow_le_pow_right (by decide) (by omega);have h4:3721 ^ 5<=1000000000000000000:=by decide
 omega
theorem zl6 {l:List Box} (hw:Wf l):∀ {g:List Nat},(∀ i∈g,i < l.length)->(nT l g).length=fB l g
 | [],_=>rfl
 | i::g,h=>by
  have hi:=h i List.mem_cons_self;rw [zhe,zl6 hw fun j hj=>h j (List.mem_cons_of_mem _ hj)];simp only [fB];have:=ze6 (hw _ (List.getElem_mem hi));have h2:=zim (hw _ (List.getElem_mem hi));rw [getElem!_pos l i hi]
  congr 1
  omega
theorem zq6 {fs:List Fact} {l m:List Box} (hw:Wf l) (hs:aP l m) {g:List Nat} (hl:∀ i∈g,i < l.length):(jJ fs l g).length<=fB m g:=by
 have h1:=zlv (sQ fs g) l g 0 l;have h2:=zl6 hw hl;have h3:=Xx hs hl;unfold jJ;omega
theorem zlY {p:Problem} (ok:ae p) {D:aZ} (h:iD p D 0) {m:Nat->Nat} (hm:bV (pF p.facts.xs) p.boxes.xs.length m) {g:List Nat} (hg:g∈pG m p.boxes.xs.length) (h1:1 < g.length) :
  ∀ x,Wf x->aP x p.boxes.xs->Stable zX p.facts.xs x->fB x g<=65536:=fun x hw hs fA=>by
 have aO:∀ i∈g,i < p.boxes.xs.length:=((MS hm (JC ok)).one g hg).2;rcases h with ⟨hr,_,_⟩|⟨l,m',hr,DY,h⟩
 .exact absurd fA (hr x hw hs)
 .have e2:=zeV (hm.unique DY);rcases h with ⟨_,_,h⟩|⟨hv,_,_⟩
  .omega
  .rw [<- e2] at hv;have hlen:l.length=p.boxes.xs.length:=hr.1.sub.1;have hvp:pI l g<=65536:=Int.le_trans (zif hg) hv;have h2:=zqY hr.1.wf (fun i hi=>by rw [hlen];exact aO i hi) h1 hvp;have h3:=Xx (hr.1.all x hw hs fA) (g:=g) fun i hi=>by rw [hs.1];exact aO i hi
   omega
def Xz (q:Problem) (t:List Node):Prop:=rf q.facts.xs q.boxes.xs t=true/\t.length<=262144
theorem zog {q:Problem} (ok:ae q) {gs:List (List Nat)} (hd:fO q.facts.xs q.boxes.xs.length gs) {g:List Nat} (hg:g∈gs) (qQ:EI q g) {pts:List Pt} (hb:um q g pts)
  (hv:∀ m,Wf m->aP m q.boxes.xs->Stable zX q.facts.xs m->fB m g<=65536) {m:Nat} (nX:iq q.boxes.xs<=600) (hm:iq q.boxes.xs < m):Xz q (vL q g m q.boxes.xs):=by
 obtain ⟨r,hr⟩:=TA (Xw ok g) (vI ok);have mO:=Xy ok hd hg qQ;have bJ:g≠[]:=fun e=>by rw [e] at mO;simp at mO
 obtain ⟨h1,h2⟩:=zki ok hd hg bJ qQ hr hm;have h3:=zpS ok hd hg hr hb hv;exact ⟨zrD h1,by omega⟩
theorem zou {q:Problem} (ok:ae q) {m:Nat->Nat} (hm:bV (pF q.facts.xs) q.boxes.xs.length m) (qQ:¬ ∃ pts,iG q pts):∃ g∈pG m q.boxes.xs.length,EI q g:=by
 refine Classical.byContradiction fun hc=>qQ (zsu ok (MS hm (JC ok)) fun g hg h=>hc ⟨g,hg,h⟩)
def jc (c b:Box) (k:Nat):Box:=mG c (k / 2) (if k % 2=0 then ⟨(bz c (k / 2)).lo,min (bz c (k / 2)).hi ((bz b (k / 2)).lo - 1)⟩ else ⟨max (bz c (k / 2)).lo ((bz b (k / 2)).hi+1),(bz c (k / 2)).hi⟩)
def zI (c b:Box) (k:Nat):Bool:=decide ((bz (jc c b k) (k / 2)).lo<=(bz (jc c b k) (k / 2)).hi)
def jF (l:List Box) (point:Nat) (k:Nat) (b:Box):List Box:=l.set point (jc l[point]! b k)
def aN (p:Problem) (point k:Nat) (b:Box):Problem:=⟨.mk false (jF p.boxes.xs point k b),p.facts⟩
theorem zur {c b:Box} {k:Nat} (hw:jl c) (h:zI c b k=true):jl (jc c b k)/\fH (jc c b k) c:=by
 unfold zI at h;rw [decide_eq_true_eq] at h;unfold jc jl fH fG mG bz at *
 by_cases e:k / 2=0
 .by_cases e2:k % 2=0
  .simp only [e,e2,if_true] at *;omega
  .simp only [e,e2,if_true,if_false] at *;omega
 .by_cases e2:k % 2=0
  .simp only [e,e2,if_true,if_false] at *;omega
  .simp only [e,e2,if_false] at *;omega
theorem Px (l:List Box) (point k:Nat) (b:Box):(jF l point k b).length=l.length:=by simp [jF]
theorem UX {l:List Box} {point k:Nat} {b:Box} (hw:Wf l) (hp:point < l.length) (h:zI l[point]! b k=true):Wf (jF l point k b)/\aP (jF l point k b) l:=by
 have qz:=hw _ (List.getElem_mem hp);unfold jF;rw [getElem!_pos l point hp] at h ⊢;obtain ⟨h1,h2⟩:=zur qz h;have h3:=(aP.refl l).set (i:=point) h2;rw [List.set_getElem_self] at h3;exact ⟨hw.set h1,h3⟩
theorem XA {p:Problem} (ok:ae p) {point k:Nat} {b:Box} (hp:point < p.boxes.xs.length) (h:zI p.boxes.xs[point]! b k=true):ae (aN p point k b):=by
 obtain ⟨h1,h2⟩:=UX (vI ok) hp h;have hl:(aN p point k b).boxes.xs.length=p.boxes.xs.length:=Px ..
 refine ⟨by rw [hl];exact ok.nb,ok.nf,fun c hc=>?_,fun f hf=>by rw [hl];exact ok.fact f hf⟩
 obtain ⟨i,hi,rfl⟩:=List.mem_iff_getElem.1 hc;have bR:i < p.boxes.xs.length:=by rw [<- hl];exact hi
 have h3:fH ((jF p.boxes.xs point k b)[i]'hi) p.boxes.xs[i]:=h2.2 i hi bR;have h4:jl ((jF p.boxes.xs point k b)[i]'hi):=h1 _ (List.getElem_mem hi);have h5:=ok.box _ (List.getElem_mem bR);show jU (jF p.boxes.xs point k b)[i]=true;generalize (jF p.boxes.xs point k b)[i]=x at *;generalize p.boxes.xs[i]=y at *;unfold jU at *;simp only [Bool.and_eq_true,decide_eq_true_eq,aF] at *;unfold fH fG at h3;unfold jl at h4;omega
theorem zoH {l:List Box} {point k:Nat} {b:Box} (hw:Wf l) (hp:point < l.length) (h:zI l[point]! b k=true) (hs:∀ b∈l,b.x.hi - b.x.lo<=60/\b.y.hi - b.y.lo<=60):∀ b'∈jF l point k b,b'.x.hi - b'.x.lo<=60/\b'.y.hi - b'.y.lo<=60:=fun b' jR=>by
 obtain ⟨i,hi,rfl⟩:=List.mem_iff_getElem.1 jR;obtain ⟨h1,h2⟩:=UX hw hp h;have bR:i < l.length:=by rw [<- Px];exact hi
 have h3:=h2.2 i hi bR;have h5:=hs _ (List.getElem_mem bR);unfold fH fG at h3;omega
theorem zs3 {p:Problem} (ok:ae p) {point k:Nat} {b:Box} (hp:point < p.boxes.xs.length) (h:zI p.boxes.xs[point]! b k=true) {pts:List Pt} (hs:iG (aN p point k b) pts):iG p pts/\bO pts[point]! (jc p.boxes.xs[point]! b k):=by
 obtain ⟨h1,h2⟩:=UX (vI ok) hp h;have oC:mU p.facts.xs (jF p.boxes.xs point k b) pts:=hs
 refine ⟨zn3 h2 oC,?_⟩
 have sH:point < (jF p.boxes.xs point k b).length:=by rw [Px];exact hp
 have yj:point < pts.length:=by rw [oC.len];exact sH
 have:=oC.xK point yj sH;rw [getElem!_pos pts point yj]
 simpa [jF] using this
theorem zsa {p:Problem} (ok:ae p) {point k:Nat} {b:Box} (hp:point < p.boxes.xs.length) (hk:k < 4) (h:zI p.boxes.xs[point]! b k=true) (hh:nG p point b):¬ ∃ pts,iG (aN p point k b) pts:=fun ⟨pts,hs⟩=>by
 obtain ⟨h1,h2⟩:=zs3 ok hp h hs;have h3:=hh.all _ h1;generalize pts[point]! = x at *;generalize p.boxes.xs[point]! = c at *;unfold bO jc mG bz at *;have nW:k=0\/k=1\/k=2\/k=3:=by omega
 rcases nW with rfl|rfl|rfl|rfl<;>simp at h2<;>omega
theorem zrJ {p:Problem} (ok:ae p) {D:aZ} (h1:iD p D 0) (e1:D.empty=false) {point k:Nat} {b:Box} (hp:point < p.boxes.xs.length) (h:zI p.boxes.xs[point]! b k=true)
  {m:Nat->Nat} (hm:bV (pF (aN p point k b).facts.xs) (aN p point k b).boxes.xs.length m) {g:List Nat} (hg:g∈pG m (aN p point k b).boxes.xs.length) (qQ:EI (aN p point k b) g) (nX:iq (jF p.boxes.xs point k b)<=600) {x:Nat} (hx:iq (jF p.boxes.xs point k b) < x) :
  Xz (aN p point k b) (vL (aN p point k b) g x (aN p point k b).boxes.xs):=by
 have Gt:=XA ok hp h;obtain ⟨w,s⟩:=UX (vI ok) hp h;have hd:=MS hm (JC Gt);have lT:(aN p point k b).boxes.xs.length=p.boxes.xs.length:=Px ..;have Dp:(aN p point k b).boxes.xs=jF p.boxes.xs point k b:=rfl;have Yr:(aN p point k b).facts.xs=p.facts.xs:=rfl;obtain ⟨pts,hs⟩:∃ pts,iG p pts:=by
  have:=ziF ok h1;rw [e1] at this;exact Classical.byContradiction fun hc=>by simpa using this.2 hc
 have hpg:point∈g:=by
  refine Classical.byContradiction fun hc=>?_
  have yj:point < pts.length:=by rw [hs.len];exact hp
  refine qQ (pts.set point ⟨(jc p.boxes.xs[point]! b k).x.lo,(jc p.boxes.xs[point]! b k).y.lo⟩) ⟨by rw [lT,List.length_set];exact hs.len,fun i h1 h2=>?_,fun f hf=>?_⟩
  .have Hu:i < p.boxes.xs.length:=by rw [<- lT];exact h2
   have bR:i < (jF p.boxes.xs point k b).length:=by rw [Px];exact Hu
   have hw:=w _ (List.getElem_mem bR);show bO _ ((jF p.boxes.xs point k b)[i]'bR)
   by_cases e:point=i
   .subst e;have e1:(jF p.boxes.xs point k b)[point]'bR=jc p.boxes.xs[point]! b k:=by simp [jF]
    rw [e1] at hw ⊢;rw [List.getElem_set_self];unfold jl at hw;unfold bO;simp only;omega
   .have e1:(jF p.boxes.xs point k b)[i]'bR=p.boxes.xs[i]:=by
     simp only [jF];rw [List.getElem_set_ne e]
    rw [e1,List.getElem_set_ne e];exact hs.xK i (by simpa using h1) Hu
  .obtain ⟨IK,xR⟩:=bB.1 hf;have nN:=hd.within f IK g hg xR;have key:∀ j∈g,((pts.set point ⟨(jc p.boxes.xs[point]! b k).x.lo,(jc p.boxes.xs[point]! b k).y.lo⟩).map bT)[j]! = (pts.map bT)[j]! := fun j hj=>by
    have bJ:point≠j:=fun e=>hc (e ▸ hj);simp only [List.map_set,List.getElem!_eq_getElem?_getD,List.getElem?_set_ne bJ]
   rw [Jp ⟨key _ nN.a,key _ nN.b,fun h=>key _ (nN.c h)⟩];exact hs.facts f IK
 have mO:=Xy Gt hd hg qQ
 refine zog Gt hd hg qQ (zpz (p:=p) Gt hd hg hs lT (fun j hj BL=>?_) fun f' GR Ws=>hs.facts f' GR) (fun x hw EW fA=>?_) nX hx
 .have bJ:point≠j:=fun e=>BL (e ▸ hpg);rw [Dp];unfold jF;simp only [List.getElem!_eq_getElem?_getD,List.getElem?_set_ne bJ]
 .rw [lT] at hm hg;exact zlY ok h1 hm hg mO x hw (EW.trans s) fA
end Go.Proofs.YtmmhnfghklppiaaGreat.Vm
