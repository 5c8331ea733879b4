/- Few, boxes, ints, With and lies of the laws, walked. Few points: sums and volumes; the tree of Prove is small. Plain Lean. What lies beyond a side of a box; the trees of Extent are small. Plain Lean. -/
import Derived.Test.YtmmhnfghklppiaaGreatQk27
import Derived.Test.YtmmhnfghklppiaaGreatQk18
import Derived.Test.YtmmhnfghklppiaaGreatQk26
namespace Go.Proofs.YtmmhnfghklppiaaGreat.Vm
open Go
set_option linter.unusedSimpArgs false
set_option linter.unusedVariables false
set_option maxHeartbeats 4000000
set_option maxRecDepth 4000
def zgY (b:Box):Bool:=zay b&&(decide (60 < b.x.hi - b.x.lo)||decide (60 < b.y.hi - b.y.lo))
def fewB (p:Problem):Bool:=decide (p.boxes.xs.length<=5)&&decide (p.facts.xs.length<=16)&&p.boxes.xs.all fun b=>!zgY b
def zrb (l:List Box) (i:Nat):Prop:=∀ j (h:j < l.length),j < i->zgY l[j]=false
theorem sh10:G.shared 10=false:=by decide
theorem e10 (n:Nat) (p:Problem):zH G (n+3) 10 [.agg p.cells]=some (.bool (fewB p)):=by
 refine zy (zw _) rfl g10 rfl ?_
 obtain ⟨bs,fs⟩:=p;have hvd:Hide (∀ b:Box,∀ H,zG (zm G (n+2)) H (.pure (.func 37 [])) [.pure (.agg b.cells)]=some (.val (.pure (.bool (zay b))))):=⟨fun b H=>ze (caps:=[]) (ps:=[_]) sh37 (e37 n b)⟩
 by_cases h1:5 < bs.xs.length
 ·have h1I:(5:Int) < bs.xs.length:=by omega
  have hR:fewB ⟨bs,fs⟩=false:=by
   have:decide (bs.xs.length<=5)=false:=by simp;omega
   simp [fewB,this]
  rw [hR];(repeat' first|simp [*,za,c10,Problem.cells]|(apply zb<;>intro _ h<;>try simp [-Nat.le_zero_eq] at h))
 have h1I:¬ (5:Int) < bs.xs.length:=by omega
 by_cases h2:16 < fs.xs.length
 ·have h2I:(16:Int) < fs.xs.length:=by omega
  have hR:fewB ⟨bs,fs⟩=false:=by
   have:decide (fs.xs.length<=16)=false:=by simp;omega
   simp [fewB,this]
  rw [hR];(repeat' first|simp [*,za,c10,Problem.cells]|(apply zb<;>intro _ h<;>try simp [-Nat.le_zero_eq] at h))
 have h2I:¬ (16:Int) < fs.xs.length:=by omega
 have hRe:Hide (fewB ⟨bs,fs⟩=bs.xs.all fun b=>!zgY b):=⟨by
  have a1:decide (bs.xs.length<=5)=true:=by simp;omega
  have a2:decide (fs.xs.length<=16)=true:=by simp;omega
  simp [fewB,a1,a2]⟩
 generalize hR:fewB ⟨bs,fs⟩=R;rw [hR] at hRe;clear hR;(repeat' first|simp [*,za,c10,Problem.cells]|(apply zb<;>intro _ h<;>try simp [-Nat.le_zero_eq] at h))
 refine zF [(2,5),(16,50)] (fun (i:Nat) env H=>env 3=.pure (.int .i64 i)/\i<=bs.xs.length/\Hide (zrb bs.xs i)) (fun i=>bs.xs.length - i) 0 ?_ ?_ ?_ ?_
 ·decide
 ·exact ⟨by simp,by omega,⟨fun _ _ h=>by omega⟩⟩
 ·simp only [zA];omega
 rintro i env H ⟨g3,hi,hn⟩
 by_cases hlt:i < bs.xs.length
 ·have w1:IntKind.i64.wrap ((i:Int)+1)=(i+1:Nat):=by rw [wrap64 (by omega) (by omega)];omega
  have hltI:(i:Int) < bs.xs.length:=by omega
  have c1:=hvd.h bs.xs[i];simp only [Box.cells,Span.cells] at c1
  by_cases hw:zgY bs.xs[i]=true
  ·have hRf:R=false:=by
    rw [hRe.h,List.all_eq_false];exact ⟨_,List.getElem_mem hlt,by simp [hw]⟩
   subst hRf;unfold zgY at hw;rw [Bool.and_eq_true,Bool.or_eq_true,decide_eq_true_eq,decide_eq_true_eq] at hw;obtain ⟨hv,hw⟩:=hw;have hvv:=valid_iff.1 hv;have x1:IntKind.i64.wrap (bs.xs[i].x.hi - bs.xs[i].x.lo)=bs.xs[i].x.hi - bs.xs[i].x.lo:=wrap64 (by omega) (by omega);have x2:IntKind.i64.wrap (bs.xs[i].y.hi - bs.xs[i].y.lo)=bs.xs[i].y.hi - bs.xs[i].y.lo:=wrap64 (by omega) (by omega);rw [hv] at c1;clear hRe hn hvv hv hvd
   by_cases hx:60 < bs.xs[i].x.hi - bs.xs[i].x.lo
   ·clear hw;(repeat' first|simp [*,za,Box.cells,Span.cells]|(apply zb<;>intro _ h<;>try simp [-Nat.le_zero_eq] at h))
   ·have hy:60 < bs.xs[i].y.hi - bs.xs[i].y.lo:=by omega
    clear hw;(repeat' first|simp [*,za,Box.cells,Span.cells]|(apply zb<;>intro _ h<;>try simp [-Nat.le_zero_eq] at h))
  ·have hw':zgY bs.xs[i]=false:=by simpa using hw
   have hn':Hide (zrb bs.xs (i+1)):=⟨fun j h hj=>by
    by_cases e:j=i
    ·subst e;exact hw'
    ·exact hn.h j h (by omega)⟩
   clear hw hn;unfold zgY at hw'
   cases hv:zay bs.xs[i] with
   | false =>
    rw [hv] at c1;clear hw' hRe hvd hv;(repeat' first|simp [*,za,Box.cells,Span.cells]|(apply zb<;>intro _ h<;>try simp [-Nat.le_zero_eq] at h));exact ⟨i+1,by omega,by omega,by omega,hn'⟩
   | true =>
    rw [hv] at hw' c1;rw [Bool.true_and,Bool.or_eq_false_iff,decide_eq_false_iff_not,decide_eq_false_iff_not] at hw';obtain ⟨hx,hy⟩:=hw';have hvv:=valid_iff.1 hv;have x1:IntKind.i64.wrap (bs.xs[i].x.hi - bs.xs[i].x.lo)=bs.xs[i].x.hi - bs.xs[i].x.lo:=wrap64 (by omega) (by omega);have x2:IntKind.i64.wrap (bs.xs[i].y.hi - bs.xs[i].y.lo)=bs.xs[i].y.hi - bs.xs[i].y.lo:=wrap64 (by omega) (by omega);clear hRe hvv hv hvd;(repeat' first|simp [*,za,Box.cells,Span.cells]|(apply zb<;>intro _ h<;>try simp [-Nat.le_zero_eq] at h));exact ⟨i+1,by omega,by omega,by omega,hn'⟩
 ·have hiN:i=bs.xs.length:=by omega
  subst hiN;have hRt:R=true:=by
   rw [hRe.h,List.all_eq_true];intro b hb;obtain ⟨j,hj,rfl⟩:=List.mem_iff_getElem.1 hb;rw [hn.h j hj hj];rfl
  subst hRt;clear hn hRe hvd;(repeat' first|simp [*,za]|(apply zb<;>intro _ h<;>try simp [-Nat.le_zero_eq] at h))
structure FewP (p:Problem):Prop where
 nb:p.boxes.xs.length<=5
 nf:p.facts.xs.length<=16
 side:∀ b∈p.boxes.xs,b.x.hi - b.x.lo<=60/\b.y.hi - b.y.lo<=60
theorem zrw {p:Problem} (ok:CheckOk p) (h:fewB p=true):FewP p:=by
 unfold fewB at h;simp only [Bool.and_eq_true,decide_eq_true_eq,List.all_eq_true,Bool.not_eq_true'] at h
 refine ⟨h.1.1,h.1.2,fun b hb=>?_⟩
 have h1:=h.2 b hb;unfold zgY at h1;rw [ok.valid b hb] at h1;simp only [Bool.true_and,Bool.or_eq_false_iff,decide_eq_false_iff_not] at h1;omega
theorem FewP.mu {l:List Box} (hn:l.length<=5) (hs:∀ b∈l,b.x.hi - b.x.lo<=60/\b.y.hi - b.y.lo<=60):muL l<=600:=by
 have h:∀ (l:List Box),(∀ b∈l,b.x.hi - b.x.lo<=60/\b.y.hi - b.y.lo<=60)->muL l<=120*l.length:=by
  intro l
  induction l with
  | nil=>intro _;simp [muL]
  | cons a l ih =>
   intro hh;have h1:=ih fun b hb=>hh b (List.mem_cons_of_mem _ hb);have h2:=hh a List.mem_cons_self;unfold muL at *;simp only [List.map_cons,List.sum_cons,List.length_cons];have:muB a<=120:=by unfold muB;omega
   omega
 have:=h l hs;omega
theorem zoa {l:List Box} (hs:∀ b∈l,b.x.hi - b.x.lo<=60/\b.y.hi - b.y.lo<=60):∀ {g:List Nat},(∀ i∈g,i < l.length)->volN l g<=3721 ^ g.length
 | [],_=>Nat.le_refl _
 | i::g,h=>by
  have hi:=h i List.mem_cons_self;have h1:=zoa hs (g:=g) fun j hj=>h j (List.mem_cons_of_mem _ hj);have h2:=hs _ (List.getElem_mem hi);simp only [volN,List.length_cons];rw [getElem!_pos l i hi,Nat.pow_succ,Nat.mul_comm]
  refine Nat.mul_le_mul h1 ?_
  unfold zbQ;have a1:(l[i].x.hi - l[i].x.lo+1).toNat<=61:=by omega
  have a2:(l[i].y.hi - l[i].y.lo+1).toNat<=61:=by omega
  show _<=61*61;exact Nat.mul_le_mul a1 a2
theorem zo3 {g:List Nat} {n:Nat} (hn:g.Nodup) (hl:∀ i∈g,i < n):g.length<=n:=by
 have:=zfW g (List.range n) hn fun x hx=>List.mem_range.2 (hl x hx);rwa [List.length_range] at this
theorem FewP.vol {l:List Box} (hn:l.length<=5) (hs:∀ b∈l,b.x.hi - b.x.lo<=60/\b.y.hi - b.y.lo<=60) {g:List Nat} (hg:g.Nodup) (hl:∀ i∈g,i < l.length):volN l g<=1000000000000000000:=by
 have h1:=zoa hs hl;have h2:=zo3 hg hl;have h3:3721 ^ g.length<=3721 ^ 5:=Nat.pow_le_pow_right (by decide) (by omega);have h4:3721 ^ 5<=1000000000000000000:=by decide
 omega
theorem zlV {l:List Box} (hw:Wf l):∀ {g:List Nat},(∀ i∈g,i < l.length)->(allC l g).length=volN l g
 | [],_=>rfl
 | i::g,h=>by
  have hi:=h i List.mem_cons_self;rw [zgZ,zlV hw fun j hj=>h j (List.mem_cons_of_mem _ hj)];simp only [volN];have:=zeG (hw _ (List.getElem_mem hi));have h2:=ziw (hw _ (List.getElem_mem hi));rw [getElem!_pos l i hi]
  congr 1
  omega
theorem zrf {fs:List Fact} {l m:List Box} (hw:Wf l) (hs:SubL l m) {g:List Nat} (hl:∀ i∈g,i < l.length):(zaj fs l g).length<=volN m g:=by
 have h1:=zlj (okK fs g) l g 0 l;have h2:=zlV hw hl;have h3:=zkx hs hl;unfold zaj;omega
theorem zlH {p:Problem} (ok:CheckOk p) {D:FoundD} (h:FindOut p D 0) {m:Nat->Nat} (hm:IsCls (zaw p.facts.xs) p.boxes.xs.length m) {g:List Nat} (hg:g∈zad m p.boxes.xs.length) (h1:1 < g.length) :
  ∀ x,Wf x->SubL x p.boxes.xs->Stable zah p.facts.xs x->volN x g<=65536:=fun x hw hs hst=>by
 have hlt:∀ i∈g,i < p.boxes.xs.length:=((zb7 hm (zbe ok)).one g hg).2;rcases h with ⟨hr,_,_⟩|⟨l,m',hr,hm',h⟩
 ·exact absurd hst (hr x hw hs)
 ·have e2:=zen (hm.unique hm');rcases h with ⟨_,_,h⟩|⟨hv,_,_⟩
  ·omega
  ·rw [<- e2] at hv;have hlen:l.length=p.boxes.xs.length:=hr.1.sub.1;have hvp:volP l g<=65536:=Int.le_trans (zh8 hg) hv;have h2:=zqq hr.1.wf (fun i hi=>by rw [hlen];exact hlt i hi) h1 hvp;have h3:=zkx (hr.1.all x hw hs hst) (g:=g) fun i hi=>by rw [hs.1];exact hlt i hi
   omega
def zgK (q:Problem) (t:List Node):Prop:=zcL q.facts.xs q.boxes.xs t=true/\t.length<=262144
theorem zin {q:Problem} (ok:CheckOk q) {gs:List (List Nat)} (hd:IsDiv q.facts.xs q.boxes.xs.length gs) {g:List Nat} (hg:g∈gs) (hno:zdC q g) {pts:List Pt} (hb:BesideP q g pts)
  (hv:∀ m,Wf m->SubL m q.boxes.xs->Stable zah q.facts.xs m->volN m g<=65536) {m:Nat} (hmu:muL q.boxes.xs<=600) (hm:muL q.boxes.xs < m):zgK q (zbB q g m q.boxes.xs):=by
 obtain ⟨r,hr⟩:=zkv (zlK ok g) (zbx ok);have hbig:=zgw ok hd hg hno;have hne:g≠[]:=fun e=>by rw [e] at hbig;simp at hbig
 obtain ⟨h1,h2⟩:=zpZ ok hd hg hne hno hr hm;have h3:=zpg ok hd hg hr hb hv;exact ⟨zp8 h1,by omega⟩
theorem zng {q:Problem} (ok:CheckOk q) {m:Nat->Nat} (hm:IsCls (zaw q.facts.xs) q.boxes.xs.length m) (hno:¬ ∃ pts,Solv q pts):∃ g∈zad m q.boxes.xs.length,zdC q g:=by
 refine Classical.byContradiction fun hc=>hno (zsj ok (zb7 hm (zbe ok)) fun g hg h=>hc ⟨g,hg,h⟩)
theorem zmC {p:Problem} {f:Fact} {D1 D3:FoundD} (h0:zM p f=0) (h1:FindOut p D1 0) (e1:D1.empty=false) (h3:FindOut (zas p f true) D3 0) {m:Nat->Nat} (hm:IsCls (zaw (zas p f true).facts.xs) (zas p f true).boxes.xs.length m)
  {g:List Nat} (hg:g∈zad m (zas p f true).boxes.xs.length) (hno:zdC (zas p f true) g) (hmu:muL p.boxes.xs<=600) {k:Nat} (hk:muL p.boxes.xs < k):zgK (zas p f true) (zbB (zas p f true) g k (zas p f true).boxes.xs):=by
 obtain ⟨ok,okq,hf⟩:=zbV (t:=true) h0;have hd:=zb7 hm (zbe okq);obtain ⟨pts,hs⟩:∃ pts,Solv p pts:=by
  have:=zb0 ok h1;rw [e1] at this;exact Classical.byContradiction fun hc=>by simpa using this.2 hc
 have hfg:f.a.toNat∈g:=by
  refine Classical.byContradiction fun hc=>hno pts ⟨hs.len,hs.inn,fun f' hf'=>?_⟩
  obtain ⟨h1,h2⟩:=mem_oneF.1 hf';have h1':f'∈p.facts.xs++[zdg f true]:=h1;rcases List.mem_append.1 h1' with h|h
  ·exact hs.facts f' h
  ·simp only [List.mem_singleton] at h;rw [h] at h2;exact absurd h2 hc
 refine zin okq hd hg hno (zjj (p:=p) okq hd hg hs rfl (fun _ _ _=>rfl) fun f' hf' hng=>?_) (zlH okq h3 hm hg (zgw okq hd hg hno)) hmu hk
 have h1':f'∈p.facts.xs++[zdg f true]:=hf';rcases List.mem_append.1 h1' with h|h
 ·exact hs.facts f' h
 ·simp only [List.mem_singleton] at h;rw [h] at hng;exact absurd hfg hng
def beyB (c b:Box) (k:Nat):Box:=putS c (k / 2) (if k % 2=0 then ⟨(axS c (k / 2)).lo,min (axS c (k / 2)).hi ((axS b (k / 2)).lo - 1)⟩ else ⟨max (axS c (k / 2)).lo ((axS b (k / 2)).hi+1),(axS c (k / 2)).hi⟩)
def zV (c b:Box) (k:Nat):Bool:=decide ((axS (beyB c b k) (k / 2)).lo<=(axS (beyB c b k) (k / 2)).hi)
def beyL (l:List Box) (point:Nat) (k:Nat) (b:Box):List Box:=l.set point (beyB l[point]! b k)
def beyP (p:Problem) (point k:Nat) (b:Box):Problem:=⟨.mk false (beyL p.boxes.xs point k b),p.facts⟩
theorem ztO {c b:Box} {k:Nat} (hw:wfB c) (h:zV c b k=true):wfB (beyB c b k)/\subB (beyB c b k) c:=by
 unfold zV at h;rw [decide_eq_true_eq] at h;unfold beyB wfB subB subS putS axS at *
 by_cases e:k / 2=0
 ·by_cases e2:k % 2=0
  ·simp only [e,e2,if_true] at *;omega
  ·simp only [e,e2,if_true,if_false] at *;omega
 ·by_cases e2:k % 2=0
  ·simp only [e,e2,if_true,if_false] at *;omega
  ·simp only [e,e2,if_false] at *;omega
theorem zey (l:List Box) (point k:Nat) (b:Box):(beyL l point k b).length=l.length:=by simp [beyL]
theorem zhl {l:List Box} {point k:Nat} {b:Box} (hw:Wf l) (hp:point < l.length) (h:zV l[point]! b k=true):Wf (beyL l point k b)/\SubL (beyL l point k b) l:=by
 have hw':=hw _ (List.getElem_mem hp);unfold beyL;rw [getElem!_pos l point hp] at h ⊢;obtain ⟨h1,h2⟩:=ztO hw' h;have h3:=(SubL.refl l).set (i:=point) h2;rw [List.set_getElem_self] at h3;exact ⟨hw.set h1,h3⟩
theorem zmS {p:Problem} (ok:CheckOk p) {point k:Nat} {b:Box} (hp:point < p.boxes.xs.length) (h:zV p.boxes.xs[point]! b k=true):CheckOk (beyP p point k b):=by
 obtain ⟨h1,h2⟩:=zhl (zbx ok) hp h;have hl:(beyP p point k b).boxes.xs.length=p.boxes.xs.length:=zey ..
 refine ⟨by rw [hl];exact ok.nb,ok.nf,fun c hc=>?_,fun f hf=>by rw [hl];exact ok.fact f hf⟩
 obtain ⟨i,hi,rfl⟩:=List.mem_iff_getElem.1 hc;have hi':i < p.boxes.xs.length:=by rw [<- hl];exact hi
 have h3:subB ((beyL p.boxes.xs point k b)[i]'hi) p.boxes.xs[i]:=h2.2 i hi hi';have h4:wfB ((beyL p.boxes.xs point k b)[i]'hi):=h1 _ (List.getElem_mem hi);have h5:=ok.box _ (List.getElem_mem hi');show boxB (beyL p.boxes.xs point k b)[i]=true;generalize (beyL p.boxes.xs point k b)[i]=x at *;generalize p.boxes.xs[i]=y at *;unfold boxB at *;simp only [Bool.and_eq_true,decide_eq_true_eq,valid_iff] at *;unfold subB subS at h3;unfold wfB at h4;omega
theorem zoH {l:List Box} {point k:Nat} {b:Box} (hw:Wf l) (hp:point < l.length) (h:zV l[point]! b k=true) (hs:∀ b∈l,b.x.hi - b.x.lo<=60/\b.y.hi - b.y.lo<=60):∀ b'∈beyL l point k b,b'.x.hi - b'.x.lo<=60/\b'.y.hi - b'.y.lo<=60:=fun b' hb'=>by
 obtain ⟨i,hi,rfl⟩:=List.mem_iff_getElem.1 hb';obtain ⟨h1,h2⟩:=zhl hw hp h;have hi':i < l.length:=by rw [<- zey];exact hi
 have h3:=h2.2 i hi hi';have h5:=hs _ (List.getElem_mem hi');unfold subB subS at h3;omega
theorem zrV {p:Problem} (ok:CheckOk p) {point k:Nat} {b:Box} (hp:point < p.boxes.xs.length) (h:zV p.boxes.xs[point]! b k=true) {pts:List Pt} (hs:Solv (beyP p point k b) pts):Solv p pts/\inB' pts[point]! (beyB p.boxes.xs[point]! b k):=by
 obtain ⟨h1,h2⟩:=zhl (zbx ok) hp h;have hs':IsSol p.facts.xs (beyL p.boxes.xs point k b) pts:=hs
 refine ⟨zmE h2 hs',?_⟩
 have hpl:point < (beyL p.boxes.xs point k b).length:=by rw [zey];exact hp
 have hpp:point < pts.length:=by rw [hs'.len];exact hpl
 have:=hs'.inn point hpp hpl;rw [getElem!_pos pts point hpp]
 simpa [beyL] using this
theorem zqE {p:Problem} (ok:CheckOk p) {point k:Nat} {b:Box} (hp:point < p.boxes.xs.length) (hk:k < 4) (h:zV p.boxes.xs[point]! b k=true) (hh:HullAt p point b):¬ ∃ pts,Solv (beyP p point k b) pts:=fun ⟨pts,hs⟩=>by
 obtain ⟨h1,h2⟩:=zrV ok hp h hs;have h3:=hh.all _ h1;generalize pts[point]! = x at *;generalize p.boxes.xs[point]! = c at *;unfold inB' beyB putS axS at *;have hk4:k=0\/k=1\/k=2\/k=3:=by omega
 rcases hk4 with rfl|rfl|rfl|rfl<;>simp at h2<;>omega
theorem zqB {p:Problem} (ok:CheckOk p) {D:FoundD} (h1:FindOut p D 0) (e1:D.empty=false) {point k:Nat} {b:Box} (hp:point < p.boxes.xs.length) (h:zV p.boxes.xs[point]! b k=true)
  {m:Nat->Nat} (hm:IsCls (zaw (beyP p point k b).facts.xs) (beyP p point k b).boxes.xs.length m) {g:List Nat} (hg:g∈zad m (beyP p point k b).boxes.xs.length) (hno:zdC (beyP p point k b) g) (hmu:muL (beyL p.boxes.xs point k b)<=600) {x:Nat} (hx:muL (beyL p.boxes.xs point k b) < x) :
  zgK (beyP p point k b) (zbB (beyP p point k b) g x (beyP p point k b).boxes.xs):=by
 have okq:=zmS ok hp h;obtain ⟨w,s⟩:=zhl (zbx ok) hp h;have hd:=zb7 hm (zbe okq);have hbl:(beyP p point k b).boxes.xs.length=p.boxes.xs.length:=zey ..;have hbx:(beyP p point k b).boxes.xs=beyL p.boxes.xs point k b:=rfl;have hfx:(beyP p point k b).facts.xs=p.facts.xs:=rfl;obtain ⟨pts,hs⟩:∃ pts,Solv p pts:=by
  have:=zb0 ok h1;rw [e1] at this;exact Classical.byContradiction fun hc=>by simpa using this.2 hc
 have hpg:point∈g:=by
  refine Classical.byContradiction fun hc=>?_
  have hpp:point < pts.length:=by rw [hs.len];exact hp
  refine hno (pts.set point ⟨(beyB p.boxes.xs[point]! b k).x.lo,(beyB p.boxes.xs[point]! b k).y.lo⟩) ⟨by rw [hbl,List.length_set];exact hs.len,fun i h1 h2=>?_,fun f hf=>?_⟩
  ·have h2':i < p.boxes.xs.length:=by rw [<- hbl];exact h2
   have hi':i < (beyL p.boxes.xs point k b).length:=by rw [zey];exact h2'
   have hw:=w _ (List.getElem_mem hi');show inB' _ ((beyL p.boxes.xs point k b)[i]'hi')
   by_cases e:point=i
   ·subst e;have e1:(beyL p.boxes.xs point k b)[point]'hi'=beyB p.boxes.xs[point]! b k:=by simp [beyL]
    rw [e1] at hw ⊢;rw [List.getElem_set_self];unfold wfB at hw;unfold inB';simp only;omega
   ·have e1:(beyL p.boxes.xs point k b)[i]'hi'=p.boxes.xs[i]:=by
     simp only [beyL];rw [List.getElem_set_ne e]
    rw [e1,List.getElem_set_ne e];exact hs.inn i (by simpa using h1) h2'
  ·obtain ⟨hff,hfg⟩:=mem_oneF.1 hf;have hwi:=hd.within f hff g hg hfg;have key:∀ j∈g,((pts.set point ⟨(beyB p.boxes.xs[point]! b k).x.lo,(beyB p.boxes.xs[point]! b k).y.lo⟩).map atB)[j]! = (pts.map atB)[j]! := fun j hj=>by
    have hne:point≠j:=fun e=>hc (e ▸ hj);simp only [List.map_set,List.getElem!_eq_getElem?_getD,List.getElem?_set_ne hne]
   rw [za4 ⟨key _ hwi.a,key _ hwi.b,fun h=>key _ (hwi.c h)⟩];exact hs.facts f hff
 have hbig:=zgw okq hd hg hno
 refine zin okq hd hg hno (zjj (p:=p) okq hd hg hs hbl (fun j hj hjg=>?_) fun f' hf' hng=>hs.facts f' hf') (fun x hw hxs hst=>?_) hmu hx
 ·have hne:point≠j:=fun e=>hjg (e ▸ hpg);rw [hbx];unfold beyL;simp only [List.getElem!_eq_getElem?_getD,List.getElem?_set_ne hne]
 ·rw [hbl] at hm hg;exact zlH ok h1 hm hg hbig x hw (hxs.trans s) hst
end Go.Proofs.YtmmhnfghklppiaaGreat.Vm
