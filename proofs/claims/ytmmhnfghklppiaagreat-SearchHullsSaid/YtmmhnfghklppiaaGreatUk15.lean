/- What facts say of boxes: plain Lean. Parts: which points are connected by facts. Plain Lean. Choices of points of a part, and those that are solutions. Plain Lean. What a fact says of boxes, and of all points in them: plain Lean. The specification's ways to the same values: plain Lean. -/
import Derived.Test.YtmmhnfghklppiaaGreatUk8
namespace Go.Proofs.YtmmhnfghklppiaaGreat.Vm
open Go
set_option linter.unusedSimpArgs false
set_option linter.unusedVariables false
set_option maxHeartbeats 4000000
def rD (a b:Span):Span:=⟨a.lo - b.hi,a.hi - b.lo⟩
def zB (s:Span):Span:=if 0<=s.lo then s else if s.hi<=0 then ⟨-s.hi,-s.lo⟩ else ⟨0,max (-s.lo) s.hi⟩
def oJ (a b c:Pt):Int:=(b.x - a.x)*(c.y - a.y) - (b.y - a.y)*(c.x - a.x)
def zO (b:Box):List Pt:=[⟨b.x.lo,b.y.lo⟩,⟨b.x.lo,b.y.hi⟩,⟨b.x.hi,b.y.lo⟩,⟨b.x.hi,b.y.hi⟩]
def pE (a b c:Box):List Int:=(zO a).flatMap fun p=>(zO b).flatMap fun q=>(zO c).map fun r=>oJ p q r
def Va:List Int->Int
 | []=>0
 | a::l=>l.foldl min a
def Vb:List Int->Int
 | []=>0
 | a::l=>l.foldl max a
def sJ (a b c:Box):Span:=⟨Va (pE a b c),Vb (pE a b c)⟩
structure mE (T:Int->Prop) (v:Span):Prop where
 bound:∀ t,T t->v.lo<=t/\t<=v.hi
 lo:T v.lo
 hi:T v.hi
theorem mE.unique {T:Int->Prop} {v w:Span} (h:mE T v) (h':mE T w):v=w:=by
 have h1:=h.bound _ h'.lo;have h2:=h.bound _ h'.hi;have h3:=h'.bound _ h.lo;have h4:=h'.bound _ h.hi;obtain ⟨a,b⟩:=v;obtain ⟨c,d⟩:=w;simp only [Span.mk.injEq] at *;omega
theorem zkk:∀ (l:List Int) (a:Int),(l.foldl min a=a\/l.foldl min a∈l)/\l.foldl min a<=a/\∀ t∈l,l.foldl min a<=t
 | [],a=>by simp
 | b::l,a=>by
  obtain ⟨h1,h2,h3⟩:=zkk l (min a b);simp only [List.foldl_cons]
  refine ⟨?_,by omega,fun t ht=>?_⟩
  .rcases h1 with h1|h1
   .rw [h1]
    by_cases h:a<=b
    .left;omega
    .right;rw [show min a b=b by omega];exact List.mem_cons_self ..
   .right;exact List.mem_cons_of_mem _ h1
  .rcases List.mem_cons.1 ht with rfl|ht
   .omega
   .exact h3 t ht
theorem zjT:∀ (l:List Int) (a:Int),(l.foldl max a=a\/l.foldl max a∈l)/\a<=l.foldl max a/\∀ t∈l,t<=l.foldl max a
 | [],a=>by simp
 | b::l,a=>by
  obtain ⟨h1,h2,h3⟩:=zjT l (max a b);simp only [List.foldl_cons]
  refine ⟨?_,by omega,fun t ht=>?_⟩
  .rcases h1 with h1|h1
   .rw [h1]
    by_cases h:b<=a
    .left;omega
    .right;rw [show max a b=b by omega];exact List.mem_cons_self ..
   .right;exact List.mem_cons_of_mem _ h1
  .rcases List.mem_cons.1 ht with rfl|ht
   .omega
   .exact h3 t ht
theorem zmQ {l:List Int} (h:l≠[]):mE (·∈l) ⟨Va l,Vb l⟩:=by
 cases l with
 | nil=>exact absurd rfl h
 | cons a l =>
  obtain ⟨m1,m2,m3⟩:=zkk l a;obtain ⟨x1,x2,x3⟩:=zjT l a
  refine ⟨fun t ht=>?_,?_,?_⟩
  .rcases List.mem_cons.1 ht with rfl|ht
   .exact ⟨m2,x2⟩
   .exact ⟨m3 t ht,x3 t ht⟩
  .rcases m1 with h|h
   .show l.foldl min a∈_;rw [h];exact List.mem_cons_self ..
   .exact List.mem_cons_of_mem _ h
  .rcases x1 with h|h
   .show l.foldl max a∈_;rw [h];exact List.mem_cons_self ..
   .exact List.mem_cons_of_mem _ h
theorem zqY (a b c:Box):pE a b c≠[]:=by simp [pE,zO]
theorem Vd (a b c:Box):mE (·∈pE a b c) (sJ a b c):=zmQ (zqY a b c)
def bF (p:Pt) (b:Box):Prop:=b.x.lo<=p.x/\p.x<=b.x.hi/\b.y.lo<=p.y/\p.y<=b.y.hi
theorem zon (α β lo hi x m M:Int) (h1:lo<=x) (h2:x<=hi) (a1:m<=α * lo + β) (a2:m<=α * hi + β) (b1:α * lo + β<=M) (b2:α * hi + β<=M):m<=α * x + β/\α * x + β<=M:=by
 by_cases h:0<=α
 .have h3:=Int.mul_le_mul_of_nonneg_left h1 h;have h4:=Int.mul_le_mul_of_nonneg_left h2 h;omega
 .have h3:=Int.mul_le_mul_of_nonpos_left (a:=α) (by omega) h1;have h4:=Int.mul_le_mul_of_nonpos_left (a:=α) (by omega) h2;omega
theorem zk9 {a b c:Box} {p q r:Pt} (hp:bF p a) (hq:bF q b) (hr:bF r c):(sJ a b c).lo<=oJ p q r/\oJ p q r<=(sJ a b c).hi:=by
 have hb:=(Vd a b c).bound;generalize (sJ a b c).lo=m at *;generalize (sJ a b c).hi=M at *;have h0:∀ p∈zO a,∀ q∈zO b,∀ r∈zO c,m<=oJ p q r/\oJ p q r<=M:=fun p hp q hq r hr =>
  hb _ (List.mem_flatMap.2 ⟨p,hp,List.mem_flatMap.2 ⟨q,hq,List.mem_map.2 ⟨r,hr,rfl⟩⟩⟩)
 -- from Yu to all points,one point at a time
 have one:∀ (f:Pt->Int) (b:Box) (α β γ:Int),(∀ p,f p=α * p.x + β * p.y + γ)->(∀ p∈zO b,m<=f p/\f p<=M)->∀ p,bF p b->m<=f p/\f p<=M:=by
  intro f b α β γ hf hc p hp;have e1:=hc ⟨b.x.lo,b.y.lo⟩ (by simp [zO]);have e2:=hc ⟨b.x.lo,b.y.hi⟩ (by simp [zO]);have e3:=hc ⟨b.x.hi,b.y.lo⟩ (by simp [zO]);have e4:=hc ⟨b.x.hi,b.y.hi⟩ (by simp [zO]);rw [hf] at e1 e2 e3 e4 ⊢;simp only at e1 e2 e3 e4;obtain ⟨p1,p2,p3,p4⟩:=hp;have g1:=zon α (β * b.y.lo + γ) b.x.lo b.x.hi p.x m M p1 p2 (by omega) (by omega) (by omega) (by omega);have g2:=zon α (β * b.y.hi + γ) b.x.lo b.x.hi p.x m M p1 p2 (by omega) (by omega) (by omega) (by omega);have g3:=zon β (α * p.x + γ) b.y.lo b.y.hi p.y m M p3 p4 (by omega) (by omega) (by omega) (by omega);omega
 have h1:∀ p∈zO a,∀ q∈zO b,∀ r,bF r c->m<=oJ p q r/\oJ p q r<=M:=fun p hp q hq =>
  one (fun r=>oJ p q r) c (-(q.y - p.y)) (q.x - p.x) ((q.y - p.y)*p.x - (q.x - p.x)*p.y) (fun r=>by unfold oJ;grind) (fun r hr=>h0 p hp q hq r hr)
 have h2:∀ p∈zO a,∀ q,bF q b->∀ r,bF r c->m<=oJ p q r/\oJ p q r<=M:=fun p hp q hq r hr =>
  one (fun q=>oJ p q r) b (r.y - p.y) (-(r.x - p.x)) (p.y*(r.x - p.x) - p.x*(r.y - p.y)) (fun q=>by unfold oJ;grind) (fun q hq=>h1 p hp q hq r hr) q hq
 exact one (fun p=>oJ p q r) a (q.y - r.y) (r.x - q.x) (q.x*r.y - q.y*r.x) (fun p=>by unfold oJ;grind) (fun p hp=>h2 p hp q hq r hr) p hp
theorem zhc {a b:Box} (h:fD a b) (ha:ja a) {p:Pt} (hp:p∈zO a):bF p b:=by
 unfold fD fC ja at *;simp only [zO,List.mem_cons,List.not_mem_nil,or_false] at hp;unfold bF;rcases hp with rfl|rfl|rfl|rfl<;>simp only<;>omega
theorem zrV {a b c a' b' c':Box} (ha:fD a' a) (hb:fD b' b) (hc:fD c' c) (wa:ja a') (wb:ja b') (wc:ja c'):fC (sJ a' b' c') (sJ a b c):=by
 have h:=Vd a' b' c';have key:∀ t∈pE a' b' c',(sJ a b c).lo<=t/\t<=(sJ a b c).hi:=fun t ht=>by
  obtain ⟨p,hp,ht⟩:=List.mem_flatMap.1 ht;obtain ⟨q,hq,ht⟩:=List.mem_flatMap.1 ht;obtain ⟨r,hr,rfl⟩:=List.mem_map.1 ht;exact zk9 (zhc ha wa hp) (zhc hb wb hq) (zhc hc wc hr)
 exact ⟨(key _ h.lo).1,(key _ h.hi).2⟩
def zS (s v:Span):Bool×Bool:=(decide (v.lo<=s.hi)&&decide (s.lo<=v.hi),decide (s.lo<=v.lo)&&decide (v.hi<=s.hi))
def Bq (x y:Span):Span:=⟨x.lo*x.lo+y.lo*y.lo,x.hi*x.hi+y.hi*y.hi⟩
def mK (q:Int) (x y:Span):Span×Span:=if q=1 then (y,x) else if q=2 then (⟨-x.hi,-x.lo⟩,y) else if q=3 then (⟨-y.hi,-y.lo⟩,x) else (x,y)
def Gh (u w:Span):Bool×Bool:=(decide (0 < u.hi)&&decide ((zB w).lo<=u.hi),decide (0 < u.lo)&&decide ((zB w).hi<=u.lo))
def Gi (s x y:Span):Bool×Bool:=(decide (max x.lo y.lo<=s.hi),decide (max x.hi y.hi<=s.hi))
def D7 (f:Fact) (l:List Box):Bool×Bool :=
 let a:=l[f.a.toNat]!
 let b:=l[f.b.toNat]!
 let x:=rD b.x a.x
 let y:=rD b.y a.y
 if f.kind=2 then zS f.span (sJ a b l[f.c.toNat]!)
 else if f.kind=3 then Gh (mK f.quarter x y).1 (mK f.quarter x y).2
 else if f.kind=4 then Gi f.span (zB x) (zB y)
 else if f.kind=5 then zS f.span x
 else if f.kind=6 then zS f.span y
 else zS f.span (Bq (zB x) (zB y))
def zD (f:Fact) (l:List Box):Bool:=if f.nt=true then (D7 f l).2 else !(D7 f l).1
structure Named (f:Fact) (n:Nat):Prop where
 a:0<=f.a/\f.a < n
 b:0<=f.b/\f.b < n
 c:0<=f.c/\f.c < n
def tight (r s:Bool×Bool):Prop:=(r.1=true->s.1=true)/\(s.2=true->r.2=true)
theorem Yv {s v w:Span} (h:fC v w):tight (zS s v) (zS s w):=by
 unfold tight zS fC at *;simp only [Bool.and_eq_true,decide_eq_true_eq];omega
theorem zlA {a b a' b':Span} (ha:fC a' a) (hb:fC b' b):fC (rD a' b') (rD a b):=by
 unfold fC rD at *;simp only;omega
theorem Yw {a b:Span} (ha:a.lo<=a.hi) (hb:b.lo<=b.hi):(rD a b).lo<=(rD a b).hi:=by unfold rD;simp only;omega
theorem zf1 {s t:Span} (h:fC s t) (hs:s.lo<=s.hi):fC (zB s) (zB t):=by
 unfold fC zB at *
 split<;>split<;>(try split)<;>(try split)<;>(try simp only at *)<;>omega
theorem Yx {s:Span} (hs:s.lo<=s.hi):0<=(zB s).lo/\(zB s).lo<=(zB s).hi:=by
 unfold zB
 split
 .exact ⟨by assumption,hs⟩
 .split<;>(simp only;omega)
theorem zqE {x y x' y':Span} (hx:fC x' x) (hy:fC y' y) (h1:0<=x.lo) (h2:0<=y.lo) (h3:x'.lo<=x'.hi) (h4:y'.lo<=y'.hi):fC (Bq x' y') (Bq x y):=by
 unfold fC Bq at *;have a1:=Int.mul_le_mul hx.1 hx.1 h1 (by omega);have a2:=Int.mul_le_mul hy.1 hy.1 h2 (by omega);have a3:=Int.mul_le_mul hx.2 hx.2 (by omega) (by omega);have a4:=Int.mul_le_mul hy.2 hy.2 (by omega) (by omega);simp only;omega
theorem zpy {q:Int} {x y x' y':Span} (hx:fC x' x) (hy:fC y' y):fC (mK q x' y').1 (mK q x y).1/\fC (mK q x' y').2 (mK q x y).2:=by
 unfold mK fC at *
 split
 .exact ⟨hy,hx⟩
 .split
  .simp only;omega
  .split<;>(simp only;omega)
theorem zqH {q:Int} {x y:Span} (hx:x.lo<=x.hi) (hy:y.lo<=y.hi):(mK q x y).1.lo<=(mK q x y).1.hi/\(mK q x y).2.lo<=(mK q x y).2.hi:=by
 unfold mK
 split
 .exact ⟨hy,hx⟩
 .split
  .simp only;omega
  .split<;>(simp only;omega)
theorem zn4 {f:Fact} {l m:List Box} (hn:Named f m.length) (hs:aR l m) (hw:Wf l) (Ve:Wf m):tight (D7 f l) (D7 f m):=by
 have ha:f.a.toNat < m.length:=by have:=hn.a;omega
 have hb:f.b.toNat < m.length:=by have:=hn.b;omega
 have hc:f.c.toNat < m.length:=by have:=hn.c;omega
 have KX:f.a.toNat < l.length:=by rw [hs.1];exact ha
 have hb':f.b.toNat < l.length:=by rw [hs.1];exact hb
 have vB:f.c.toNat < l.length:=by rw [hs.1];exact hc
 have sa:=hs.2 _ KX ha;have sb:=hs.2 _ hb' hb;have sc:=hs.2 _ vB hc;have wa:=hw _ (List.getElem_mem KX);have wb:=hw _ (List.getElem_mem hb');have wc:=hw _ (List.getElem_mem vB);have wa2:=Ve _ (List.getElem_mem ha);have wb2:=Ve _ (List.getElem_mem hb);unfold D7;simp only [getElem!_pos m f.a.toNat ha,getElem!_pos m f.b.toNat hb,getElem!_pos m f.c.toNat hc,getElem!_pos l f.a.toNat KX,getElem!_pos l f.b.toNat hb',getElem!_pos l f.c.toNat vB];generalize m[f.a.toNat]=a at *;generalize m[f.b.toNat]=b at *;generalize m[f.c.toNat]=c at *;generalize l[f.a.toNat]=a' at *;generalize l[f.b.toNat]=b' at *;generalize l[f.c.toNat]=c' at *;have lx:=zlA sb.1 sa.1;have ly:=zlA sb.2 sa.2;have wx:=Yw wb.1 wa.1;have wy:=Yw wb.2 wa.2;have wx2:=Yw wb2.1 wa2.1;have wy2:=Yw wb2.2 wa2.2;generalize hX:rD b.x a.x=X at *;generalize hY:rD b.y a.y=Y at *;generalize hX':rD b'.x a'.x=X' at *;generalize hY':rD b'.y a'.y=Y' at *
 split
 .exact Yv (zrV sa sb sc wa wb wc)
 .split
  .obtain ⟨u1,u2⟩:=zpy (q:=f.quarter) lx ly;obtain ⟨u3,u4⟩:=zqH (q:=f.quarter) wx wy;have u5:=zf1 u2 u4;unfold tight Gh fC at *;simp only [Bool.and_eq_true,decide_eq_true_eq];omega
  .have ax:=zf1 lx wx;have ay:=zf1 ly wy
   split
   .unfold tight Gi fC at *;simp only [decide_eq_true_eq];omega
   .split
    .exact Yv lx
    .split
     .exact Yv ly
     .exact Yv (zqE ax ay (Yx wx2).1 (Yx wy2).1 (Yx wx).2 (Yx wy).2)
theorem znv {f:Fact} {l m:List Box} (hn:Named f m.length) (hs:aR l m) (hw:Wf l) (Ve:Wf m) (h:zD f m=true):zD f l=true:=by
 obtain ⟨h1,h2⟩:=zn4 hn hs hw Ve;unfold zD at *
 split
 .rename_i LH;rw [if_pos LH] at h;exact h2 h
 .rename_i LH;rw [if_neg LH] at h
  cases hb:(D7 f l).1 with
  | false=>rfl
  | true=>rw [h1 hb] at h;simp at h
inductive lT (E:List (Nat×Nat)):Nat->Nat->Prop
 | refl (i:Nat):lT E i i
 | edge {a b:Nat} (h:(a,b)∈E):lT E a b
 | symm {a b:Nat} (h:lT E a b):lT E b a
 | trans {a b c:Nat} (h:lT E a b) (h':lT E b c):lT E a c
theorem lT.mono {E E':List (Nat×Nat)} (hs:∀ e∈E,e∈E') {a b:Nat} (h:lT E a b):lT E' a b:=by
 induction h with
 | refl i=>exact .refl i
 | edge h=>exact .edge (hs _ h)
 | symm _ ih=>exact .symm ih
 | trans _ _ ih1 ih2=>exact .trans ih1 ih2
theorem lT.keep {E:List (Nat×Nat)} {α:Type} (g:Nat->α) (hg:∀ e∈E,g e.1=g e.2) {a b:Nat} (h:lT E a b):g a=g b:=by
 induction h with
 | refl i=>rfl
 | edge h=>exact hg _ h
 | symm _ ih=>exact ih.symm
 | trans _ _ ih1 ih2=>exact ih1.trans ih2
structure bH (E:List (Nat×Nat)) (n:Nat) (g:Nat->Nat):Prop where
 le:∀ i,i < n->g i<=i
 conn:∀ i,i < n->lT E i (g i)
 keep:∀ e∈E,g e.1=g e.2
theorem bH.unique {E:List (Nat×Nat)} {n:Nat} {g g':Nat->Nat} (h:bH E n g) (h':bH E n g'):∀ i,i < n->g i=g' i:=fun i hi=>by
 have h1:=(h'.conn i hi).keep g h.keep;have h2:=(h.conn i hi).keep g' h'.keep;have l1:=h.le i hi;have l2:=h'.le i hi;have h3:=h.le (g' i) (by omega);have h4:=h'.le (g i) (by omega);omega
theorem bH.nil (n:Nat):bH [] n (fun i=>i):=⟨fun i _=>Nat.le_refl _,fun i _=>.refl i,fun e h=>by simp at h⟩
def Gj (g:Nat->Nat) (a b:Nat):Nat->Nat:=fun i=>if g i=max (g a) (g b) then min (g a) (g b) else g i
theorem bH.join {E:List (Nat×Nat)} {n:Nat} {g:Nat->Nat} (h:bH E n g) {a b:Nat} (ha:a < n) (hb:b < n):bH (E++[(a,b)]) n (Gj g a b):=by
 have hE:∀ e∈E,e∈E++[(a,b)]:=fun e he=>List.mem_append_left _ he;have DC:lT (E++[(a,b)]) a b:=.edge (by simp);have ca:=(h.conn a ha).mono hE;have cb:=(h.conn b hb).mono hE
 refine ⟨fun i hi=>?_,fun i hi=>?_,fun e he=>?_⟩
 .unfold Gj;have:=h.le i hi
  split
  .rename_i e;omega
  .exact this
 .unfold Gj;have ci:=(h.conn i hi).mono hE
  split
  .rename_i e;rw [e] at ci
   refine ci.trans ?_
   rcases Nat.le_total (g a) (g b) with hl|hl
   .rw [Nat.max_eq_right hl,Nat.min_eq_left hl];exact (cb.symm.trans DC.symm).trans ca
   .rw [Nat.max_eq_left hl,Nat.min_eq_right hl];exact (ca.symm.trans DC).trans cb
  .exact ci
 .rcases List.mem_append.1 he with he|he
  .have:=h.keep e he;unfold Gj;rw [this]
  .simp at he;subst he;unfold Gj;simp only;rcases Nat.le_total (g a) (g b) with hl|hl
   .rw [Nat.max_eq_right hl,Nat.min_eq_left hl,if_pos rfl]
    split<;>omega
   .rw [Nat.max_eq_left hl,Nat.min_eq_right hl,if_pos rfl]
    split<;>omega
theorem bH.idem {E:List (Nat×Nat)} {n:Nat} {g:Nat->Nat} (h:bH E n g) {i:Nat} (hi:i < n):g (g i)=g i:=((h.conn i hi).keep g h.keep).symm
structure mR (E:List (Nat×Nat)) (n:Nat) (g:Nat->Nat):Prop where
 le:∀ i,i < n->g i<=i
 conn:∀ i,i < n->lT E i (g i)
theorem mR.start (E:List (Nat×Nat)) (n:Nat):mR E n (fun i=>i):=⟨fun i _=>Nat.le_refl _,fun i _=>.refl i⟩
def AA (m g:Nat->Nat) (n:Nat):Nat:=(List.range n).countP fun i=>g i == m i
theorem zl7 (m g:Nat->Nat) (n:Nat):AA m g n<=n:=by
 have:=List.countP_le_length (p:=fun i=>g i == m i) (l:=List.range n)
 simpa [AA] using this
theorem ziR {m g g':Nat->Nat} {n:Nat} (h:∀ i,i < n->g i=m i->g' i=m i):AA m g n<=AA m g' n:=by
 unfold AA
 refine List.countP_mono_left fun i hi h1=>?_
 simp at *;exact h i hi h1
theorem zmt {m g g':Nat->Nat} {n:Nat} (h:∀ i,i < n->g i=m i->g' i=m i) {j:Nat} (hj:j < n) (h1:g j≠m j) (h2:g' j=m j):AA m g n < AA m g' n:=by
 induction n with
 | zero=>omega
 | succ n ih =>
  unfold AA at *;rw [List.range_succ,List.countP_append,List.countP_append];simp only [List.countP_singleton]
  by_cases e:j=n
  .subst e;have:=ziR (m:=m) (g:=g) (g':=g') (n:=j) (fun i hi=>h i (by omega));unfold AA at this;simp [h1,h2];omega
  .have:=ih (fun i hi=>h i (by omega)) (by omega)
   by_cases e1:g n=m n
   .have:=h n (by omega) e1;simp [e1,this];omega
   .simp [e1]
    split<;>omega
theorem zqs {m g:Nat->Nat} {n:Nat} (h:n<=AA m g n):∀ i,i < n->g i=m i:=by
 intro i hi;have:=List.countP_eq_length.1 (show (List.range n).countP (fun i=>g i == m i)=(List.range n).length by
  have h1:=zl7 m g n;unfold AA at *;rw [List.length_range];omega) i (List.mem_range.2 hi)
 simpa using this
theorem znJ {E:List (Nat×Nat)} {n:Nat} {m g g':Nat->Nat} (hm:bH E n m) (hE:∀ e∈E,e.1 < n/\e.2 < n) (h:mR E n g) (h':mR E n g') (hle:∀ i,i < n->g' i<=g i) (hr:∀ e∈E,g' e.1<=g e.2/\g' e.2<=g e.1) :
  n<=AA m g' n\/AA m g n < AA m g' n:=by
 -- labels never pass the least one
 have low:∀ (f:Nat->Nat),mR E n f->∀ i,i < n->m i<=f i:=fun f hf i hi=>by
  have h1:=(hf.conn i hi).keep m hm.keep;have h2:=hf.le i hi;have h3:=hm.le (f i) (by omega);omega
 have I8:∀ i,i < n->g i=m i->g' i=m i:=fun i hi e=>by
  have:=low g' h' i hi;have:=hle i hi;omega
 by_cases fe:∀ i,i < n->g i=m i
 .left;have:=ziR (m:=m) (g:=m) (g':=g') (n:=n) fun i hi _=>I8 i hi (fe i hi);have h1:AA m m n=n:=by simp [AA]
  omega
 .right
  -- an edge from a label that is done to one that is not
  have key:∃ e∈E,(g e.1=m e.1/\g e.2≠m e.2)\/(g e.2=m e.2/\g e.1≠m e.1):=by
   refine Classical.byContradiction fun hc=>fe fun i hi=>?_
   -- being done is kept by the T9,and the first point of a part is done
   have hk:=(hm.conn i hi).keep (fun j=>decide (g j=m j)) (fun e he=>by
    rw [decide_eq_decide]
    constructor
    .intro h1;exact Classical.byContradiction fun h2=>hc ⟨e,he,.inl ⟨h1,h2⟩⟩
    .intro h1;exact Classical.byContradiction fun h2=>hc ⟨e,he,.inr ⟨h1,h2⟩⟩)
   rw [decide_eq_decide] at hk
   refine hk.2 ?_
   have hmi:=hm.le i hi;have h1:=low g h (m i) (by omega);have h2:=h.le (m i) (by omega);have h3:=hm.idem hi;omega
  obtain ⟨e,he,hx⟩:=key;obtain ⟨e1,e2⟩:=hE e he;have h3:=hm.keep e he;have h4:=hr e he;rcases hx with ⟨a1,a2⟩|⟨a1,a2⟩
  .refine zmt I8 e2 a2 ?_
   have:=low g' h' e.2 e2;omega
  .refine zmt I8 e1 a2 ?_
   have:=low g' h' e.1 e1;omega
def AB (f:Fact):List (Nat×Nat):=(f.a.toNat,f.b.toNat)::if f.kind=2 then [(f.a.toNat,f.c.toNat)] else []
def mM (fs:List Fact):List (Nat×Nat):=fs.flatMap AB
def nZ (g:Nat->Nat) (n i:Nat):List Nat:=(List.range n).filter fun k=>g k == i
def zK (g:Nat->Nat) (n:Nat):List (List Nat):=((List.range n).filter fun i=>g i == i).map (nZ g n)
theorem zeS {g g':Nat->Nat} {n:Nat} (h:∀ i,i < n->g i=g' i):zK g n=zK g' n:=by
 have h1:∀ i,nZ g n i=nZ g' n i:=fun i=>by
  unfold nZ
  refine List.filter_congr fun k hk=>?_
  rw [h k (List.mem_range.1 hk)]
 unfold zK;rw [List.filter_congr (q:=fun i=>g' i == i) fun k hk=>by rw [h k (List.mem_range.1 hk)]];exact List.map_congr_left fun i _=>h1 i
def bf (p:Pt):Box:=⟨⟨p.x,p.x⟩,⟨p.y,p.y⟩⟩
def C9 (s:Span):List Int:=(List.range (s.hi - s.lo+1).toNat).map fun i=>s.lo+(i:Nat)
def uU (b:Box):List Pt:=(C9 b.x).flatMap fun x=>(C9 b.y).map fun y=>⟨x,y⟩
theorem oK {s:Span} {v:Int}:v∈C9 s↔s.lo<=v/\v<=s.hi:=by
 unfold C9;simp only [List.mem_map,List.mem_range]
 constructor
 .rintro ⟨i,hi,rfl⟩;omega
 .rintro ⟨h1,h2⟩;exact ⟨(v - s.lo).toNat,by omega,by omega⟩
theorem mem_places {b:Box} {p:Pt}:p∈uU b↔bF p b:=by
 unfold uU bF;simp only [List.mem_flatMap,List.mem_map]
 constructor
 .rintro ⟨x,hx,y,hy,rfl⟩;have h1:=oK.1 hx;have h2:=oK.1 hy;exact ⟨h1.1,h1.2,h2.1,h2.2⟩
 .rintro ⟨h1,h2,h3,h4⟩;exact ⟨p.x,oK.2 ⟨h1,h2⟩,p.y,oK.2 ⟨h3,h4⟩,rfl⟩
theorem Vf (s:Span):(C9 s).length=(s.hi - s.lo+1).toNat:=by simp [C9]
theorem zfc {α β:Type} (f:α->List β) (n:Nat):∀ l:List α,(∀ a∈l,(f a).length=n)->(l.flatMap f).length=l.length*n
 | [],_=>by simp
 | a::l,h=>by
  rw [List.flatMap_cons,List.length_append,zfc f n l (fun b hb=>h b (List.mem_cons_of_mem _ hb)),h a (List.mem_cons_self ..),List.length_cons,Nat.add_mul];omega
theorem zfJ (b:Box):(uU b).length=(b.x.hi - b.x.lo+1).toNat*(b.y.hi - b.y.lo+1).toNat:=by
 unfold uU;rw [zfc _ (b.y.hi - b.y.lo+1).toNat _ (fun a _=>by simp [Vf]),Vf]
def nG (l:List Box):List Nat->List (List Pt)
 | []=>[[]]
 | i::rest=>(uU l[i]!).flatMap fun x=>(nG l rest).map (x :: ·)
def wZ (ok:Nat->List Box->Bool) (l:List Box):List Nat->Nat->List Box->List (List Pt)
 | [],_,_=>[[]]
 | i::rest,k,here=>(uU l[i]!).flatMap fun x=>if ok k (here.set i (bf x))=true then (wZ ok l rest (k+1) (here.set i (bf x))).map (x :: ·) else []
def Ko (ok:Nat->List Box->Bool):List Nat->Nat->List Box->List Pt->Bool
 | i::rest,k,here,x::c=>ok k (here.set i (bf x))&&Ko ok rest (k+1) (here.set i (bf x)) c
 | _,_,_,_=>true
theorem ze9 {α β:Type} (p:β->Bool) (f:α->List β):∀ l:List α,(l.flatMap f).filter p=l.flatMap fun a=>(f a).filter p
 | []=>rfl
 | a::l=>by rw [List.flatMap_cons,List.flatMap_cons,List.filter_append,ze9 p f l]
theorem zfm {α β:Type} {f g:α->List β}:∀ {l:List α},(∀ a∈l,f a=g a)->l.flatMap f=l.flatMap g
 | [],_=>rfl
 | a::l,h=>by rw [List.flatMap_cons,List.flatMap_cons,h a (List.mem_cons_self ..),zfm fun b hb=>h b (List.mem_cons_of_mem _ hb)]
theorem Yy (ok:Nat->List Box->Bool) (l:List Box):∀ (part:List Nat) (k:Nat) (here:List Box),wZ ok l part k here=(nG l part).filter (Ko ok part k here)
 | [],k,here=>by simp [wZ,nG,Ko]
 | i::rest,k,here=>by
  rw [wZ,nG,ze9]
  refine zfm fun x _=>?_
  rw [List.filter_map];have ih:=Yy ok l rest (k+1) (here.set i (bf x))
  by_cases h:ok k (here.set i (bf x))=true
  .rw [if_pos h,ih]
   congr 2
   funext c
   simp [Ko,h]
  .rw [if_neg h];have:(Ko ok (i::rest) k here ∘ fun c=>x::c)=fun _=>false:=by
    funext c
    simp only [Function.comp_def,Ko];simp at h;simp [h]
   rw [this];simp
theorem Yz {l:List Box}:∀ {part:List Nat} {c:List Pt},c∈nG l part↔c.length=part.length/\∀ k (h:k < part.length) (h':k < c.length),bF c[k] l[part[k]]!
 | [],c=>by
  simp only [nG,List.mem_singleton,List.length_nil]
  constructor
  .rintro rfl;exact ⟨rfl,fun k h=>by simp at h⟩
  .rintro ⟨h,_⟩;exact List.eq_nil_of_length_eq_zero h
 | i::rest,c=>by
  simp only [nG,List.mem_flatMap,List.mem_map]
  constructor
  .rintro ⟨x,hx,d,hd,rfl⟩;obtain ⟨h1,h2⟩:=(Yz (l:=l)).1 hd
   refine ⟨by simp [h1],fun k h h'=>?_⟩
   cases k with
   | zero=>simpa using mem_places.1 hx
   | succ k=>simpa using h2 k (by simpa using h) (by simpa using h')
  .rintro ⟨h1,h2⟩
   cases c with
   | nil=>simp at h1
   | cons x d =>
    refine ⟨x,mem_places.2 (h2 0 (by simp) (by simp)),d,(Yz (l:=l)).2 ⟨by simpa using h1,fun k h h'=>?_⟩,rfl⟩
    exact h2 (k+1) (by simp;omega) (by simp;omega)
def zrf (f:Fact) (l m:List Box):Prop:=l[f.a.toNat]! = m[f.a.toNat]! /\ l[f.b.toNat]! = m[f.b.toNat]! /\ (f.kind=2->l[f.c.toNat]! = m[f.c.toNat]!)
theorem LJ {f:Fact} {l m:List Box} (h:zrf f l m):zD f l=zD f m:=by
 obtain ⟨h1,h2,h3⟩:=h;unfold zD D7;rw [h1,h2]
 by_cases hk:f.kind=2
 .rw [h3 hk]
 .simp only [if_neg hk]
def vL:List Nat->List Pt->List Box->List Box
 | i::part,x::c,here=>vL part c (here.set i (bf x))
 | _,_,here=>here
theorem YA:∀ (part:List Nat) (c:List Pt) (here:List Box) (j:Nat),j ∉ part->(vL part c here)[j]! = here[j]!
 | [],_,_,_,_=>by simp [vL]
 | _::_,[],_,_,_=>by simp [vL]
 | i::part,x::c,here,j,h=>by
  rw [vL,YA part c _ j (fun hm=>h (List.mem_cons_of_mem _ hm))];have:i≠j:=fun e=>h (by rw [e];exact List.mem_cons_self ..);simp [List.getElem?_set,this]
theorem zj0:∀ (part:List Nat) (c:List Pt) (here:List Box),part.Nodup->c.length=part.length->(∀ i∈part,i < here.length)->∀ k (h:k < part.length) (h':k < c.length),(vL part c here)[part[k]]! = bf c[k]
 | [],_,_,_,_,_,k,h,_=>by simp at h
 | _::_,[],_,_,hc,_,_,_,_=>by simp at hc
 | i::part,x::c,here,hn,hc,hi,k,h,h'=>by
  rw [vL];have jc:=List.nodup_cons.1 hn
  cases k with
  | zero =>
   simp only [List.getElem_cons_zero];rw [YA _ _ _ _ jc.1];have:=hi i (List.mem_cons_self ..);simp [List.getElem?_set,this]
  | succ k =>
   simp only [List.getElem_cons_succ];exact zj0 part c _ jc.2 (by simpa using hc) (fun j hj=>by rw [List.length_set];exact hi j (List.mem_cons_of_mem _ hj)) k (by simpa using h) (by simpa using h')
def Hg (part:List Nat) (f:Fact):Nat:=max (max (part.idxOf f.a.toNat) (part.idxOf f.b.toNat)) (if f.kind=2 then part.idxOf f.c.toNat else 0)
structure Within (part:List Nat) (f:Fact):Prop where
 a:f.a.toNat∈part
 b:f.b.toNat∈part
 c:f.kind=2->f.c.toNat∈part
theorem zi5 {part:List Nat} {c:List Pt} {here:List Box} {f:Fact} (hn:part.Nodup) (hw:Within part f) {k:Nat} (hk:Hg part f < k):zrf f (vL (part.take k) (c.take k) here) (vL part c here):=by
 have key:∀ (part:List Nat) (c:List Pt) (here:List Box) (k j:Nat),part.Nodup->j∈part->part.idxOf j < k->(vL (part.take k) (c.take k) here)[j]! = (vL part c here)[j]! := by
  intro part
  induction part with
  | nil=>intro c here k j _ hj;simp at hj
  | cons i part ih =>
   intro c here k j hn hj hk
   cases k with
   | zero=>omega
   | succ k =>
    cases c with
    | nil=>simp [vL]
    | cons x c =>
     simp only [List.take_succ_cons,vL];have jc:=List.nodup_cons.1 hn
     by_cases e:i=j
     .subst e;rw [YA _ _ _ _ (fun h=>jc.1 (List.mem_of_mem_take h)),YA _ _ _ _ jc.1]
     .have o8:j∈part:=by
       rcases List.mem_cons.1 hj with h|h
       .exact absurd h.symm e
       .exact h
      rw [List.idxOf_cons] at hk;have:(i == j)=false:=by simpa using e
      rw [this] at hk;simp only [cond_false] at hk;exact ih c _ k j jc.2 o8 (by omega)
 unfold Hg at hk
 refine ⟨key _ _ _ _ _ hn hw.a (by omega),key _ _ _ _ _ hn hw.b (by omega),fun h2=>?_⟩
 rw [if_pos h2] at hk;exact key _ _ _ _ _ hn (hw.c h2) (by omega)
def uj (facts:List Fact) (part:List Nat) (k:Nat) (here:List Box):Bool:=facts.all fun f=>!(part.contains f.a.toNat&&decide (Hg part f=k)) || !zD f here
theorem zjG {facts:List Fact} {whole:List Nat}:∀ (rest:List Nat) (k:Nat) (here:List Box) (c:List Pt),c.length=rest.length ->
  (Ko (uj facts whole) rest k here c=true↔∀ j,j < rest.length->uj facts whole (k+j) (vL (rest.take (j+1)) (c.take (j+1)) here)=true)
 | [],k,here,c,hc=>by simp [Ko]
 | i::rest,k,here,[],hc=>by simp at hc
 | i::rest,k,here,x::c,hc=>by
  have ih:=zjG (facts:=facts) (whole:=whole) rest (k+1) (here.set i (bf x)) c (by simpa using hc);rw [Ko,Bool.and_eq_true,ih]
  constructor
  .rintro ⟨h1,h2⟩ j hj
   cases j with
   | zero=>simpa [vL] using h1
   | succ j =>
    have:=h2 j (by simpa using hj);rw [show k+(j+1)=k+1+j by omega]
    simpa [vL] using this
  .intro h
   refine ⟨by simpa [vL] using h 0 (by simp),fun j hj=>?_⟩
   have:=h (j+1) (by simpa using hj);rw [show k+(j+1)=k+1+j by omega] at this
   simpa [vL] using this
theorem zkv {facts:List Fact} {part:List Nat} {l:List Box} {c:List Pt} (hn:part.Nodup) (hc:c.length=part.length) (hw:∀ f∈facts,f.a.toNat∈part->Within part f) :
  Ko (uj facts part) part 0 l c=true↔∀ f∈facts,f.a.toNat∈part->zD f (vL part c l)=false:=by
 rw [zjG part 0 l c hc];have vM:∀ f∈facts,f.a.toNat∈part->Hg part f < part.length:=fun f hf ha=>by
  have w:=hw f hf ha;have h1:=List.idxOf_lt_length_of_mem w.a;have h2:=List.idxOf_lt_length_of_mem w.b;unfold Hg
  by_cases h3:f.kind=2
  .have:=List.idxOf_lt_length_of_mem (w.c h3);rw [if_pos h3];omega
  .rw [if_neg h3];omega
 constructor
 .intro h f hf ha;have h1:=h (Hg part f) (vM f hf ha);unfold uj at h1;rw [List.all_eq_true] at h1;have h2:=h1 f hf;simp only [Nat.zero_add,decide_true,Bool.and_true,Bool.or_eq_true,Bool.not_eq_true',List.contains_iff_mem,List.elem_eq_mem] at h2;rw [<- LJ (zi5 (k:=Hg part f+1) hn (hw f hf ha) (by omega))];rcases h2 with h2|h2
  .simp [ha] at h2
  .exact h2
 .intro h j hj;unfold uj;rw [List.all_eq_true];intro f hf
  by_cases ha:f.a.toNat∈part
  .by_cases hk:Hg part f=j
   .have:=h f hf ha;rw [<- LJ (zi5 (k:=j+1) hn (hw f hf ha) (by omega))] at this;simp [this]
   .simp [hk]
  .simp [ha]
def jd (facts:List Fact) (l:List Box) (part:List Nat):List (List Pt):=wZ (uj facts part) l part 0 l
theorem Kq {facts:List Fact} {l:List Box} {part:List Nat} (hn:part.Nodup) (hw:∀ f∈facts,f.a.toNat∈part->Within part f) {c:List Pt} :
  c∈jd facts l part↔(c.length=part.length/\∀ k (h:k < part.length) (h':k < c.length),bF c[k] l[part[k]]!)/\∀ f∈facts,f.a.toNat∈part->zD f (vL part c l)=false:=by
 unfold jd;rw [Yy,List.mem_filter,Yz]
 constructor
 .rintro ⟨h1,h2⟩;exact ⟨h1,(zkv hn h1.1 hw).1 h2⟩
 .rintro ⟨h1,h2⟩;exact ⟨h1,(zkv hn h1.1 hw).2 h2⟩
def Gl {α:Type} (key:α->Int) (o:Option α) (c:α):Option α:=match o with
 | none=>some c
 | some d=>if key c < key d then some c else some d
def Vg {α:Type} (key:α->Int) (l:List α):Option α:=l.foldl (Gl key) none
theorem zg3 {α:Type} (key:α->Int):∀ (l:List α) (d:α),∃ e,l.foldl (Gl key) (some d)=some e/\(e=d\/e∈l)/\key e<=key d/\∀ c∈l,key e<=key c
 | [],d=>⟨d,rfl,.inl rfl,Int.le_refl _,by simp⟩
 | a::l,d=>by
  rw [List.foldl_cons,Gl]
  split
  .rename_i h;obtain ⟨e,h1,h2,h3,h4⟩:=zg3 key l a
   refine ⟨e,h1,?_,by omega,fun c hc=>?_⟩
   .rcases h2 with rfl|h2
    .exact .inr (List.mem_cons_self ..)
    .exact .inr (List.mem_cons_of_mem _ h2)
   .rcases List.mem_cons.1 hc with rfl|hc
    .exact h3
    .exact h4 c hc
  .rename_i h;obtain ⟨e,h1,h2,h3,h4⟩:=zg3 key l d
   refine ⟨e,h1,?_,h3,fun c hc=>?_⟩
   .rcases h2 with rfl|h2
    .exact .inl rfl
    .exact .inr (List.mem_cons_of_mem _ h2)
   .rcases List.mem_cons.1 hc with rfl|hc
    .omega
    .exact h4 c hc
theorem zsW {α:Type} (key:α->Int) {l:List α} (h:l≠[]):∃ e,Vg key l=some e/\e∈l/\∀ c∈l,key e<=key c:=by
 cases l with
 | nil=>exact absurd rfl h
 | cons a l =>
  obtain ⟨e,h1,h2,h3,h4⟩:=zg3 key l a
  refine ⟨e,h1,?_,fun c hc=>?_⟩
  .rcases h2 with rfl|h2
   .exact List.mem_cons_self ..
   .exact List.mem_cons_of_mem _ h2
  .rcases List.mem_cons.1 hc with rfl|hc
   .exact h3
   .exact h4 c hc
set_option maxHeartbeats 1000000
def SC (f:Fact) (a b c:Box):Bool×Bool :=
 let x:=rD b.x a.x
 let y:=rD b.y a.y
 if f.kind=2 then zS f.span (sJ a b c)
 else if f.kind=3 then Gh (mK f.quarter x y).1 (mK f.quarter x y).2
 else if f.kind=4 then Gi f.span (zB x) (zB y)
 else if f.kind=5 then zS f.span x
 else if f.kind=6 then zS f.span y
 else zS f.span (Bq (zB x) (zB y))
theorem zpa (f:Fact) (l:List Box):D7 f l=SC f l[f.a.toNat]! l[f.b.toNat]! l[f.c.toNat]! := rfl
def P5 (q dx dy:Int):Int×Int:=if q=1 then (dy,dx) else if q=2 then (-dx,dy) else if q=3 then (-dy,dx) else (dx,dy)
def YB (f:Fact) (dx dy:Int):Bool :=
 if f.kind=3 then decide (0 < (P5 f.quarter dx dy).1)&&decide ((P5 f.quarter dx dy).2<=(P5 f.quarter dx dy).1)&&decide (-(P5 f.quarter dx dy).2<=(P5 f.quarter dx dy).1)
 else if f.kind=4 then decide (dx<=f.span.hi)&&decide (-dx<=f.span.hi)&&decide (dy<=f.span.hi)&&decide (-dy<=f.span.hi)
 else if f.kind=5 then decide (f.span.lo<=dx)&&decide (dx<=f.span.hi)
 else if f.kind=6 then decide (f.span.lo<=dy)&&decide (dy<=f.span.hi)
 else decide (f.span.lo<=dx*dx+dy*dy)&&decide (dx*dx+dy*dy<=f.span.hi)
def I9 (f:Fact) (p q r:Pt):Bool:=if f.kind=2 then decide (f.span.lo<=oJ p q r)&&decide (oJ p q r<=f.span.hi) else YB f (q.x - p.x) (q.y - p.y)
theorem zsv (a b:Int):rD ⟨b,b⟩ ⟨a,a⟩=⟨b - a,b - a⟩:=rfl
theorem zjW (a:Int):zB ⟨a,a⟩=⟨max a (-a),max a (-a)⟩:=by
 unfold zB;simp only
 split
 .rw [show max a (-a)=a by omega]
 .split
  .rw [show max a (-a)=-a by omega]
  .omega
theorem zus (a:Int):max a (-a)*max a (-a)=a*a:=by
 rcases Int.le_total a (-a) with h|h
 .rw [show max a (-a)=-a by omega,Int.neg_mul_neg]
 .rw [show max a (-a)=a by omega]
theorem zsZ (p q r:Pt):sJ (bf p) (bf q) (bf r)=⟨oJ p q r,oJ p q r⟩:=by
 refine (Vd _ _ _).unique ⟨fun t ht=>?_,?_,?_⟩
 .simp [pE,zO,bf] at ht;subst ht;exact ⟨Int.le_refl _,Int.le_refl _⟩
 .simp [pE,zO,bf]
 .simp [pE,zO,bf]
theorem bool2 {a b c d:Bool} (h1:a=c) (h2:b=d):(a,b)=(c,d):=by rw [h1,h2]
theorem zlN (f:Fact) (p q r:Pt):SC f (bf p) (bf q) (bf r)=(I9 f p q r,I9 f p q r):=by
 unfold SC I9;simp only [zsZ];simp only [bf,zsv,zjW]
 split
 .unfold zS
  refine bool2 ?_ rfl
  simp only;exact Bool.and_comm _ _
 .unfold YB
  split
  .unfold Gh mK P5;(repeat' split)<;>simp only [zjW]<;>refine bool2 ?_ ?_<;>rw [Bool.eq_iff_iff]<;>simp only [Bool.and_eq_true,decide_eq_true_eq]<;>omega
  .split
   .unfold Gi
    refine bool2 ?_ ?_<;>rw [Bool.eq_iff_iff]<;>simp only [Bool.and_eq_true,decide_eq_true_eq]<;>omega
   .split
    .unfold zS;exact bool2 (Bool.and_comm _ _) rfl
    .split
     .unfold zS;exact bool2 (Bool.and_comm _ _) rfl
     .unfold zS Bq;simp only [zus];exact bool2 (Bool.and_comm _ _) rfl
def bE (s:Span) (w:Nat):Int:=if w % 2=0 then s.lo else s.hi
def AJ (a b c:Box) (k:Nat):Int:=oJ ⟨bE a.x k,bE a.y (k / 2)⟩ ⟨bE b.x (k / 4),bE b.y (k / 8)⟩ ⟨bE c.x (k / 16),bE c.y (k / 32)⟩
theorem zmS {b:Box} {p:Pt}:p∈zO b↔∃ i j,i < 2/\j < 2/\p=⟨bE b.x i,bE b.y j⟩:=by
 unfold zO;simp only [List.mem_cons,List.not_mem_nil,or_false]
 constructor
 .rintro (rfl|rfl|rfl|rfl)
  .exact ⟨0,0,by omega,by omega,rfl⟩
  .exact ⟨0,1,by omega,by omega,rfl⟩
  .exact ⟨1,0,by omega,by omega,rfl⟩
  .exact ⟨1,1,by omega,by omega,rfl⟩
 .rintro ⟨i,j,hi,hj,rfl⟩;rcases (by omega:i=0\/i=1) with rfl|rfl<;>rcases (by omega:j=0\/j=1) with rfl|rfl<;>simp [bE]
theorem Hl {s:Span} {i j:Nat} (h:i % 2=j % 2):bE s i=bE s j:=by unfold bE;rw [h]
theorem sK {a b c:Box} {t:Int}:t∈pE a b c↔∃ k,k < 64/\AJ a b c k=t:=by
 unfold pE;simp only [List.mem_flatMap,List.mem_map,zmS]
 constructor
 .rintro ⟨p,⟨i1,j1,a1,a2,rfl⟩,q,⟨i2,j2,b1,b2,rfl⟩,r,⟨i3,j3,c1,c2,rfl⟩,rfl⟩
  refine ⟨i1+2*j1+4*i2+8*j2+16*i3+32*j3,by omega,?_⟩
  unfold AJ;rw [Hl (s:=a.x) (j:=i1) (by omega),Hl (s:=a.y) (j:=j1) (by omega),Hl (s:=b.x) (j:=i2) (by omega),Hl (s:=b.y) (j:=j2) (by omega),Hl (s:=c.x) (j:=i3) (by omega),Hl (s:=c.y) (j:=j3) (by omega)]
 .rintro ⟨k,hk,rfl⟩
  refine ⟨_,⟨k % 2,k / 2 % 2,by omega,by omega,rfl⟩,_,⟨k / 4 % 2,k / 8 % 2,by omega,by omega,rfl⟩,_,⟨k / 16 % 2,k / 32 % 2,by omega,by omega,rfl⟩,?_⟩
  unfold AJ;rw [Hl (s:=a.x) (j:=k) (by omega),Hl (s:=a.y) (j:=k / 2) (by omega),Hl (s:=b.x) (j:=k / 4) (by omega),Hl (s:=b.y) (j:=k / 8) (by omega),Hl (s:=c.x) (j:=k / 16) (by omega),Hl (s:=c.y) (j:=k / 32) (by omega)]
def P6 (a b c:Box) (k:Nat) (v:Span):Prop:=mE (fun t=>∃ j,j < k/\AJ a b c j=t) v
theorem zgx (a b c:Box):P6 a b c 1 ⟨AJ a b c 0,AJ a b c 0⟩:=⟨fun t ⟨j,hj,e⟩=>by
 have:j=0:=by omega
 subst this;subst e;exact ⟨Int.le_refl _,Int.le_refl _⟩,⟨0,by omega,rfl⟩,⟨0,by omega,rfl⟩⟩
theorem zmW {a b c:Box} {k:Nat} {v:Span} (h:P6 a b c k v):P6 a b c (k+1) ⟨min v.lo (AJ a b c k),max v.hi (AJ a b c k)⟩:=by
 obtain ⟨h1,⟨j1,g1,e1⟩,⟨j2,g2,e2⟩⟩:=h
 refine ⟨fun t ⟨j,hj,e⟩=>?_,?_,?_⟩
 .simp only
  by_cases hjk:j=k
  .subst hjk;omega
  .have:=h1 t ⟨j,by omega,e⟩;omega
 .simp only;rcases Int.le_total v.lo (AJ a b c k) with h|h
  .exact ⟨j1,by omega,by rw [e1];omega⟩
  .exact ⟨k,by omega,by omega⟩
 .simp only;rcases Int.le_total v.hi (AJ a b c k) with h|h
  .exact ⟨k,by omega,by omega⟩
  .exact ⟨j2,by omega,by rw [e2];omega⟩
theorem zod {a b c:Box} {v:Span} (h:P6 a b c 64 v):v=sJ a b c:=by
 refine mE.unique (T:=(·∈pE a b c)) ⟨fun t ht=>h.bound t (sK.1 ht),sK.2 h.lo,sK.2 h.hi⟩ (Vd a b c)
def Kr (l:List Int) (k:Nat) (v:Span):Prop:=mE (fun t=>∃ j,∃ h:j < l.length,j < k/\l[j]=t) v
theorem zli {l:List Int} (h:0 < l.length):Kr l 1 ⟨l[0],l[0]⟩:=⟨fun t ⟨j,hl,hj,e⟩=>by
 have:j=0:=by omega
 subst this;subst e;exact ⟨Int.le_refl _,Int.le_refl _⟩,⟨0,h,by omega,rfl⟩,⟨0,h,by omega,rfl⟩⟩
theorem zm7 {l:List Int} {k:Nat} (hk:k < l.length) {v:Span} (h:Kr l k v):Kr l (k+1) ⟨min v.lo l[k],max v.hi l[k]⟩:=by
 obtain ⟨h1,⟨j1,g0,g1,e1⟩,⟨j2,g3,g2,e2⟩⟩:=h
 refine ⟨fun t ⟨j,hl,hj,e⟩=>?_,?_,?_⟩
 .simp only
  by_cases hjk:j=k
  .subst hjk;omega
  .have:=h1 t ⟨j,hl,by omega,e⟩;omega
 .simp only;rcases Int.le_total v.lo l[k] with h|h
  .exact ⟨j1,g0,by omega,by rw [e1];omega⟩
  .exact ⟨k,hk,by omega,by omega⟩
 .simp only;rcases Int.le_total v.hi l[k] with h|h
  .exact ⟨k,hk,by omega,by omega⟩
  .exact ⟨j2,g3,by omega,by rw [e2];omega⟩
theorem znb {a b c:Box} {v:Span} (h:Kr (pE a b c) (pE a b c).length v):v=sJ a b c:=by
 have key:∀ t,(∃ j,∃ hj:j < (pE a b c).length,j < (pE a b c).length/\(pE a b c)[j]=t)↔t∈pE a b c:=fun t=>by
  rw [List.mem_iff_getElem]
  constructor
  .rintro ⟨j,hj,_,e⟩;exact ⟨j,hj,e⟩
  .rintro ⟨j,hj,e⟩;exact ⟨j,hj,hj,e⟩
 exact mE.unique (T:=(·∈pE a b c)) ⟨fun t ht=>h.bound t ((key t).2 ht),(key _).1 h.lo,(key _).1 h.hi⟩ (Vd a b c)
theorem zru (a b c:Box) (i j k:Nat) (hi:i < 4) (hj:j < 4) (hk:k < 4):(pE a b c)[16*i+4*j+k]?=some (oJ ((zO a)[i]'hi) ((zO b)[j]'hj) ((zO c)[k]'hk)):=by
 rcases (by omega:i=0\/i=1\/i=2\/i=3) with rfl|rfl|rfl|rfl<;>rcases (by omega:j=0\/j=1\/j=2\/j=3) with rfl|rfl|rfl|rfl<;>rcases (by omega:k=0\/k=1\/k=2\/k=3) with rfl|rfl|rfl|rfl<;>rfl
theorem zlf (a b c:Box):(pE a b c).length=64:=rfl
theorem zmd {s:Span} (h:s.lo<=s.hi):(if s.lo<=0/\0<=s.hi then (⟨0,max s.hi (-s.lo)⟩:Span) else ⟨min (max s.lo (-s.lo)) (max s.hi (-s.hi)),max s.hi (-s.lo)⟩)=zB s:=by
 obtain ⟨lo,hi⟩:=s;unfold zB;simp only at *
 split<;>split<;>(try split)<;>rw [Span.mk.injEq]<;>exact ⟨by omega,by omega⟩
end Go.Proofs.YtmmhnfghklppiaaGreat.Vm
