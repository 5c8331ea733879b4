/- What facts say of boxes: plain Lean. Parts: which points are connected by facts. Plain Lean. Choices of points of a part, and those that are solutions. Plain Lean. What a fact says of boxes, and of all points in them: plain Lean. The specification's ways to the same values: plain Lean. -/
import Derived.Test.YtmmhnfghklppiaaGreatWk8
namespace Go.Proofs.YtmmhnfghklppiaaGreat.Vm
open Go
set_option linter.unusedSimpArgs false
set_option linter.unusedVariables false
set_option maxHeartbeats 4000000
def sw (a b:Span):Span:=⟨a.lo - b.hi,a.hi - b.lo⟩
def zB (s:Span):Span:=if 0<=s.lo then s else if s.hi<=0 then ⟨-s.hi,-s.lo⟩ else ⟨0,max (-s.lo) s.hi⟩
def qC (a b c:Pt):Int:=(b.x - a.x)*(c.y - a.y) - (b.y - a.y)*(c.x - a.x)
def zP (b:Box):List Pt:=[⟨b.x.lo,b.y.lo⟩,⟨b.x.lo,b.y.hi⟩,⟨b.x.hi,b.y.lo⟩,⟨b.x.hi,b.y.hi⟩]
def qg (a b c:Box):List Int:=(zP a).flatMap fun p=>(zP b).flatMap fun q=>(zP c).map fun r=>qC p q r
def TH:List Int->Int
 | []=>0
 | a::l=>l.foldl min a
def TI:List Int->Int
 | []=>0
 | a::l=>l.foldl max a
def sP (a b c:Box):Span:=⟨TH (qg a b c),TI (qg a b c)⟩
structure mH (T:Int->Prop) (v:Span):Prop where
 bound:∀ t,T t->v.lo<=t/\t<=v.hi
 lo:T v.lo
 hi:T v.hi
theorem mH.unique {T:Int->Prop} {v w:Span} (h:mH T v) (h':mH T w):v=w:=by
 have h1:=h.bound _ h'.lo;have h2:=h.bound _ h'.hi;have h3:=h'.bound _ h.lo;have h4:=h'.bound _ h.hi;obtain ⟨a,b⟩:=v;obtain ⟨c,d⟩:=w;simp only [Span.mk.injEq] at *;omega
theorem zkd:∀ (l:List Int) (a:Int),(l.foldl min a=a\/l.foldl min a∈l)/\l.foldl min a<=a/\∀ t∈l,l.foldl min a<=t
 | [],a=>by simp
 | b::l,a=>by
  obtain ⟨h1,h2,h3⟩:=zkd l (min a b);simp only [List.foldl_cons]
  refine ⟨?_,by omega,fun t ht=>?_⟩
  .rcases h1 with h1|h1
   .rw [h1]
    by_cases h:a<=b
    .left;omega
    .right;rw [show min a b=b by omega];exact List.mem_cons_self ..
   .right;exact List.mem_cons_of_mem _ h1
  .rcases List.mem_cons.1 ht with rfl|ht
   .omega
   .exact h3 t ht
theorem zkv:∀ (l:List Int) (a:Int),(l.foldl max a=a\/l.foldl max a∈l)/\a<=l.foldl max a/\∀ t∈l,t<=l.foldl max a
 | [],a=>by simp
 | b::l,a=>by
  obtain ⟨h1,h2,h3⟩:=zkv l (max a b);simp only [List.foldl_cons]
  refine ⟨?_,by omega,fun t ht=>?_⟩
  .rcases h1 with h1|h1
   .rw [h1]
    by_cases h:b<=a
    .left;omega
    .right;rw [show max a b=b by omega];exact List.mem_cons_self ..
   .right;exact List.mem_cons_of_mem _ h1
  .rcases List.mem_cons.1 ht with rfl|ht
   .omega
   .exact h3 t ht
theorem zl3 {l:List Int} (h:l≠[]):mH (·∈l) ⟨TH l,TI l⟩:=by
 cases l with
 | nil=>exact absurd rfl h
 | cons a l =>
  obtain ⟨m1,m2,m3⟩:=zkd l a;obtain ⟨x1,x2,x3⟩:=zkv l a
  refine ⟨fun t ht=>?_,?_,?_⟩
  .rcases List.mem_cons.1 ht with rfl|ht
   .exact ⟨m2,x2⟩
   .exact ⟨m3 t ht,x3 t ht⟩
  .rcases m1 with h|h
   .show l.foldl min a∈_;rw [h];exact List.mem_cons_self ..
   .exact List.mem_cons_of_mem _ h
  .rcases x1 with h|h
   .show l.foldl max a∈_;rw [h];exact List.mem_cons_self ..
   .exact List.mem_cons_of_mem _ h
theorem zrc (a b c:Box):qg a b c≠[]:=by simp [qg,zP]
theorem WL (a b c:Box):mH (·∈qg a b c) (sP a b c):=zl3 (zrc a b c)
def bO (p:Pt) (b:Box):Prop:=b.x.lo<=p.x/\p.x<=b.x.hi/\b.y.lo<=p.y/\p.y<=b.y.hi
theorem zoe (α β lo hi x m M:Int) (h1:lo<=x) (h2:x<=hi) (a1:m<=α * lo + β) (a2:m<=α * hi + β) (b1:α * lo + β<=M) (b2:α * hi + β<=M):m<=α * x + β/\α * x + β<=M:=by
 by_cases h:0<=α
 .have h3:=Int.mul_le_mul_of_nonneg_left h1 h;have h4:=Int.mul_le_mul_of_nonneg_left h2 h;omega
 .have h3:=Int.mul_le_mul_of_nonpos_left (a:=α) (by omega) h1;have h4:=Int.mul_le_mul_of_nonpos_left (a:=α) (by omega) h2;omega
theorem zkU {a b c:Box} {p q r:Pt} (hp:bO p a) (hq:bO q b) (hr:bO r c):(sP a b c).lo<=qC p q r/\qC p q r<=(sP a b c).hi:=by
 have hb:=(WL a b c).bound;generalize (sP a b c).lo=m at *;generalize (sP a b c).hi=M at *;have h0:∀ p∈zP a,∀ q∈zP b,∀ r∈zP c,m<=qC p q r/\qC p q r<=M:=fun p hp q hq r hr =>
  hb _ (List.mem_flatMap.2 ⟨p,hp,List.mem_flatMap.2 ⟨q,hq,List.mem_map.2 ⟨r,hr,rfl⟩⟩⟩)
 -- from WM to all points,one point at a time
 have one:∀ (f:Pt->Int) (b:Box) (α β γ:Int),(∀ p,f p=α * p.x + β * p.y + γ)->(∀ p∈zP b,m<=f p/\f p<=M)->∀ p,bO p b->m<=f p/\f p<=M:=by
  intro f b α β γ hf hc p hp;have e1:=hc ⟨b.x.lo,b.y.lo⟩ (by simp [zP]);have e2:=hc ⟨b.x.lo,b.y.hi⟩ (by simp [zP]);have e3:=hc ⟨b.x.hi,b.y.lo⟩ (by simp [zP]);have e4:=hc ⟨b.x.hi,b.y.hi⟩ (by simp [zP]);rw [hf] at e1 e2 e3 e4 ⊢;simp only at e1 e2 e3 e4;obtain ⟨p1,p2,p3,p4⟩:=hp;have g1:=zoe α (β * b.y.lo + γ) b.x.lo b.x.hi p.x m M p1 p2 (by omega) (by omega) (by omega) (by omega);have g2:=zoe α (β * b.y.hi + γ) b.x.lo b.x.hi p.x m M p1 p2 (by omega) (by omega) (by omega) (by omega);have g3:=zoe β (α * p.x + γ) b.y.lo b.y.hi p.y m M p3 p4 (by omega) (by omega) (by omega) (by omega);omega
 have h1:∀ p∈zP a,∀ q∈zP b,∀ r,bO r c->m<=qC p q r/\qC p q r<=M:=fun p hp q hq =>
  one (fun r=>qC p q r) c (-(q.y - p.y)) (q.x - p.x) ((q.y - p.y)*p.x - (q.x - p.x)*p.y) (fun r=>by unfold qC;grind) (fun r hr=>h0 p hp q hq r hr)
 have h2:∀ p∈zP a,∀ q,bO q b->∀ r,bO r c->m<=qC p q r/\qC p q r<=M:=fun p hp q hq r hr =>
  one (fun q=>qC p q r) b (r.y - p.y) (-(r.x - p.x)) (p.y*(r.x - p.x) - p.x*(r.y - p.y)) (fun q=>by unfold qC;grind) (fun q hq=>h1 p hp q hq r hr) q hq
 exact one (fun p=>qC p q r) a (q.y - r.y) (r.x - q.x) (q.x*r.y - q.y*r.x) (fun p=>by unfold qC;grind) (fun p hp=>h2 p hp q hq r hr) p hp
theorem zhb {a b:Box} (h:fH a b) (ha:jl a) {p:Pt} (hp:p∈zP a):bO p b:=by
 unfold fH fG jl at *;simp only [zP,List.mem_cons,List.not_mem_nil,or_false] at hp;unfold bO;rcases hp with rfl|rfl|rfl|rfl<;>simp only<;>omega
theorem zrr {a b c a' b' c':Box} (ha:fH a' a) (hb:fH b' b) (hc:fH c' c) (wa:jl a') (wb:jl b') (wc:jl c'):fG (sP a' b' c') (sP a b c):=by
 have h:=WL a' b' c';have key:∀ t∈qg a' b' c',(sP a b c).lo<=t/\t<=(sP a b c).hi:=fun t ht=>by
  obtain ⟨p,hp,ht⟩:=List.mem_flatMap.1 ht;obtain ⟨q,hq,ht⟩:=List.mem_flatMap.1 ht;obtain ⟨r,hr,rfl⟩:=List.mem_map.1 ht;exact zkU (zhb ha wa hp) (zhb hb wb hq) (zhb hc wc hr)
 exact ⟨(key _ h.lo).1,(key _ h.hi).2⟩
def ng (s v:Span):Bool×Bool:=(decide (v.lo<=s.hi)&&decide (s.lo<=v.hi),decide (s.lo<=v.lo)&&decide (v.hi<=s.hi))
def CW (x y:Span):Span:=⟨x.lo*x.lo+y.lo*y.lo,x.hi*x.hi+y.hi*y.hi⟩
def nA (q:Int) (x y:Span):Span×Span:=if q=1 then (y,x) else if q=2 then (⟨-x.hi,-x.lo⟩,y) else if q=3 then (⟨-y.hi,-y.lo⟩,x) else (x,y)
def Ia (u w:Span):Bool×Bool:=(decide (0 < u.hi)&&decide ((zB w).lo<=u.hi),decide (0 < u.lo)&&decide ((zB w).hi<=u.lo))
def Ib (s x y:Span):Bool×Bool:=(decide (max x.lo y.lo<=s.hi),decide (max x.hi y.hi<=s.hi))
def Es (f:Fact) (l:List Box):Bool×Bool :=
 let a:=l[f.a.toNat]!
 let b:=l[f.b.toNat]!
 let x:=sw b.x a.x
 let y:=sw b.y a.y
 if f.kind=2 then ng f.span (sP a b l[f.c.toNat]!)
 else if f.kind=3 then Ia (nA f.quarter x y).1 (nA f.quarter x y).2
 else if f.kind=4 then Ib f.span (zB x) (zB y)
 else if f.kind=5 then ng f.span x
 else if f.kind=6 then ng f.span y
 else ng f.span (CW (zB x) (zB y))
def zJ (f:Fact) (l:List Box):Bool:=if f.nt=true then (Es f l).2 else !(Es f l).1
structure Named (f:Fact) (n:Nat):Prop where
 a:0<=f.a/\f.a < n
 b:0<=f.b/\f.b < n
 c:0<=f.c/\f.c < n
def tight (r s:Bool×Bool):Prop:=(r.1=true->s.1=true)/\(s.2=true->r.2=true)
theorem WN {s v w:Span} (h:fG v w):tight (ng s v) (ng s w):=by
 unfold tight ng fG at *;simp only [Bool.and_eq_true,decide_eq_true_eq];omega
theorem zls {a b a' b':Span} (ha:fG a' a) (hb:fG b' b):fG (sw a' b') (sw a b):=by
 unfold fG sw at *;simp only;omega
theorem WO {a b:Span} (ha:a.lo<=a.hi) (hb:b.lo<=b.hi):(sw a b).lo<=(sw a b).hi:=by unfold sw;simp only;omega
theorem zf8 {s t:Span} (h:fG s t) (hs:s.lo<=s.hi):fG (zB s) (zB t):=by
 unfold fG zB at *
 split<;>split<;>(try split)<;>(try split)<;>(try simp only at *)<;>omega
theorem WQ {s:Span} (hs:s.lo<=s.hi):0<=(zB s).lo/\(zB s).lo<=(zB s).hi:=by
 unfold zB
 split
 .exact ⟨by assumption,hs⟩
 .split<;>(simp only;omega)
theorem zr1 {x y x' y':Span} (hx:fG x' x) (hy:fG y' y) (h1:0<=x.lo) (h2:0<=y.lo) (h3:x'.lo<=x'.hi) (h4:y'.lo<=y'.hi):fG (CW x' y') (CW x y):=by
 unfold fG CW at *;have a1:=Int.mul_le_mul hx.1 hx.1 h1 (by omega);have a2:=Int.mul_le_mul hy.1 hy.1 h2 (by omega);have a3:=Int.mul_le_mul hx.2 hx.2 (by omega) (by omega);have a4:=Int.mul_le_mul hy.2 hy.2 (by omega) (by omega);simp only;omega
theorem zqe {q:Int} {x y x' y':Span} (hx:fG x' x) (hy:fG y' y):fG (nA q x' y').1 (nA q x y).1/\fG (nA q x' y').2 (nA q x y).2:=by
 unfold nA fG at *
 split
 .exact ⟨hy,hx⟩
 .split
  .simp only;omega
  .split<;>(simp only;omega)
theorem zsh {q:Int} {x y:Span} (hx:x.lo<=x.hi) (hy:y.lo<=y.hi):(nA q x y).1.lo<=(nA q x y).1.hi/\(nA q x y).2.lo<=(nA q x y).2.hi:=by
 unfold nA
 split
 .exact ⟨hy,hx⟩
 .split
  .simp only;omega
  .split<;>(simp only;omega)
theorem zoo {f:Fact} {l m:List Box} (hn:Named f m.length) (hs:aP l m) (hw:Wf l) (TJ:Wf m):tight (Es f l) (Es f m):=by
 have ha:f.a.toNat < m.length:=by have:=hn.a;omega
 have hb:f.b.toNat < m.length:=by have:=hn.b;omega
 have hc:f.c.toNat < m.length:=by have:=hn.c;omega
 have JP:f.a.toNat < l.length:=by rw [hs.1];exact ha
 have jR:f.b.toNat < l.length:=by rw [hs.1];exact hb
 have uD:f.c.toNat < l.length:=by rw [hs.1];exact hc
 have sa:=hs.2 _ JP ha;have sb:=hs.2 _ jR hb;have sc:=hs.2 _ uD hc;have wa:=hw _ (List.getElem_mem JP);have wb:=hw _ (List.getElem_mem jR);have wc:=hw _ (List.getElem_mem uD);have wa2:=TJ _ (List.getElem_mem ha);have wb2:=TJ _ (List.getElem_mem hb);unfold Es;simp only [getElem!_pos m f.a.toNat ha,getElem!_pos m f.b.toNat hb,getElem!_pos m f.c.toNat hc,getElem!_pos l f.a.toNat JP,getElem!_pos l f.b.toNat jR,getElem!_pos l f.c.toNat uD];generalize m[f.a.toNat]=a at *;generalize m[f.b.toNat]=b at *;generalize m[f.c.toNat]=c at *;generalize l[f.a.toNat]=a' at *;generalize l[f.b.toNat]=b' at *;generalize l[f.c.toNat]=c' at *;have lx:=zls sb.1 sa.1;have ly:=zls sb.2 sa.2;have wx:=WO wb.1 wa.1;have wy:=WO wb.2 wa.2;have wx2:=WO wb2.1 wa2.1;have wy2:=WO wb2.2 wa2.2;generalize hX:sw b.x a.x=X at *;generalize hY:sw b.y a.y=Y at *;generalize hX':sw b'.x a'.x=X' at *;generalize hY':sw b'.y a'.y=Y' at *
 split
 .exact WN (zrr sa sb sc wa wb wc)
 .split
  .obtain ⟨u1,u2⟩:=zqe (q:=f.quarter) lx ly;obtain ⟨u3,u4⟩:=zsh (q:=f.quarter) wx wy;have u5:=zf8 u2 u4;unfold tight Ia fG at *;simp only [Bool.and_eq_true,decide_eq_true_eq];omega
  .have ax:=zf8 lx wx;have ay:=zf8 ly wy
   split
   .unfold tight Ib fG at *;simp only [decide_eq_true_eq];omega
   .split
    .exact WN lx
    .split
     .exact WN ly
     .exact WN (zr1 ax ay (WQ wx2).1 (WQ wy2).1 (WQ wx).2 (WQ wy).2)
theorem zn2 {f:Fact} {l m:List Box} (hn:Named f m.length) (hs:aP l m) (hw:Wf l) (TJ:Wf m) (h:zJ f m=true):zJ f l=true:=by
 obtain ⟨h1,h2⟩:=zoo hn hs hw TJ;unfold zJ at *
 split
 .rename_i hnt;rw [if_pos hnt] at h;exact h2 h
 .rename_i hnt;rw [if_neg hnt] at h
  cases hb:(Es f l).1 with
  | false=>rfl
  | true=>rw [h1 hb] at h;simp at h
inductive lX (E:List (Nat×Nat)):Nat->Nat->Prop
 | refl (i:Nat):lX E i i
 | edge {a b:Nat} (h:(a,b)∈E):lX E a b
 | symm {a b:Nat} (h:lX E a b):lX E b a
 | trans {a b c:Nat} (h:lX E a b) (h':lX E b c):lX E a c
theorem lX.mono {E E':List (Nat×Nat)} (hs:∀ e∈E,e∈E') {a b:Nat} (h:lX E a b):lX E' a b:=by
 induction h with
 | refl i=>exact .refl i
 | edge h=>exact .edge (hs _ h)
 | symm _ ih=>exact .symm ih
 | trans _ _ ih1 ih2=>exact .trans ih1 ih2
theorem lX.keep {E:List (Nat×Nat)} {α:Type} (g:Nat->α) (hg:∀ e∈E,g e.1=g e.2) {a b:Nat} (h:lX E a b):g a=g b:=by
 induction h with
 | refl i=>rfl
 | edge h=>exact hg _ h
 | symm _ ih=>exact ih.symm
 | trans _ _ ih1 ih2=>exact ih1.trans ih2
structure bV (E:List (Nat×Nat)) (n:Nat) (g:Nat->Nat):Prop where
 le:∀ i,i < n->g i<=i
 conn:∀ i,i < n->lX E i (g i)
 keep:∀ e∈E,g e.1=g e.2
theorem bV.unique {E:List (Nat×Nat)} {n:Nat} {g g':Nat->Nat} (h:bV E n g) (h':bV E n g'):∀ i,i < n->g i=g' i:=fun i hi=>by
 have h1:=(h'.conn i hi).keep g h.keep;have h2:=(h.conn i hi).keep g' h'.keep;have l1:=h.le i hi;have l2:=h'.le i hi;have h3:=h.le (g' i) (by omega);have h4:=h'.le (g i) (by omega);omega
theorem bV.nil (n:Nat):bV [] n (fun i=>i):=⟨fun i _=>Nat.le_refl _,fun i _=>.refl i,fun e h=>by simp at h⟩
def Fa (g:Nat->Nat) (a b:Nat):Nat->Nat:=fun i=>if g i=max (g a) (g b) then min (g a) (g b) else g i
theorem bV.join {E:List (Nat×Nat)} {n:Nat} {g:Nat->Nat} (h:bV E n g) {a b:Nat} (ha:a < n) (hb:b < n):bV (E++[(a,b)]) n (Fa g a b):=by
 have hE:∀ e∈E,e∈E++[(a,b)]:=fun e he=>List.mem_append_left _ he;have Ci:lX (E++[(a,b)]) a b:=.edge (by simp);have ca:=(h.conn a ha).mono hE;have cb:=(h.conn b hb).mono hE
 refine ⟨fun i hi=>?_,fun i hi=>?_,fun e he=>?_⟩
 .unfold Fa;have:=h.le i hi
  split
  .rename_i e;omega
  .exact this
 .unfold Fa;have ci:=(h.conn i hi).mono hE
  split
  .rename_i e;rw [e] at ci
   refine ci.trans ?_
   rcases Nat.le_total (g a) (g b) with hl|hl
   .rw [Nat.max_eq_right hl,Nat.min_eq_left hl];exact (cb.symm.trans Ci.symm).trans ca
   .rw [Nat.max_eq_left hl,Nat.min_eq_right hl];exact (ca.symm.trans Ci).trans cb
  .exact ci
 .rcases List.mem_append.1 he with he|he
  .have:=h.keep e he;unfold Fa;rw [this]
  .simp at he;subst he;unfold Fa;simp only;rcases Nat.le_total (g a) (g b) with hl|hl
   .rw [Nat.max_eq_right hl,Nat.min_eq_left hl,if_pos rfl]
    split<;>omega
   .rw [Nat.max_eq_left hl,Nat.min_eq_right hl,if_pos rfl]
    split<;>omega
theorem bV.idem {E:List (Nat×Nat)} {n:Nat} {g:Nat->Nat} (h:bV E n g) {i:Nat} (hi:i < n):g (g i)=g i:=((h.conn i hi).keep g h.keep).symm
structure mR (E:List (Nat×Nat)) (n:Nat) (g:Nat->Nat):Prop where
 le:∀ i,i < n->g i<=i
 conn:∀ i,i < n->lX E i (g i)
theorem mR.start (E:List (Nat×Nat)) (n:Nat):mR E n (fun i=>i):=⟨fun i _=>Nat.le_refl _,fun i _=>.refl i⟩
def yf (m g:Nat->Nat) (n:Nat):Nat:=(List.range n).countP fun i=>g i == m i
theorem zlM (m g:Nat->Nat) (n:Nat):yf m g n<=n:=by
 have:=List.countP_le_length (p:=fun i=>g i == m i) (l:=List.range n)
 simpa [yf] using this
theorem zhZ {m g g':Nat->Nat} {n:Nat} (h:∀ i,i < n->g i=m i->g' i=m i):yf m g n<=yf m g' n:=by
 unfold yf
 refine List.countP_mono_left fun i hi h1=>?_
 simp at *;exact h i hi h1
theorem zmF {m g g':Nat->Nat} {n:Nat} (h:∀ i,i < n->g i=m i->g' i=m i) {j:Nat} (hj:j < n) (h1:g j≠m j) (h2:g' j=m j):yf m g n < yf m g' n:=by
 induction n with
 | zero=>omega
 | succ n ih =>
  unfold yf at *;rw [List.range_succ,List.countP_append,List.countP_append];simp only [List.countP_singleton]
  by_cases e:j=n
  .subst e;have:=zhZ (m:=m) (g:=g) (g':=g') (n:=j) (fun i hi=>h i (by omega));unfold yf at this;simp [h1,h2];omega
  .have:=ih (fun i hi=>h i (by omega)) (by omega)
   by_cases e1:g n=m n
   .have:=h n (by omega) e1;simp [e1,this];omega
   .simp [e1]
    split<;>omega
theorem zpI {m g:Nat->Nat} {n:Nat} (h:n<=yf m g n):∀ i,i < n->g i=m i:=by
 intro i hi;have:=List.countP_eq_length.1 (show (List.range n).countP (fun i=>g i == m i)=(List.range n).length by
  have h1:=zlM m g n;unfold yf at *;rw [List.length_range];omega) i (List.mem_range.2 hi)
 simpa using this
theorem zna {E:List (Nat×Nat)} {n:Nat} {m g g':Nat->Nat} (hm:bV E n m) (hE:∀ e∈E,e.1 < n/\e.2 < n) (h:mR E n g) (h':mR E n g') (hle:∀ i,i < n->g' i<=g i) (hr:∀ e∈E,g' e.1<=g e.2/\g' e.2<=g e.1) :
  n<=yf m g' n\/yf m g n < yf m g' n:=by
 -- labels never pass the least one
 have low:∀ (f:Nat->Nat),mR E n f->∀ i,i < n->m i<=f i:=fun f hf i hi=>by
  have h1:=(hf.conn i hi).keep m hm.keep;have h2:=hf.le i hi;have h3:=hm.le (f i) (by omega);omega
 have Ic:∀ i,i < n->g i=m i->g' i=m i:=fun i hi e=>by
  have:=low g' h' i hi;have:=hle i hi;omega
 by_cases fq:∀ i,i < n->g i=m i
 .left;have:=zhZ (m:=m) (g:=m) (g':=g') (n:=n) fun i hi _=>Ic i hi (fq i hi);have h1:yf m m n=n:=by simp [yf]
  omega
 .right
  -- an edge from a label that is done to one that is not
  have key:∃ e∈E,(g e.1=m e.1/\g e.2≠m e.2)\/(g e.2=m e.2/\g e.1≠m e.1):=by
   refine Classical.byContradiction fun hc=>fq fun i hi=>?_
   -- being done is kept by the RI,and the first point of a part is done
   have hk:=(hm.conn i hi).keep (fun j=>decide (g j=m j)) (fun e he=>by
    rw [decide_eq_decide]
    constructor
    .intro h1;exact Classical.byContradiction fun h2=>hc ⟨e,he,.inl ⟨h1,h2⟩⟩
    .intro h1;exact Classical.byContradiction fun h2=>hc ⟨e,he,.inr ⟨h1,h2⟩⟩)
   rw [decide_eq_decide] at hk
   refine hk.2 ?_
   have hmi:=hm.le i hi;have h1:=low g h (m i) (by omega);have h2:=h.le (m i) (by omega);have h3:=hm.idem hi;omega
  obtain ⟨e,he,hx⟩:=key;obtain ⟨e1,e2⟩:=hE e he;have h3:=hm.keep e he;have h4:=hr e he;rcases hx with ⟨a1,a2⟩|⟨a1,a2⟩
  .refine zmF Ic e2 a2 ?_
   have:=low g' h' e.2 e2;omega
  .refine zmF Ic e1 a2 ?_
   have:=low g' h' e.1 e1;omega
def Af (f:Fact):List (Nat×Nat):=(f.a.toNat,f.b.toNat)::if f.kind=2 then [(f.a.toNat,f.c.toNat)] else []
def pF (fs:List Fact):List (Nat×Nat):=fs.flatMap Af
def rD (g:Nat->Nat) (n i:Nat):List Nat:=(List.range n).filter fun k=>g k == i
def pG (g:Nat->Nat) (n:Nat):List (List Nat):=((List.range n).filter fun i=>g i == i).map (rD g n)
theorem zeV {g g':Nat->Nat} {n:Nat} (h:∀ i,i < n->g i=g' i):pG g n=pG g' n:=by
 have h1:∀ i,rD g n i=rD g' n i:=fun i=>by
  unfold rD
  refine List.filter_congr fun k hk=>?_
  rw [h k (List.mem_range.1 hk)]
 unfold pG;rw [List.filter_congr (q:=fun i=>g' i == i) fun k hk=>by rw [h k (List.mem_range.1 hk)]];exact List.map_congr_left fun i _=>h1 i
def bT (p:Pt):Box:=⟨⟨p.x,p.x⟩,⟨p.y,p.y⟩⟩
def BG (s:Span):List Int:=(List.range (s.hi - s.lo+1).toNat).map fun i=>s.lo+(i:Nat)
def uh (b:Box):List Pt:=(BG b.x).flatMap fun x=>(BG b.y).map fun y=>⟨x,y⟩
theorem oF {s:Span} {v:Int}:v∈BG s↔s.lo<=v/\v<=s.hi:=by
 unfold BG;simp only [List.mem_map,List.mem_range]
 constructor
 .rintro ⟨i,hi,rfl⟩;omega
 .rintro ⟨h1,h2⟩;exact ⟨(v - s.lo).toNat,by omega,by omega⟩
theorem mem_places {b:Box} {p:Pt}:p∈uh b↔bO p b:=by
 unfold uh bO;simp only [List.mem_flatMap,List.mem_map]
 constructor
 .rintro ⟨x,hx,y,hy,rfl⟩;have h1:=oF.1 hx;have h2:=oF.1 hy;exact ⟨h1.1,h1.2,h2.1,h2.2⟩
 .rintro ⟨h1,h2,h3,h4⟩;exact ⟨p.x,oF.2 ⟨h1,h2⟩,p.y,oF.2 ⟨h3,h4⟩,rfl⟩
theorem TK (s:Span):(BG s).length=(s.hi - s.lo+1).toNat:=by simp [BG]
theorem zfl {α β:Type} (f:α->List β) (n:Nat):∀ l:List α,(∀ a∈l,(f a).length=n)->(l.flatMap f).length=l.length*n
 | [],_=>by simp
 | a::l,h=>by
  rw [List.flatMap_cons,List.length_append,zfl f n l (fun b hb=>h b (List.mem_cons_of_mem _ hb)),h a (List.mem_cons_self ..),List.length_cons,Nat.add_mul];omega
theorem zfT (b:Box):(uh b).length=(b.x.hi - b.x.lo+1).toNat*(b.y.hi - b.y.lo+1).toNat:=by
 unfold uh;rw [zfl _ (b.y.hi - b.y.lo+1).toNat _ (fun a _=>by simp [TK]),TK]
def nT (l:List Box):List Nat->List (List Pt)
 | []=>[[]]
 | i::rest=>(uh l[i]!).flatMap fun x=>(nT l rest).map (x :: ·)
def wh (ok:Nat->List Box->Bool) (l:List Box):List Nat->Nat->List Box->List (List Pt)
 | [],_,_=>[[]]
 | i::rest,k,here=>(uh l[i]!).flatMap fun x=>if ok k (here.set i (bT x))=true then (wh ok l rest (k+1) (here.set i (bT x))).map (x :: ·) else []
def Jo (ok:Nat->List Box->Bool):List Nat->Nat->List Box->List Pt->Bool
 | i::rest,k,here,x::c=>ok k (here.set i (bT x))&&Jo ok rest (k+1) (here.set i (bT x)) c
 | _,_,_,_=>true
theorem zff {α β:Type} (p:β->Bool) (f:α->List β):∀ l:List α,(l.flatMap f).filter p=l.flatMap fun a=>(f a).filter p
 | []=>rfl
 | a::l=>by rw [List.flatMap_cons,List.flatMap_cons,List.filter_append,zff p f l]
theorem zfn {α β:Type} {f g:α->List β}:∀ {l:List α},(∀ a∈l,f a=g a)->l.flatMap f=l.flatMap g
 | [],_=>rfl
 | a::l,h=>by rw [List.flatMap_cons,List.flatMap_cons,h a (List.mem_cons_self ..),zfn fun b hb=>h b (List.mem_cons_of_mem _ hb)]
theorem WR (ok:Nat->List Box->Bool) (l:List Box):∀ (part:List Nat) (k:Nat) (here:List Box),wh ok l part k here=(nT l part).filter (Jo ok part k here)
 | [],k,here=>by simp [wh,nT,Jo]
 | i::rest,k,here=>by
  rw [wh,nT,zff]
  refine zfn fun x _=>?_
  rw [List.filter_map];have ih:=WR ok l rest (k+1) (here.set i (bT x))
  by_cases h:ok k (here.set i (bT x))=true
  .rw [if_pos h,ih]
   congr 2
   funext c
   simp [Jo,h]
  .rw [if_neg h];have:(Jo ok (i::rest) k here ∘ fun c=>x::c)=fun _=>false:=by
    funext c
    simp only [Function.comp_def,Jo];simp at h;simp [h]
   rw [this];simp
theorem ziO {l:List Box}:∀ {part:List Nat} {c:List Pt},c∈nT l part↔c.length=part.length/\∀ k (h:k < part.length) (h':k < c.length),bO c[k] l[part[k]]!
 | [],c=>by
  simp only [nT,List.mem_singleton,List.length_nil]
  constructor
  .rintro rfl;exact ⟨rfl,fun k h=>by simp at h⟩
  .rintro ⟨h,_⟩;exact List.eq_nil_of_length_eq_zero h
 | i::rest,c=>by
  simp only [nT,List.mem_flatMap,List.mem_map]
  constructor
  .rintro ⟨x,hx,d,hd,rfl⟩;obtain ⟨h1,h2⟩:=(ziO (l:=l)).1 hd
   refine ⟨by simp [h1],fun k h h'=>?_⟩
   cases k with
   | zero=>simpa using mem_places.1 hx
   | succ k=>simpa using h2 k (by simpa using h) (by simpa using h')
  .rintro ⟨h1,h2⟩
   cases c with
   | nil=>simp at h1
   | cons x d =>
    refine ⟨x,mem_places.2 (h2 0 (by simp) (by simp)),d,(ziO (l:=l)).2 ⟨by simpa using h1,fun k h h'=>?_⟩,rfl⟩
    exact h2 (k+1) (by simp;omega) (by simp;omega)
def zrE (f:Fact) (l m:List Box):Prop:=l[f.a.toNat]! = m[f.a.toNat]! /\ l[f.b.toNat]! = m[f.b.toNat]! /\ (f.kind=2->l[f.c.toNat]! = m[f.c.toNat]!)
theorem Jp {f:Fact} {l m:List Box} (h:zrE f l m):zJ f l=zJ f m:=by
 obtain ⟨h1,h2,h3⟩:=h;unfold zJ Es;rw [h1,h2]
 by_cases hk:f.kind=2
 .rw [h3 hk]
 .simp only [if_neg hk]
def uU:List Nat->List Pt->List Box->List Box
 | i::part,x::c,here=>uU part c (here.set i (bT x))
 | _,_,here=>here
theorem WS:∀ (part:List Nat) (c:List Pt) (here:List Box) (j:Nat),j ∉ part->(uU part c here)[j]! = here[j]!
 | [],_,_,_,_=>by simp [uU]
 | _::_,[],_,_,_=>by simp [uU]
 | i::part,x::c,here,j,h=>by
  rw [uU,WS part c _ j (fun hm=>h (List.mem_cons_of_mem _ hm))];have:i≠j:=fun e=>h (by rw [e];exact List.mem_cons_self ..);simp [List.getElem?_set,this]
theorem zkl:∀ (part:List Nat) (c:List Pt) (here:List Box),part.Nodup->c.length=part.length->(∀ i∈part,i < here.length)->∀ k (h:k < part.length) (h':k < c.length),(uU part c here)[part[k]]! = bT c[k]
 | [],_,_,_,_,_,k,h,_=>by simp at h
 | _::_,[],_,_,hc,_,_,_,_=>by simp at hc
 | i::part,x::c,here,hn,hc,hi,k,h,h'=>by
  rw [uU];have jD:=List.nodup_cons.1 hn
  cases k with
  | zero =>
   simp only [List.getElem_cons_zero];rw [WS _ _ _ _ jD.1];have:=hi i (List.mem_cons_self ..);simp [List.getElem?_set,this]
  | succ k =>
   simp only [List.getElem_cons_succ];exact zkl part c _ jD.2 (by simpa using hc) (fun j hj=>by rw [List.length_set];exact hi j (List.mem_cons_of_mem _ hj)) k (by simpa using h) (by simpa using h')
def Gl (part:List Nat) (f:Fact):Nat:=max (max (part.idxOf f.a.toNat) (part.idxOf f.b.toNat)) (if f.kind=2 then part.idxOf f.c.toNat else 0)
structure Within (part:List Nat) (f:Fact):Prop where
 a:f.a.toNat∈part
 b:f.b.toNat∈part
 c:f.kind=2->f.c.toNat∈part
theorem zja {part:List Nat} {c:List Pt} {here:List Box} {f:Fact} (hn:part.Nodup) (hw:Within part f) {k:Nat} (hk:Gl part f < k):zrE f (uU (part.take k) (c.take k) here) (uU part c here):=by
 have key:∀ (part:List Nat) (c:List Pt) (here:List Box) (k j:Nat),part.Nodup->j∈part->part.idxOf j < k->(uU (part.take k) (c.take k) here)[j]! = (uU part c here)[j]! := by
  intro part
  induction part with
  | nil=>intro c here k j _ hj;simp at hj
  | cons i part ih =>
   intro c here k j hn hj hk
   cases k with
   | zero=>omega
   | succ k =>
    cases c with
    | nil=>simp [uU]
    | cons x c =>
     simp only [List.take_succ_cons,uU];have jD:=List.nodup_cons.1 hn
     by_cases e:i=j
     .subst e;rw [WS _ _ _ _ (fun h=>jD.1 (List.mem_of_mem_take h)),WS _ _ _ _ jD.1]
     .have oZ:j∈part:=by
       rcases List.mem_cons.1 hj with h|h
       .exact absurd h.symm e
       .exact h
      rw [List.idxOf_cons] at hk;have:(i == j)=false:=by simpa using e
      rw [this] at hk;simp only [cond_false] at hk;exact ih c _ k j jD.2 oZ (by omega)
 unfold Gl at hk
 refine ⟨key _ _ _ _ _ hn hw.a (by omega),key _ _ _ _ _ hn hw.b (by omega),fun h2=>?_⟩
 rw [if_pos h2] at hk;exact key _ _ _ _ _ hn (hw.c h2) (by omega)
def sQ (facts:List Fact) (part:List Nat) (k:Nat) (here:List Box):Bool:=facts.all fun f=>!(part.contains f.a.toNat&&decide (Gl part f=k)) || !zJ f here
theorem zj7 {facts:List Fact} {whole:List Nat}:∀ (rest:List Nat) (k:Nat) (here:List Box) (c:List Pt),c.length=rest.length ->
  (Jo (sQ facts whole) rest k here c=true↔∀ j,j < rest.length->sQ facts whole (k+j) (uU (rest.take (j+1)) (c.take (j+1)) here)=true)
 | [],k,here,c,hc=>by simp [Jo]
 | i::rest,k,here,[],hc=>by simp at hc
 | i::rest,k,here,x::c,hc=>by
  have ih:=zj7 (facts:=facts) (whole:=whole) rest (k+1) (here.set i (bT x)) c (by simpa using hc);rw [Jo,Bool.and_eq_true,ih]
  constructor
  .rintro ⟨h1,h2⟩ j hj
   cases j with
   | zero=>simpa [uU] using h1
   | succ j =>
    have:=h2 j (by simpa using hj);rw [show k+(j+1)=k+1+j by omega]
    simpa [uU] using this
  .intro h
   refine ⟨by simpa [uU] using h 0 (by simp),fun j hj=>?_⟩
   have:=h (j+1) (by simpa using hj);rw [show k+(j+1)=k+1+j by omega] at this
   simpa [uU] using this
theorem zj2 {facts:List Fact} {part:List Nat} {l:List Box} {c:List Pt} (hn:part.Nodup) (hc:c.length=part.length) (hw:∀ f∈facts,f.a.toNat∈part->Within part f) :
  Jo (sQ facts part) part 0 l c=true↔∀ f∈facts,f.a.toNat∈part->zJ f (uU part c l)=false:=by
 rw [zj7 part 0 l c hc];have uV:∀ f∈facts,f.a.toNat∈part->Gl part f < part.length:=fun f hf ha=>by
  have w:=hw f hf ha;have h1:=List.idxOf_lt_length_of_mem w.a;have h2:=List.idxOf_lt_length_of_mem w.b;unfold Gl
  by_cases h3:f.kind=2
  .have:=List.idxOf_lt_length_of_mem (w.c h3);rw [if_pos h3];omega
  .rw [if_neg h3];omega
 constructor
 .intro h f hf ha;have h1:=h (Gl part f) (uV f hf ha);unfold sQ at h1;rw [List.all_eq_true] at h1;have h2:=h1 f hf;simp only [Nat.zero_add,decide_true,Bool.and_true,Bool.or_eq_true,Bool.not_eq_true',List.contains_iff_mem,List.elem_eq_mem] at h2;rw [<- Jp (zja (k:=Gl part f+1) hn (hw f hf ha) (by omega))];rcases h2 with h2|h2
  .simp [ha] at h2
  .exact h2
 .intro h j hj;unfold sQ;rw [List.all_eq_true];intro f hf
  by_cases ha:f.a.toNat∈part
  .by_cases hk:Gl part f=j
   .have:=h f hf ha;rw [<- Jp (zja (k:=j+1) hn (hw f hf ha) (by omega))] at this;simp [this]
   .simp [hk]
  .simp [ha]
def jJ (facts:List Fact) (l:List Box) (part:List Nat):List (List Pt):=wh (sQ facts part) l part 0 l
theorem QM {facts:List Fact} {l:List Box} {part:List Nat} (hn:part.Nodup) (hw:∀ f∈facts,f.a.toNat∈part->Within part f) {c:List Pt} :
  c∈jJ facts l part↔(c.length=part.length/\∀ k (h:k < part.length) (h':k < c.length),bO c[k] l[part[k]]!)/\∀ f∈facts,f.a.toNat∈part->zJ f (uU part c l)=false:=by
 unfold jJ;rw [WR,List.mem_filter,ziO]
 constructor
 .rintro ⟨h1,h2⟩;exact ⟨h1,(zj2 hn h1.1 hw).1 h2⟩
 .rintro ⟨h1,h2⟩;exact ⟨h1,(zj2 hn h1.1 hw).2 h2⟩
def Fb {α:Type} (key:α->Int) (o:Option α) (c:α):Option α:=match o with
 | none=>some c
 | some d=>if key c < key d then some c else some d
def TL {α:Type} (key:α->Int) (l:List α):Option α:=l.foldl (Fb key) none
theorem zgX {α:Type} (key:α->Int):∀ (l:List α) (d:α),∃ e,l.foldl (Fb key) (some d)=some e/\(e=d\/e∈l)/\key e<=key d/\∀ c∈l,key e<=key c
 | [],d=>⟨d,rfl,.inl rfl,Int.le_refl _,by simp⟩
 | a::l,d=>by
  rw [List.foldl_cons,Fb]
  split
  .rename_i h;obtain ⟨e,h1,h2,h3,h4⟩:=zgX key l a
   refine ⟨e,h1,?_,by omega,fun c hc=>?_⟩
   .rcases h2 with rfl|h2
    .exact .inr (List.mem_cons_self ..)
    .exact .inr (List.mem_cons_of_mem _ h2)
   .rcases List.mem_cons.1 hc with rfl|hc
    .exact h3
    .exact h4 c hc
  .rename_i h;obtain ⟨e,h1,h2,h3,h4⟩:=zgX key l d
   refine ⟨e,h1,?_,h3,fun c hc=>?_⟩
   .rcases h2 with rfl|h2
    .exact .inl rfl
    .exact .inr (List.mem_cons_of_mem _ h2)
   .rcases List.mem_cons.1 hc with rfl|hc
    .omega
    .exact h4 c hc
theorem zsG {α:Type} (key:α->Int) {l:List α} (h:l≠[]):∃ e,TL key l=some e/\e∈l/\∀ c∈l,key e<=key c:=by
 cases l with
 | nil=>exact absurd rfl h
 | cons a l =>
  obtain ⟨e,h1,h2,h3,h4⟩:=zgX key l a
  refine ⟨e,h1,?_,fun c hc=>?_⟩
  .rcases h2 with rfl|h2
   .exact List.mem_cons_self ..
   .exact List.mem_cons_of_mem _ h2
  .rcases List.mem_cons.1 hc with rfl|hc
   .exact h3
   .exact h4 c hc
set_option maxHeartbeats 1000000
def bE (s:Span) (w:Nat):Int:=if w % 2=0 then s.lo else s.hi
def yg (a b c:Box) (k:Nat):Int:=qC ⟨bE a.x k,bE a.y (k / 2)⟩ ⟨bE b.x (k / 4),bE b.y (k / 8)⟩ ⟨bE c.x (k / 16),bE c.y (k / 32)⟩
theorem zlT {b:Box} {p:Pt}:p∈zP b↔∃ i j,i < 2/\j < 2/\p=⟨bE b.x i,bE b.y j⟩:=by
 unfold zP;simp only [List.mem_cons,List.not_mem_nil,or_false]
 constructor
 .rintro (rfl|rfl|rfl|rfl)
  .exact ⟨0,0,by omega,by omega,rfl⟩
  .exact ⟨0,1,by omega,by omega,rfl⟩
  .exact ⟨1,0,by omega,by omega,rfl⟩
  .exact ⟨1,1,by omega,by omega,rfl⟩
 .rintro ⟨i,j,hi,hj,rfl⟩;rcases (by omega:i=0\/i=1) with rfl|rfl<;>rcases (by omega:j=0\/j=1) with rfl|rfl<;>simp [bE]
theorem Gm {s:Span} {i j:Nat} (h:i % 2=j % 2):bE s i=bE s j:=by unfold bE;rw [h]
theorem rR {a b c:Box} {t:Int}:t∈qg a b c↔∃ k,k < 64/\yg a b c k=t:=by
 unfold qg;simp only [List.mem_flatMap,List.mem_map,zlT]
 constructor
 .rintro ⟨p,⟨i1,j1,a1,a2,rfl⟩,q,⟨i2,j2,b1,b2,rfl⟩,r,⟨i3,j3,c1,c2,rfl⟩,rfl⟩
  refine ⟨i1+2*j1+4*i2+8*j2+16*i3+32*j3,by omega,?_⟩
  unfold yg;rw [Gm (s:=a.x) (j:=i1) (by omega),Gm (s:=a.y) (j:=j1) (by omega),Gm (s:=b.x) (j:=i2) (by omega),Gm (s:=b.y) (j:=j2) (by omega),Gm (s:=c.x) (j:=i3) (by omega),Gm (s:=c.y) (j:=j3) (by omega)]
 .rintro ⟨k,hk,rfl⟩
  refine ⟨_,⟨k % 2,k / 2 % 2,by omega,by omega,rfl⟩,_,⟨k / 4 % 2,k / 8 % 2,by omega,by omega,rfl⟩,_,⟨k / 16 % 2,k / 32 % 2,by omega,by omega,rfl⟩,?_⟩
  unfold yg;rw [Gm (s:=a.x) (j:=k) (by omega),Gm (s:=a.y) (j:=k / 2) (by omega),Gm (s:=b.x) (j:=k / 4) (by omega),Gm (s:=b.y) (j:=k / 8) (by omega),Gm (s:=c.x) (j:=k / 16) (by omega),Gm (s:=c.y) (j:=k / 32) (by omega)]
def OC (a b c:Box) (k:Nat) (v:Span):Prop:=mH (fun t=>∃ j,j < k/\yg a b c j=t) v
theorem zgs (a b c:Box):OC a b c 1 ⟨yg a b c 0,yg a b c 0⟩:=⟨fun t ⟨j,hj,e⟩=>by
 have:j=0:=by omega
 subst this;subst e;exact ⟨Int.le_refl _,Int.le_refl _⟩,⟨0,by omega,rfl⟩,⟨0,by omega,rfl⟩⟩
theorem zlX {a b c:Box} {k:Nat} {v:Span} (h:OC a b c k v):OC a b c (k+1) ⟨min v.lo (yg a b c k),max v.hi (yg a b c k)⟩:=by
 obtain ⟨h1,⟨j1,g1,e1⟩,⟨j2,g2,e2⟩⟩:=h
 refine ⟨fun t ⟨j,hj,e⟩=>?_,?_,?_⟩
 .simp only
  by_cases hjk:j=k
  .subst hjk;omega
  .have:=h1 t ⟨j,by omega,e⟩;omega
 .simp only;rcases Int.le_total v.lo (yg a b c k) with h|h
  .exact ⟨j1,by omega,by rw [e1];omega⟩
  .exact ⟨k,by omega,by omega⟩
 .simp only;rcases Int.le_total v.hi (yg a b c k) with h|h
  .exact ⟨k,by omega,by omega⟩
  .exact ⟨j2,by omega,by rw [e2];omega⟩
theorem znf {a b c:Box} {v:Span} (h:OC a b c 64 v):v=sP a b c:=by
 refine mH.unique (T:=(·∈qg a b c)) ⟨fun t ht=>h.bound t (rR.1 ht),rR.2 h.lo,rR.2 h.hi⟩ (WL a b c)
def Jq (l:List Int) (k:Nat) (v:Span):Prop:=mH (fun t=>∃ j,∃ h:j < l.length,j < k/\l[j]=t) v
theorem zkW {l:List Int} (h:0 < l.length):Jq l 1 ⟨l[0],l[0]⟩:=⟨fun t ⟨j,hl,hj,e⟩=>by
 have:j=0:=by omega
 subst this;subst e;exact ⟨Int.le_refl _,Int.le_refl _⟩,⟨0,h,by omega,rfl⟩,⟨0,h,by omega,rfl⟩⟩
theorem zlG {l:List Int} {k:Nat} (hk:k < l.length) {v:Span} (h:Jq l k v):Jq l (k+1) ⟨min v.lo l[k],max v.hi l[k]⟩:=by
 obtain ⟨h1,⟨j1,g0,g1,e1⟩,⟨j2,g3,g2,e2⟩⟩:=h
 refine ⟨fun t ⟨j,hl,hj,e⟩=>?_,?_,?_⟩
 .simp only
  by_cases hjk:j=k
  .subst hjk;omega
  .have:=h1 t ⟨j,hl,by omega,e⟩;omega
 .simp only;rcases Int.le_total v.lo l[k] with h|h
  .exact ⟨j1,g0,by omega,by rw [e1];omega⟩
  .exact ⟨k,hk,by omega,by omega⟩
 .simp only;rcases Int.le_total v.hi l[k] with h|h
  .exact ⟨k,hk,by omega,by omega⟩
  .exact ⟨j2,g3,by omega,by rw [e2];omega⟩
theorem znI {a b c:Box} {v:Span} (h:Jq (qg a b c) (qg a b c).length v):v=sP a b c:=by
 have key:∀ t,(∃ j,∃ hj:j < (qg a b c).length,j < (qg a b c).length/\(qg a b c)[j]=t)↔t∈qg a b c:=fun t=>by
  rw [List.mem_iff_getElem]
  constructor
  .rintro ⟨j,hj,_,e⟩;exact ⟨j,hj,e⟩
  .rintro ⟨j,hj,e⟩;exact ⟨j,hj,hj,e⟩
 exact mH.unique (T:=(·∈qg a b c)) ⟨fun t ht=>h.bound t ((key t).2 ht),(key _).1 h.lo,(key _).1 h.hi⟩ (WL a b c)
theorem zqH (a b c:Box) (i j k:Nat) (hi:i < 4) (hj:j < 4) (hk:k < 4):(qg a b c)[16*i+4*j+k]?=some (qC ((zP a)[i]'hi) ((zP b)[j]'hj) ((zP c)[k]'hk)):=by
 rcases (by omega:i=0\/i=1\/i=2\/i=3) with rfl|rfl|rfl|rfl<;>rcases (by omega:j=0\/j=1\/j=2\/j=3) with rfl|rfl|rfl|rfl<;>rcases (by omega:k=0\/k=1\/k=2\/k=3) with rfl|rfl|rfl|rfl<;>rfl
theorem zkM (a b c:Box):(qg a b c).length=64:=rfl
theorem zmq {s:Span} (h:s.lo<=s.hi):(if s.lo<=0/\0<=s.hi then (⟨0,max s.hi (-s.lo)⟩:Span) else ⟨min (max s.lo (-s.lo)) (max s.hi (-s.hi)),max s.hi (-s.lo)⟩)=zB s:=by
 obtain ⟨lo,hi⟩:=s;unfold zB;simp only at *
 split<;>split<;>(try split)<;>rw [Span.mk.injEq]<;>exact ⟨by omega,by omega⟩
end Go.Proofs.YtmmhnfghklppiaaGreat.Vm
