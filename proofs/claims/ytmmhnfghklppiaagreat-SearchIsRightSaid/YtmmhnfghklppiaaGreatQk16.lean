/- What facts say of boxes: plain Lean. Parts: which points are connected by facts. Plain Lean. Choices of points of a part, and those that are solutions. Plain Lean. What a fact says of boxes, and of all points in them: plain Lean. The specification's ways to the same values: plain Lean. -/
import Derived.Test.YtmmhnfghklppiaaGreatQk9
namespace Go.Proofs.YtmmhnfghklppiaaGreat.Vm
open Go
set_option linter.unusedSimpArgs false
set_option linter.unusedVariables false
set_option maxHeartbeats 4000000
def zbC (a b:Span):Span:=⟨a.lo - b.hi,a.hi - b.lo⟩
def zK (s:Span):Span:=if 0<=s.lo then s else if s.hi<=0 then ⟨-s.hi,-s.lo⟩ else ⟨0,max (-s.lo) s.hi⟩
def zbg (a b c:Pt):Int:=(b.x - a.x)*(c.y - a.y) - (b.y - a.y)*(c.x - a.x)
def zL (b:Box):List Pt:=[⟨b.x.lo,b.y.lo⟩,⟨b.x.lo,b.y.hi⟩,⟨b.x.hi,b.y.lo⟩,⟨b.x.hi,b.y.hi⟩]
def zaC (a b c:Box):List Int:=(zL a).flatMap fun p=>(zL b).flatMap fun q=>(zL c).map fun r=>zbg p q r
def minL:List Int->Int
 | []=>0
 | a::l=>l.foldl min a
def maxL:List Int->Int
 | []=>0
 | a::l=>l.foldl max a
def zcf (a b c:Box):Span:=⟨minL (zaC a b c),maxL (zaC a b c)⟩
structure SpanOf (T:Int->Prop) (v:Span):Prop where
 bound:∀ t,T t->v.lo<=t/\t<=v.hi
 lo:T v.lo
 hi:T v.hi
theorem SpanOf.unique {T:Int->Prop} {v w:Span} (h:SpanOf T v) (h':SpanOf T w):v=w:=by
 have h1:=h.bound _ h'.lo;have h2:=h.bound _ h'.hi;have h3:=h'.bound _ h.lo;have h4:=h'.bound _ h.hi;obtain ⟨a,b⟩:=v;obtain ⟨c,d⟩:=w;simp only [Span.mk.injEq] at *;omega
theorem zjY:∀ (l:List Int) (a:Int),(l.foldl min a=a\/l.foldl min a∈l)/\l.foldl min a<=a/\∀ t∈l,l.foldl min a<=t
 | [],a=>by simp
 | b::l,a=>by
  obtain ⟨h1,h2,h3⟩:=zjY l (min a b);simp only [List.foldl_cons]
  refine ⟨?_,by omega,fun t ht=>?_⟩
  ·rcases h1 with h1|h1
   ·rw [h1]
    by_cases h:a<=b
    ·left;omega
    ·right;rw [show min a b=b by omega];exact List.mem_cons_self ..
   ·right;exact List.mem_cons_of_mem _ h1
  ·rcases List.mem_cons.1 ht with rfl|ht
   ·omega
   ·exact h3 t ht
theorem zjP:∀ (l:List Int) (a:Int),(l.foldl max a=a\/l.foldl max a∈l)/\a<=l.foldl max a/\∀ t∈l,t<=l.foldl max a
 | [],a=>by simp
 | b::l,a=>by
  obtain ⟨h1,h2,h3⟩:=zjP l (max a b);simp only [List.foldl_cons]
  refine ⟨?_,by omega,fun t ht=>?_⟩
  ·rcases h1 with h1|h1
   ·rw [h1]
    by_cases h:b<=a
    ·left;omega
    ·right;rw [show max a b=b by omega];exact List.mem_cons_self ..
   ·right;exact List.mem_cons_of_mem _ h1
  ·rcases List.mem_cons.1 ht with rfl|ht
   ·omega
   ·exact h3 t ht
theorem zlm {l:List Int} (h:l≠[]):SpanOf (·∈l) ⟨minL l,maxL l⟩:=by
 cases l with
 | nil=>exact absurd rfl h
 | cons a l =>
  obtain ⟨m1,m2,m3⟩:=zjY l a;obtain ⟨x1,x2,x3⟩:=zjP l a
  refine ⟨fun t ht=>?_,?_,?_⟩
  ·rcases List.mem_cons.1 ht with rfl|ht
   ·exact ⟨m2,x2⟩
   ·exact ⟨m3 t ht,x3 t ht⟩
  ·rcases m1 with h|h
   ·show l.foldl min a∈_;rw [h];exact List.mem_cons_self ..
   ·exact List.mem_cons_of_mem _ h
  ·rcases x1 with h|h
   ·show l.foldl max a∈_;rw [h];exact List.mem_cons_self ..
   ·exact List.mem_cons_of_mem _ h
theorem zp6 (a b c:Box):zaC a b c≠[]:=by simp [zaC,zL]
theorem zet (a b c:Box):SpanOf (·∈zaC a b c) (zcf a b c):=zlm (zp6 a b c)
def inB' (p:Pt) (b:Box):Prop:=b.x.lo<=p.x/\p.x<=b.x.hi/\b.y.lo<=p.y/\p.y<=b.y.hi
theorem zn3 (α β lo hi x m M:Int) (h1:lo<=x) (h2:x<=hi) (a1:m<=α * lo + β) (a2:m<=α * hi + β) (b1:α * lo + β<=M) (b2:α * hi + β<=M):m<=α * x + β/\α * x + β<=M:=by
 by_cases h:0<=α
 ·have h3:=Int.mul_le_mul_of_nonneg_left h1 h;have h4:=Int.mul_le_mul_of_nonneg_left h2 h;omega
 ·have h3:=Int.mul_le_mul_of_nonpos_left (a:=α) (by omega) h1;have h4:=Int.mul_le_mul_of_nonpos_left (a:=α) (by omega) h2;omega
theorem zkV {a b c:Box} {p q r:Pt} (hp:inB' p a) (hq:inB' q b) (hr:inB' r c):(zcf a b c).lo<=zbg p q r/\zbg p q r<=(zcf a b c).hi:=by
 have hb:=(zet a b c).bound;generalize (zcf a b c).lo=m at *;generalize (zcf a b c).hi=M at *;have h0:∀ p∈zL a,∀ q∈zL b,∀ r∈zL c,m<=zbg p q r/\zbg p q r<=M:=fun p hp q hq r hr =>
  hb _ (List.mem_flatMap.2 ⟨p,hp,List.mem_flatMap.2 ⟨q,hq,List.mem_map.2 ⟨r,hr,rfl⟩⟩⟩)
 -- from corners to all points,one point at a time
 have one:∀ (f:Pt->Int) (b:Box) (α β γ:Int),(∀ p,f p=α * p.x + β * p.y + γ)->(∀ p∈zL b,m<=f p/\f p<=M)->∀ p,inB' p b->m<=f p/\f p<=M:=by
  intro f b α β γ hf hc p hp;have e1:=hc ⟨b.x.lo,b.y.lo⟩ (by simp [zL]);have e2:=hc ⟨b.x.lo,b.y.hi⟩ (by simp [zL]);have e3:=hc ⟨b.x.hi,b.y.lo⟩ (by simp [zL]);have e4:=hc ⟨b.x.hi,b.y.hi⟩ (by simp [zL]);rw [hf] at e1 e2 e3 e4 ⊢;simp only at e1 e2 e3 e4;obtain ⟨p1,p2,p3,p4⟩:=hp;have g1:=zn3 α (β * b.y.lo + γ) b.x.lo b.x.hi p.x m M p1 p2 (by omega) (by omega) (by omega) (by omega);have g2:=zn3 α (β * b.y.hi + γ) b.x.lo b.x.hi p.x m M p1 p2 (by omega) (by omega) (by omega) (by omega);have g3:=zn3 β (α * p.x + γ) b.y.lo b.y.hi p.y m M p3 p4 (by omega) (by omega) (by omega) (by omega);omega
 have h1:∀ p∈zL a,∀ q∈zL b,∀ r,inB' r c->m<=zbg p q r/\zbg p q r<=M:=fun p hp q hq =>
  one (fun r=>zbg p q r) c (-(q.y - p.y)) (q.x - p.x) ((q.y - p.y)*p.x - (q.x - p.x)*p.y) (fun r=>by unfold zbg;grind) (fun r hr=>h0 p hp q hq r hr)
 have h2:∀ p∈zL a,∀ q,inB' q b->∀ r,inB' r c->m<=zbg p q r/\zbg p q r<=M:=fun p hp q hq r hr =>
  one (fun q=>zbg p q r) b (r.y - p.y) (-(r.x - p.x)) (p.y*(r.x - p.x) - p.x*(r.y - p.y)) (fun q=>by unfold zbg;grind) (fun q hq=>h1 p hp q hq r hr) q hq
 exact one (fun p=>zbg p q r) a (q.y - r.y) (r.x - q.x) (q.x*r.y - q.y*r.x) (fun p=>by unfold zbg;grind) (fun p hp=>h2 p hp q hq r hr) p hp
theorem zgs {a b:Box} (h:subB a b) (ha:wfB a) {p:Pt} (hp:p∈zL a):inB' p b:=by
 unfold subB subS wfB at *;simp only [zL,List.mem_cons,List.not_mem_nil,or_false] at hp;unfold inB';rcases hp with rfl|rfl|rfl|rfl<;>simp only<;>omega
theorem zrn {a b c a' b' c':Box} (ha:subB a' a) (hb:subB b' b) (hc:subB c' c) (wa:wfB a') (wb:wfB b') (wc:wfB c'):subS (zcf a' b' c') (zcf a b c):=by
 have h:=zet a' b' c';have key:∀ t∈zaC a' b' c',(zcf a b c).lo<=t/\t<=(zcf a b c).hi:=fun t ht=>by
  obtain ⟨p,hp,ht⟩:=List.mem_flatMap.1 ht;obtain ⟨q,hq,ht⟩:=List.mem_flatMap.1 ht;obtain ⟨r,hr,rfl⟩:=List.mem_map.1 ht;exact zkV (zgs ha wa hp) (zgs hb wb hq) (zgs hc wc hr)
 exact ⟨(key _ h.lo).1,(key _ h.hi).2⟩
def zac (s v:Span):Bool×Bool:=(decide (v.lo<=s.hi)&&decide (s.lo<=v.hi),decide (s.lo<=v.lo)&&decide (v.hi<=s.hi))
def zeW (x y:Span):Span:=⟨x.lo*x.lo+y.lo*y.lo,x.hi*x.hi+y.hi*y.hi⟩
def zaY (q:Int) (x y:Span):Span×Span:=if q=1 then (y,x) else if q=2 then (⟨-x.hi,-x.lo⟩,y) else if q=3 then (⟨-y.hi,-y.lo⟩,x) else (x,y)
def zcd (u w:Span):Bool×Bool:=(decide (0 < u.hi)&&decide ((zK w).lo<=u.hi),decide (0 < u.lo)&&decide ((zK w).hi<=u.lo))
def zed (s x y:Span):Bool×Bool:=(decide (max x.lo y.lo<=s.hi),decide (max x.hi y.hi<=s.hi))
def zcW (f:Fact) (l:List Box):Bool×Bool :=
 let a:=l[f.a.toNat]!
 let b:=l[f.b.toNat]!
 let x:=zbC b.x a.x
 let y:=zbC b.y a.y
 if f.kind=2 then zac f.span (zcf a b l[f.c.toNat]!)
 else if f.kind=3 then zcd (zaY f.quarter x y).1 (zaY f.quarter x y).2
 else if f.kind=4 then zed f.span (zK x) (zK y)
 else if f.kind=5 then zac f.span x
 else if f.kind=6 then zac f.span y
 else zac f.span (zeW (zK x) (zK y))
def zC (f:Fact) (l:List Box):Bool:=if f.nt=true then (zcW f l).2 else !(zcW f l).1
structure Named (f:Fact) (n:Nat):Prop where
 a:0<=f.a/\f.a < n
 b:0<=f.b/\f.b < n
 c:0<=f.c/\f.c < n
def tight (r s:Bool×Bool):Prop:=(r.1=true->s.1=true)/\(s.2=true->r.2=true)
theorem zc7 {s v w:Span} (h:subS v w):tight (zac s v) (zac s w):=by
 unfold tight zac subS at *;simp only [Bool.and_eq_true,decide_eq_true_eq];omega
theorem zlR {a b a' b':Span} (ha:subS a' a) (hb:subS b' b):subS (zbC a' b') (zbC a b):=by
 unfold subS zbC at *;simp only;omega
theorem zhi {a b:Span} (ha:a.lo<=a.hi) (hb:b.lo<=b.hi):(zbC a b).lo<=(zbC a b).hi:=by unfold zbC;simp only;omega
theorem zfA {s t:Span} (h:subS s t) (hs:s.lo<=s.hi):subS (zK s) (zK t):=by
 unfold subS zK at *
 split<;>split<;>(try split)<;>(try split)<;>(try simp only at *)<;>omega
theorem ze7 {s:Span} (hs:s.lo<=s.hi):0<=(zK s).lo/\(zK s).lo<=(zK s).hi:=by
 unfold zK
 split
 ·exact ⟨by assumption,hs⟩
 ·split<;>(simp only;omega)
theorem zrJ {x y x' y':Span} (hx:subS x' x) (hy:subS y' y) (h1:0<=x.lo) (h2:0<=y.lo) (h3:x'.lo<=x'.hi) (h4:y'.lo<=y'.hi):subS (zeW x' y') (zeW x y):=by
 unfold subS zeW at *;have a1:=Int.mul_le_mul hx.1 hx.1 h1 (by omega);have a2:=Int.mul_le_mul hy.1 hy.1 h2 (by omega);have a3:=Int.mul_le_mul hx.2 hx.2 (by omega) (by omega);have a4:=Int.mul_le_mul hy.2 hy.2 (by omega) (by omega);simp only;omega
theorem zpa {q:Int} {x y x' y':Span} (hx:subS x' x) (hy:subS y' y):subS (zaY q x' y').1 (zaY q x y).1/\subS (zaY q x' y').2 (zaY q x y).2:=by
 unfold zaY subS at *
 split
 ·exact ⟨hy,hx⟩
 ·split
  ·simp only;omega
  ·split<;>(simp only;omega)
theorem zqR {q:Int} {x y:Span} (hx:x.lo<=x.hi) (hy:y.lo<=y.hi):(zaY q x y).1.lo<=(zaY q x y).1.hi/\(zaY q x y).2.lo<=(zaY q x y).2.hi:=by
 unfold zaY
 split
 ·exact ⟨hy,hx⟩
 ·split
  ·simp only;omega
  ·split<;>(simp only;omega)
theorem znY {f:Fact} {l m:List Box} (hn:Named f m.length) (hs:SubL l m) (hw:Wf l) (hwm:Wf m):tight (zcW f l) (zcW f m):=by
 have ha:f.a.toNat < m.length:=by have:=hn.a;omega
 have hb:f.b.toNat < m.length:=by have:=hn.b;omega
 have hc:f.c.toNat < m.length:=by have:=hn.c;omega
 have ha':f.a.toNat < l.length:=by rw [hs.1];exact ha
 have hb':f.b.toNat < l.length:=by rw [hs.1];exact hb
 have hc':f.c.toNat < l.length:=by rw [hs.1];exact hc
 have sa:=hs.2 _ ha' ha;have sb:=hs.2 _ hb' hb;have sc:=hs.2 _ hc' hc;have wa:=hw _ (List.getElem_mem ha');have wb:=hw _ (List.getElem_mem hb');have wc:=hw _ (List.getElem_mem hc');have wa2:=hwm _ (List.getElem_mem ha);have wb2:=hwm _ (List.getElem_mem hb);unfold zcW;simp only [getElem!_pos m f.a.toNat ha,getElem!_pos m f.b.toNat hb,getElem!_pos m f.c.toNat hc,getElem!_pos l f.a.toNat ha',getElem!_pos l f.b.toNat hb',getElem!_pos l f.c.toNat hc'];generalize m[f.a.toNat]=a at *;generalize m[f.b.toNat]=b at *;generalize m[f.c.toNat]=c at *;generalize l[f.a.toNat]=a' at *;generalize l[f.b.toNat]=b' at *;generalize l[f.c.toNat]=c' at *;have lx:=zlR sb.1 sa.1;have ly:=zlR sb.2 sa.2;have wx:=zhi wb.1 wa.1;have wy:=zhi wb.2 wa.2;have wx2:=zhi wb2.1 wa2.1;have wy2:=zhi wb2.2 wa2.2;generalize hX:zbC b.x a.x=X at *;generalize hY:zbC b.y a.y=Y at *;generalize hX':zbC b'.x a'.x=X' at *;generalize hY':zbC b'.y a'.y=Y' at *
 split
 ·exact zc7 (zrn sa sb sc wa wb wc)
 ·split
  ·obtain ⟨u1,u2⟩:=zpa (q:=f.quarter) lx ly;obtain ⟨u3,u4⟩:=zqR (q:=f.quarter) wx wy;have u5:=zfA u2 u4;unfold tight zcd subS at *;simp only [Bool.and_eq_true,decide_eq_true_eq];omega
  ·have ax:=zfA lx wx;have ay:=zfA ly wy
   split
   ·unfold tight zed subS at *;simp only [decide_eq_true_eq];omega
   ·split
    ·exact zc7 lx
    ·split
     ·exact zc7 ly
     ·exact zc7 (zrJ ax ay (ze7 wx2).1 (ze7 wy2).1 (ze7 wx).2 (ze7 wy).2)
theorem znr {f:Fact} {l m:List Box} (hn:Named f m.length) (hs:SubL l m) (hw:Wf l) (hwm:Wf m) (h:zC f m=true):zC f l=true:=by
 obtain ⟨h1,h2⟩:=znY hn hs hw hwm;unfold zC at *
 split
 ·rename_i hnt;rw [if_pos hnt] at h;exact h2 h
 ·rename_i hnt;rw [if_neg hnt] at h
  cases hb:(zcW f l).1 with
  | false=>rfl
  | true=>rw [h1 hb] at h;simp at h
inductive Conn (E:List (Nat×Nat)):Nat->Nat->Prop
 | refl (i:Nat):Conn E i i
 | edge {a b:Nat} (h:(a,b)∈E):Conn E a b
 | symm {a b:Nat} (h:Conn E a b):Conn E b a
 | trans {a b c:Nat} (h:Conn E a b) (h':Conn E b c):Conn E a c
theorem Conn.mono {E E':List (Nat×Nat)} (hs:∀ e∈E,e∈E') {a b:Nat} (h:Conn E a b):Conn E' a b:=by
 induction h with
 | refl i=>exact .refl i
 | edge h=>exact .edge (hs _ h)
 | symm _ ih=>exact .symm ih
 | trans _ _ ih1 ih2=>exact .trans ih1 ih2
theorem Conn.keep {E:List (Nat×Nat)} {α:Type} (g:Nat->α) (hg:∀ e∈E,g e.1=g e.2) {a b:Nat} (h:Conn E a b):g a=g b:=by
 induction h with
 | refl i=>rfl
 | edge h=>exact hg _ h
 | symm _ ih=>exact ih.symm
 | trans _ _ ih1 ih2=>exact ih1.trans ih2
structure IsCls (E:List (Nat×Nat)) (n:Nat) (g:Nat->Nat):Prop where
 le:∀ i,i < n->g i<=i
 conn:∀ i,i < n->Conn E i (g i)
 keep:∀ e∈E,g e.1=g e.2
theorem IsCls.unique {E:List (Nat×Nat)} {n:Nat} {g g':Nat->Nat} (h:IsCls E n g) (h':IsCls E n g'):∀ i,i < n->g i=g' i:=fun i hi=>by
 have h1:=(h'.conn i hi).keep g h.keep;have h2:=(h.conn i hi).keep g' h'.keep;have l1:=h.le i hi;have l2:=h'.le i hi;have h3:=h.le (g' i) (by omega);have h4:=h'.le (g i) (by omega);omega
theorem IsCls.nil (n:Nat):IsCls [] n (fun i=>i):=⟨fun i _=>Nat.le_refl _,fun i _=>.refl i,fun e h=>by simp at h⟩
def zd6 (g:Nat->Nat) (a b:Nat):Nat->Nat:=fun i=>if g i=max (g a) (g b) then min (g a) (g b) else g i
theorem IsCls.join {E:List (Nat×Nat)} {n:Nat} {g:Nat->Nat} (h:IsCls E n g) {a b:Nat} (ha:a < n) (hb:b < n):IsCls (E++[(a,b)]) n (zd6 g a b):=by
 have hE:∀ e∈E,e∈E++[(a,b)]:=fun e he=>List.mem_append_left _ he;have hab:Conn (E++[(a,b)]) a b:=.edge (by simp);have ca:=(h.conn a ha).mono hE;have cb:=(h.conn b hb).mono hE
 refine ⟨fun i hi=>?_,fun i hi=>?_,fun e he=>?_⟩
 ·unfold zd6;have:=h.le i hi
  split
  ·rename_i e;omega
  ·exact this
 ·unfold zd6;have ci:=(h.conn i hi).mono hE
  split
  ·rename_i e;rw [e] at ci
   refine ci.trans ?_
   rcases Nat.le_total (g a) (g b) with hl|hl
   ·rw [Nat.max_eq_right hl,Nat.min_eq_left hl];exact (cb.symm.trans hab.symm).trans ca
   ·rw [Nat.max_eq_left hl,Nat.min_eq_right hl];exact (ca.symm.trans hab).trans cb
  ·exact ci
 ·rcases List.mem_append.1 he with he|he
  ·have:=h.keep e he;unfold zd6;rw [this]
  ·simp at he;subst he;unfold zd6;simp only;rcases Nat.le_total (g a) (g b) with hl|hl
   ·rw [Nat.max_eq_right hl,Nat.min_eq_left hl,if_pos rfl]
    split<;>omega
   ·rw [Nat.max_eq_left hl,Nat.min_eq_right hl,if_pos rfl]
    split<;>omega
theorem IsCls.idem {E:List (Nat×Nat)} {n:Nat} {g:Nat->Nat} (h:IsCls E n g) {i:Nat} (hi:i < n):g (g i)=g i:=((h.conn i hi).keep g h.keep).symm
structure OnWay (E:List (Nat×Nat)) (n:Nat) (g:Nat->Nat):Prop where
 le:∀ i,i < n->g i<=i
 conn:∀ i,i < n->Conn E i (g i)
theorem OnWay.start (E:List (Nat×Nat)) (n:Nat):OnWay E n (fun i=>i):=⟨fun i _=>Nat.le_refl _,fun i _=>.refl i⟩
def zcq (m g:Nat->Nat) (n:Nat):Nat:=(List.range n).countP fun i=>g i == m i
theorem zl4 (m g:Nat->Nat) (n:Nat):zcq m g n<=n:=by
 have:=List.countP_le_length (p:=fun i=>g i == m i) (l:=List.range n)
 simpa [zcq] using this
theorem zhu {m g g':Nat->Nat} {n:Nat} (h:∀ i,i < n->g i=m i->g' i=m i):zcq m g n<=zcq m g' n:=by
 unfold zcq
 refine List.countP_mono_left fun i hi h1=>?_
 simp at *;exact h i hi h1
theorem zk2 {m g g':Nat->Nat} {n:Nat} (h:∀ i,i < n->g i=m i->g' i=m i) {j:Nat} (hj:j < n) (h1:g j≠m j) (h2:g' j=m j):zcq m g n < zcq m g' n:=by
 induction n with
 | zero=>omega
 | succ n ih =>
  unfold zcq at *;rw [List.range_succ,List.countP_append,List.countP_append];simp only [List.countP_singleton]
  by_cases e:j=n
  ·subst e;have:=zhu (m:=m) (g:=g) (g':=g') (n:=j) (fun i hi=>h i (by omega));unfold zcq at this;simp [h1,h2];omega
  ·have:=ih (fun i hi=>h i (by omega)) (by omega)
   by_cases e1:g n=m n
   ·have:=h n (by omega) e1;simp [e1,this];omega
   ·simp [e1]
    split<;>omega
theorem zoQ {m g:Nat->Nat} {n:Nat} (h:n<=zcq m g n):∀ i,i < n->g i=m i:=by
 intro i hi;have:=List.countP_eq_length.1 (show (List.range n).countP (fun i=>g i == m i)=(List.range n).length by
  have h1:=zl4 m g n;unfold zcq at *;rw [List.length_range];omega) i (List.mem_range.2 hi)
 simpa using this
theorem znJ {E:List (Nat×Nat)} {n:Nat} {m g g':Nat->Nat} (hm:IsCls E n m) (hE:∀ e∈E,e.1 < n/\e.2 < n) (h:OnWay E n g) (h':OnWay E n g') (hle:∀ i,i < n->g' i<=g i) (hr:∀ e∈E,g' e.1<=g e.2/\g' e.2<=g e.1) :
  n<=zcq m g' n\/zcq m g n < zcq m g' n:=by
 -- labels never pass the least one
 have low:∀ (f:Nat->Nat),OnWay E n f->∀ i,i < n->m i<=f i:=fun f hf i hi=>by
  have h1:=(hf.conn i hi).keep m hm.keep;have h2:=hf.le i hi;have h3:=hm.le (f i) (by omega);omega
 have keepd:∀ i,i < n->g i=m i->g' i=m i:=fun i hi e=>by
  have:=low g' h' i hi;have:=hle i hi;omega
 by_cases hall:∀ i,i < n->g i=m i
 ·left;have:=zhu (m:=m) (g:=m) (g':=g') (n:=n) fun i hi _=>keepd i hi (hall i hi);have h1:zcq m m n=n:=by simp [zcq]
  omega
 ·right
  -- an edge from a label that is done to one that is not
  have key:∃ e∈E,(g e.1=m e.1/\g e.2≠m e.2)\/(g e.2=m e.2/\g e.1≠m e.1):=by
   refine Classical.byContradiction fun hc=>hall fun i hi=>?_
   -- being done is kept by the edges,and the first point of a part is done
   have hk:=(hm.conn i hi).keep (fun j=>decide (g j=m j)) (fun e he=>by
    rw [decide_eq_decide]
    constructor
    ·intro h1;exact Classical.byContradiction fun h2=>hc ⟨e,he,.inl ⟨h1,h2⟩⟩
    ·intro h1;exact Classical.byContradiction fun h2=>hc ⟨e,he,.inr ⟨h1,h2⟩⟩)
   rw [decide_eq_decide] at hk
   refine hk.2 ?_
   have hmi:=hm.le i hi;have h1:=low g h (m i) (by omega);have h2:=h.le (m i) (by omega);have h3:=hm.idem hi;omega
  obtain ⟨e,he,hx⟩:=key;obtain ⟨e1,e2⟩:=hE e he;have h3:=hm.keep e he;have h4:=hr e he;rcases hx with ⟨a1,a2⟩|⟨a1,a2⟩
  ·refine zk2 keepd e2 a2 ?_
   have:=low g' h' e.2 e2;omega
  ·refine zk2 keepd e1 a2 ?_
   have:=low g' h' e.1 e1;omega
def zbD (f:Fact):List (Nat×Nat):=(f.a.toNat,f.b.toNat)::if f.kind=2 then [(f.a.toNat,f.c.toNat)] else []
def zaw (fs:List Fact):List (Nat×Nat):=fs.flatMap zbD
def zbh (g:Nat->Nat) (n i:Nat):List Nat:=(List.range n).filter fun k=>g k == i
def zad (g:Nat->Nat) (n:Nat):List (List Nat):=((List.range n).filter fun i=>g i == i).map (zbh g n)
theorem zen {g g':Nat->Nat} {n:Nat} (h:∀ i,i < n->g i=g' i):zad g n=zad g' n:=by
 have h1:∀ i,zbh g n i=zbh g' n i:=fun i=>by
  unfold zbh
  refine List.filter_congr fun k hk=>?_
  rw [h k (List.mem_range.1 hk)]
 unfold zad;rw [List.filter_congr (q:=fun i=>g' i == i) fun k hk=>by rw [h k (List.mem_range.1 hk)]];exact List.map_congr_left fun i _=>h1 i
def atB (p:Pt):Box:=⟨⟨p.x,p.x⟩,⟨p.y,p.y⟩⟩
def zcZ (s:Span):List Int:=(List.range (s.hi - s.lo+1).toNat).map fun i=>s.lo+(i:Nat)
def zaE (b:Box):List Pt:=(zcZ b.x).flatMap fun x=>(zcZ b.y).map fun y=>⟨x,y⟩
theorem mem_nums {s:Span} {v:Int}:v∈zcZ s↔s.lo<=v/\v<=s.hi:=by
 unfold zcZ;simp only [List.mem_map,List.mem_range]
 constructor
 ·rintro ⟨i,hi,rfl⟩;omega
 ·rintro ⟨h1,h2⟩;exact ⟨(v - s.lo).toNat,by omega,by omega⟩
theorem mem_places {b:Box} {p:Pt}:p∈zaE b↔inB' p b:=by
 unfold zaE inB';simp only [List.mem_flatMap,List.mem_map]
 constructor
 ·rintro ⟨x,hx,y,hy,rfl⟩;have h1:=mem_nums.1 hx;have h2:=mem_nums.1 hy;exact ⟨h1.1,h1.2,h2.1,h2.2⟩
 ·rintro ⟨h1,h2,h3,h4⟩;exact ⟨p.x,mem_nums.2 ⟨h1,h2⟩,p.y,mem_nums.2 ⟨h3,h4⟩,rfl⟩
theorem zcI (s:Span):(zcZ s).length=(s.hi - s.lo+1).toNat:=by simp [zcZ]
theorem zeH {α β:Type} (f:α->List β) (n:Nat):∀ l:List α,(∀ a∈l,(f a).length=n)->(l.flatMap f).length=l.length*n
 | [],_=>by simp
 | a::l,h=>by
  rw [List.flatMap_cons,List.length_append,zeH f n l (fun b hb=>h b (List.mem_cons_of_mem _ hb)),h a (List.mem_cons_self ..),List.length_cons,Nat.add_mul];omega
theorem zfh (b:Box):(zaE b).length=(b.x.hi - b.x.lo+1).toNat*(b.y.hi - b.y.lo+1).toNat:=by
 unfold zaE;rw [zeH _ (b.y.hi - b.y.lo+1).toNat _ (fun a _=>by simp [zcI]),zcI]
def allC (l:List Box):List Nat->List (List Pt)
 | []=>[[]]
 | i::rest=>(zaE l[i]!).flatMap fun x=>(allC l rest).map (x :: ·)
def zbT (ok:Nat->List Box->Bool) (l:List Box):List Nat->Nat->List Box->List (List Pt)
 | [],_,_=>[[]]
 | i::rest,k,here=>(zaE l[i]!).flatMap fun x=>if ok k (here.set i (atB x))=true then (zbT ok l rest (k+1) (here.set i (atB x))).map (x :: ·) else []
def zfi (ok:Nat->List Box->Bool):List Nat->Nat->List Box->List Pt->Bool
 | i::rest,k,here,x::c=>ok k (here.set i (atB x))&&zfi ok rest (k+1) (here.set i (atB x)) c
 | _,_,_,_=>true
theorem zeR {α β:Type} (p:β->Bool) (f:α->List β):∀ l:List α,(l.flatMap f).filter p=l.flatMap fun a=>(f a).filter p
 | []=>rfl
 | a::l=>by rw [List.flatMap_cons,List.flatMap_cons,List.filter_append,zeR p f l]
theorem zeZ {α β:Type} {f g:α->List β}:∀ {l:List α},(∀ a∈l,f a=g a)->l.flatMap f=l.flatMap g
 | [],_=>rfl
 | a::l,h=>by rw [List.flatMap_cons,List.flatMap_cons,h a (List.mem_cons_self ..),zeZ fun b hb=>h b (List.mem_cons_of_mem _ hb)]
theorem zdD (ok:Nat->List Box->Bool) (l:List Box):∀ (part:List Nat) (k:Nat) (here:List Box),zbT ok l part k here=(allC l part).filter (zfi ok part k here)
 | [],k,here=>by simp [zbT,allC,zfi]
 | i::rest,k,here=>by
  rw [zbT,allC,zeR]
  refine zeZ fun x _=>?_
  rw [List.filter_map];have ih:=zdD ok l rest (k+1) (here.set i (atB x))
  by_cases h:ok k (here.set i (atB x))=true
  ·rw [if_pos h,ih]
   congr 2
   funext c
   simp [zfi,h]
  ·rw [if_neg h];have:(zfi ok (i::rest) k here ∘ fun c=>x::c)=fun _=>false:=by
    funext c
    simp only [Function.comp_def,zfi];simp at h;simp [h]
   rw [this];simp
theorem zhU {l:List Box}:∀ {part:List Nat} {c:List Pt},c∈allC l part↔c.length=part.length/\∀ k (h:k < part.length) (h':k < c.length),inB' c[k] l[part[k]]!
 | [],c=>by
  simp only [allC,List.mem_singleton,List.length_nil]
  constructor
  ·rintro rfl;exact ⟨rfl,fun k h=>by simp at h⟩
  ·rintro ⟨h,_⟩;exact List.eq_nil_of_length_eq_zero h
 | i::rest,c=>by
  simp only [allC,List.mem_flatMap,List.mem_map]
  constructor
  ·rintro ⟨x,hx,d,hd,rfl⟩;obtain ⟨h1,h2⟩:=(zhU (l:=l)).1 hd
   refine ⟨by simp [h1],fun k h h'=>?_⟩
   cases k with
   | zero=>simpa using mem_places.1 hx
   | succ k=>simpa using h2 k (by simpa using h) (by simpa using h')
  ·rintro ⟨h1,h2⟩
   cases c with
   | nil=>simp at h1
   | cons x d =>
    refine ⟨x,mem_places.2 (h2 0 (by simp) (by simp)),d,(zhU (l:=l)).2 ⟨by simpa using h1,fun k h h'=>?_⟩,rfl⟩
    exact h2 (k+1) (by simp;omega) (by simp;omega)
def zqy (f:Fact) (l m:List Box):Prop:=l[f.a.toNat]! = m[f.a.toNat]! /\ l[f.b.toNat]! = m[f.b.toNat]! /\ (f.kind=2->l[f.c.toNat]! = m[f.c.toNat]!)
theorem za4 {f:Fact} {l m:List Box} (h:zqy f l m):zC f l=zC f m:=by
 obtain ⟨h1,h2,h3⟩:=h;unfold zC zcW;rw [h1,h2]
 by_cases hk:f.kind=2
 ·rw [h3 hk]
 ·simp only [if_neg hk]
def za1:List Nat->List Pt->List Box->List Box
 | i::part,x::c,here=>za1 part c (here.set i (atB x))
 | _,_,here=>here
theorem zeo:∀ (part:List Nat) (c:List Pt) (here:List Box) (j:Nat),j ∉ part->(za1 part c here)[j]! = here[j]!
 | [],_,_,_,_=>by simp [za1]
 | _::_,[],_,_,_=>by simp [za1]
 | i::part,x::c,here,j,h=>by
  rw [za1,zeo part c _ j (fun hm=>h (List.mem_cons_of_mem _ hm))];have:i≠j:=fun e=>h (by rw [e];exact List.mem_cons_self ..);simp [List.getElem?_set,this]
theorem zjD:∀ (part:List Nat) (c:List Pt) (here:List Box),part.Nodup->c.length=part.length->(∀ i∈part,i < here.length)->∀ k (h:k < part.length) (h':k < c.length),(za1 part c here)[part[k]]! = atB c[k]
 | [],_,_,_,_,_,k,h,_=>by simp at h
 | _::_,[],_,_,hc,_,_,_,_=>by simp at hc
 | i::part,x::c,here,hn,hc,hi,k,h,h'=>by
  rw [za1];have hn':=List.nodup_cons.1 hn
  cases k with
  | zero =>
   simp only [List.getElem_cons_zero];rw [zeo _ _ _ _ hn'.1];have:=hi i (List.mem_cons_self ..);simp [List.getElem?_set,this]
  | succ k =>
   simp only [List.getElem_cons_succ];exact zjD part c _ hn'.2 (by simpa using hc) (fun j hj=>by rw [List.length_set];exact hi j (List.mem_cons_of_mem _ hj)) k (by simpa using h) (by simpa using h')
def zeB (part:List Nat) (f:Fact):Nat:=max (max (part.idxOf f.a.toNat) (part.idxOf f.b.toNat)) (if f.kind=2 then part.idxOf f.c.toNat else 0)
structure Within (part:List Nat) (f:Fact):Prop where
 a:f.a.toNat∈part
 b:f.b.toNat∈part
 c:f.kind=2->f.c.toNat∈part
theorem zhG {part:List Nat} {c:List Pt} {here:List Box} {f:Fact} (hn:part.Nodup) (hw:Within part f) {k:Nat} (hk:zeB part f < k):zqy f (za1 (part.take k) (c.take k) here) (za1 part c here):=by
 have key:∀ (part:List Nat) (c:List Pt) (here:List Box) (k j:Nat),part.Nodup->j∈part->part.idxOf j < k->(za1 (part.take k) (c.take k) here)[j]! = (za1 part c here)[j]! := by
  intro part
  induction part with
  | nil=>intro c here k j _ hj;simp at hj
  | cons i part ih =>
   intro c here k j hn hj hk
   cases k with
   | zero=>omega
   | succ k =>
    cases c with
    | nil=>simp [za1]
    | cons x c =>
     simp only [List.take_succ_cons,za1];have hn':=List.nodup_cons.1 hn
     by_cases e:i=j
     ·subst e;rw [zeo _ _ _ _ (fun h=>hn'.1 (List.mem_of_mem_take h)),zeo _ _ _ _ hn'.1]
     ·have hj':j∈part:=by
       rcases List.mem_cons.1 hj with h|h
       ·exact absurd h.symm e
       ·exact h
      rw [List.idxOf_cons] at hk;have:(i == j)=false:=by simpa using e
      rw [this] at hk;simp only [cond_false] at hk;exact ih c _ k j hn'.2 hj' (by omega)
 unfold zeB at hk
 refine ⟨key _ _ _ _ _ hn hw.a (by omega),key _ _ _ _ _ hn hw.b (by omega),fun h2=>?_⟩
 rw [if_pos h2] at hk;exact key _ _ _ _ _ hn (hw.c h2) (by omega)
def okK (facts:List Fact) (part:List Nat) (k:Nat) (here:List Box):Bool:=facts.all fun f=>!(part.contains f.a.toNat&&decide (zeB part f=k)) || !zC f here
theorem zjv {facts:List Fact} {whole:List Nat}:∀ (rest:List Nat) (k:Nat) (here:List Box) (c:List Pt),c.length=rest.length ->
  (zfi (okK facts whole) rest k here c=true↔∀ j,j < rest.length->okK facts whole (k+j) (za1 (rest.take (j+1)) (c.take (j+1)) here)=true)
 | [],k,here,c,hc=>by simp [zfi]
 | i::rest,k,here,[],hc=>by simp at hc
 | i::rest,k,here,x::c,hc=>by
  have ih:=zjv (facts:=facts) (whole:=whole) rest (k+1) (here.set i (atB x)) c (by simpa using hc);rw [zfi,Bool.and_eq_true,ih]
  constructor
  ·rintro ⟨h1,h2⟩ j hj
   cases j with
   | zero=>simpa [za1] using h1
   | succ j =>
    have:=h2 j (by simpa using hj);rw [show k+(j+1)=k+1+j by omega]
    simpa [za1] using this
  ·intro h
   refine ⟨by simpa [za1] using h 0 (by simp),fun j hj=>?_⟩
   have:=h (j+1) (by simpa using hj);rw [show k+(j+1)=k+1+j by omega] at this
   simpa [za1] using this
theorem zj0 {facts:List Fact} {part:List Nat} {l:List Box} {c:List Pt} (hn:part.Nodup) (hc:c.length=part.length) (hw:∀ f∈facts,f.a.toNat∈part->Within part f) :
  zfi (okK facts part) part 0 l c=true↔∀ f∈facts,f.a.toNat∈part->zC f (za1 part c l)=false:=by
 rw [zjv part 0 l c hc];have hlast:∀ f∈facts,f.a.toNat∈part->zeB part f < part.length:=fun f hf ha=>by
  have w:=hw f hf ha;have h1:=List.idxOf_lt_length_of_mem w.a;have h2:=List.idxOf_lt_length_of_mem w.b;unfold zeB
  by_cases h3:f.kind=2
  ·have:=List.idxOf_lt_length_of_mem (w.c h3);rw [if_pos h3];omega
  ·rw [if_neg h3];omega
 constructor
 ·intro h f hf ha;have h1:=h (zeB part f) (hlast f hf ha);unfold okK at h1;rw [List.all_eq_true] at h1;have h2:=h1 f hf;simp only [Nat.zero_add,decide_true,Bool.and_true,Bool.or_eq_true,Bool.not_eq_true',List.contains_iff_mem,List.elem_eq_mem] at h2;rw [<- za4 (zhG (k:=zeB part f+1) hn (hw f hf ha) (by omega))];rcases h2 with h2|h2
  ·simp [ha] at h2
  ·exact h2
 ·intro h j hj;unfold okK;rw [List.all_eq_true];intro f hf
  by_cases ha:f.a.toNat∈part
  ·by_cases hk:zeB part f=j
   ·have:=h f hf ha;rw [<- za4 (zhG (k:=j+1) hn (hw f hf ha) (by omega))] at this;simp [this]
   ·simp [hk]
  ·simp [ha]
def zaj (facts:List Fact) (l:List Box) (part:List Nat):List (List Pt):=zbT (okK facts part) l part 0 l
theorem zd0 {facts:List Fact} {l:List Box} {part:List Nat} (hn:part.Nodup) (hw:∀ f∈facts,f.a.toNat∈part->Within part f) {c:List Pt} :
  c∈zaj facts l part↔(c.length=part.length/\∀ k (h:k < part.length) (h':k < c.length),inB' c[k] l[part[k]]!)/\∀ f∈facts,f.a.toNat∈part->zC f (za1 part c l)=false:=by
 unfold zaj;rw [zdD,List.mem_filter,zhU]
 constructor
 ·rintro ⟨h1,h2⟩;exact ⟨h1,(zj0 hn h1.1 hw).1 h2⟩
 ·rintro ⟨h1,h2⟩;exact ⟨h1,(zj0 hn h1.1 hw).2 h2⟩
def zbM {α:Type} (key:α->Int) (o:Option α) (c:α):Option α:=match o with
 | none=>some c
 | some d=>if key c < key d then some c else some d
def zlg {α:Type} (key:α->Int) (l:List α):Option α:=l.foldl (zbM key) none
theorem zgz {α:Type} (key:α->Int):∀ (l:List α) (d:α),∃ e,l.foldl (zbM key) (some d)=some e/\(e=d\/e∈l)/\key e<=key d/\∀ c∈l,key e<=key c
 | [],d=>⟨d,rfl,.inl rfl,Int.le_refl _,by simp⟩
 | a::l,d=>by
  rw [List.foldl_cons,zbM]
  split
  ·rename_i h;obtain ⟨e,h1,h2,h3,h4⟩:=zgz key l a
   refine ⟨e,h1,?_,by omega,fun c hc=>?_⟩
   ·rcases h2 with rfl|h2
    ·exact .inr (List.mem_cons_self ..)
    ·exact .inr (List.mem_cons_of_mem _ h2)
   ·rcases List.mem_cons.1 hc with rfl|hc
    ·exact h3
    ·exact h4 c hc
  ·rename_i h;obtain ⟨e,h1,h2,h3,h4⟩:=zgz key l d
   refine ⟨e,h1,?_,h3,fun c hc=>?_⟩
   ·rcases h2 with rfl|h2
    ·exact .inl rfl
    ·exact .inr (List.mem_cons_of_mem _ h2)
   ·rcases List.mem_cons.1 hc with rfl|hc
    ·omega
    ·exact h4 c hc
theorem zsq {α:Type} (key:α->Int) {l:List α} (h:l≠[]):∃ e,zlg key l=some e/\e∈l/\∀ c∈l,key e<=key c:=by
 cases l with
 | nil=>exact absurd rfl h
 | cons a l =>
  obtain ⟨e,h1,h2,h3,h4⟩:=zgz key l a
  refine ⟨e,h1,?_,fun c hc=>?_⟩
  ·rcases h2 with rfl|h2
   ·exact List.mem_cons_self ..
   ·exact List.mem_cons_of_mem _ h2
  ·rcases List.mem_cons.1 hc with rfl|hc
   ·exact h3
   ·exact h4 c hc
set_option maxHeartbeats 1000000
def zjR (f:Fact) (a b c:Box):Bool×Bool :=
 let x:=zbC b.x a.x
 let y:=zbC b.y a.y
 if f.kind=2 then zac f.span (zcf a b c)
 else if f.kind=3 then zcd (zaY f.quarter x y).1 (zaY f.quarter x y).2
 else if f.kind=4 then zed f.span (zK x) (zK y)
 else if f.kind=5 then zac f.span x
 else if f.kind=6 then zac f.span y
 else zac f.span (zeW (zK x) (zK y))
theorem zsy (f:Fact) (l:List Box):zcW f l=zjR f l[f.a.toNat]! l[f.b.toNat]! l[f.c.toNat]! := rfl
def zgm (q dx dy:Int):Int×Int:=if q=1 then (dy,dx) else if q=2 then (-dx,dy) else if q=3 then (-dy,dx) else (dx,dy)
def zsU (f:Fact) (dx dy:Int):Bool :=
 if f.kind=3 then decide (0 < (zgm f.quarter dx dy).1)&&decide ((zgm f.quarter dx dy).2<=(zgm f.quarter dx dy).1)&&decide (-(zgm f.quarter dx dy).2<=(zgm f.quarter dx dy).1)
 else if f.kind=4 then decide (dx<=f.span.hi)&&decide (-dx<=f.span.hi)&&decide (dy<=f.span.hi)&&decide (-dy<=f.span.hi)
 else if f.kind=5 then decide (f.span.lo<=dx)&&decide (dx<=f.span.hi)
 else if f.kind=6 then decide (f.span.lo<=dy)&&decide (dy<=f.span.hi)
 else decide (f.span.lo<=dx*dx+dy*dy)&&decide (dx*dx+dy*dy<=f.span.hi)
def zq4 (f:Fact) (p q r:Pt):Bool:=if f.kind=2 then decide (f.span.lo<=zbg p q r)&&decide (zbg p q r<=f.span.hi) else zsU f (q.x - p.x) (q.y - p.y)
theorem zsm (a b:Int):zbC ⟨b,b⟩ ⟨a,a⟩=⟨b - a,b - a⟩:=rfl
theorem zjC (a:Int):zK ⟨a,a⟩=⟨max a (-a),max a (-a)⟩:=by
 unfold zK;simp only
 split
 ·rw [show max a (-a)=a by omega]
 ·split
  ·rw [show max a (-a)=-a by omega]
  ·omega
theorem ztD (a:Int):max a (-a)*max a (-a)=a*a:=by
 rcases Int.le_total a (-a) with h|h
 ·rw [show max a (-a)=-a by omega,Int.neg_mul_neg]
 ·rw [show max a (-a)=a by omega]
theorem zsl (p q r:Pt):zcf (atB p) (atB q) (atB r)=⟨zbg p q r,zbg p q r⟩:=by
 refine (zet _ _ _).unique ⟨fun t ht=>?_,?_,?_⟩
 ·simp [zaC,zL,atB] at ht;subst ht;exact ⟨Int.le_refl _,Int.le_refl _⟩
 ·simp [zaC,zL,atB]
 ·simp [zaC,zL,atB]
theorem bool2 {a b c d:Bool} (h1:a=c) (h2:b=d):(a,b)=(c,d):=by rw [h1,h2]
theorem zmb (f:Fact) (p q r:Pt):zjR f (atB p) (atB q) (atB r)=(zq4 f p q r,zq4 f p q r):=by
 unfold zjR zq4;simp only [zsl];simp only [atB,zsm,zjC]
 split
 ·unfold zac
  refine bool2 ?_ rfl
  simp only;exact Bool.and_comm _ _
 ·unfold zsU
  split
  ·unfold zcd zaY zgm;(repeat' split)<;>simp only [zjC]<;>refine bool2 ?_ ?_<;>rw [Bool.eq_iff_iff]<;>simp only [Bool.and_eq_true,decide_eq_true_eq]<;>omega
  ·split
   ·unfold zed
    refine bool2 ?_ ?_<;>rw [Bool.eq_iff_iff]<;>simp only [Bool.and_eq_true,decide_eq_true_eq]<;>omega
   ·split
    ·unfold zac;exact bool2 (Bool.and_comm _ _) rfl
    ·split
     ·unfold zac;exact bool2 (Bool.and_comm _ _) rfl
     ·unfold zac zeW;simp only [ztD];exact bool2 (Bool.and_comm _ _) rfl
def zdO (l:List Int) (k:Nat) (v:Span):Prop:=SpanOf (fun t=>∃ j,∃ h:j < l.length,j < k/\l[j]=t) v
theorem zkH {l:List Int} (h:0 < l.length):zdO l 1 ⟨l[0],l[0]⟩:=⟨fun t ⟨j,hl,hj,e⟩=>by
 have:j=0:=by omega
 subst this;subst e;exact ⟨Int.le_refl _,Int.le_refl _⟩,⟨0,h,by omega,rfl⟩,⟨0,h,by omega,rfl⟩⟩
theorem zmB {l:List Int} {k:Nat} (hk:k < l.length) {v:Span} (h:zdO l k v):zdO l (k+1) ⟨min v.lo l[k],max v.hi l[k]⟩:=by
 obtain ⟨h1,⟨j1,g0,g1,e1⟩,⟨j2,g3,g2,e2⟩⟩:=h
 refine ⟨fun t ⟨j,hl,hj,e⟩=>?_,?_,?_⟩
 ·simp only
  by_cases hjk:j=k
  ·subst hjk;omega
  ·have:=h1 t ⟨j,hl,by omega,e⟩;omega
 ·simp only;rcases Int.le_total v.lo l[k] with h|h
  ·exact ⟨j1,g0,by omega,by rw [e1];omega⟩
  ·exact ⟨k,hk,by omega,by omega⟩
 ·simp only;rcases Int.le_total v.hi l[k] with h|h
  ·exact ⟨k,hk,by omega,by omega⟩
  ·exact ⟨j2,g3,by omega,by rw [e2];omega⟩
theorem zmN {a b c:Box} {v:Span} (h:zdO (zaC a b c) (zaC a b c).length v):v=zcf a b c:=by
 have key:∀ t,(∃ j,∃ hj:j < (zaC a b c).length,j < (zaC a b c).length/\(zaC a b c)[j]=t)↔t∈zaC a b c:=fun t=>by
  rw [List.mem_iff_getElem]
  constructor
  ·rintro ⟨j,hj,_,e⟩;exact ⟨j,hj,e⟩
  ·rintro ⟨j,hj,e⟩;exact ⟨j,hj,hj,e⟩
 exact SpanOf.unique (T:=(·∈zaC a b c)) ⟨fun t ht=>h.bound t ((key t).2 ht),(key _).1 h.lo,(key _).1 h.hi⟩ (zet a b c)
theorem zrg (a b c:Box) (i j k:Nat) (hi:i < 4) (hj:j < 4) (hk:k < 4):(zaC a b c)[16*i+4*j+k]?=some (zbg ((zL a)[i]'hi) ((zL b)[j]'hj) ((zL c)[k]'hk)):=by
 rcases (by omega:i=0\/i=1\/i=2\/i=3) with rfl|rfl|rfl|rfl<;>rcases (by omega:j=0\/j=1\/j=2\/j=3) with rfl|rfl|rfl|rfl<;>rcases (by omega:k=0\/k=1\/k=2\/k=3) with rfl|rfl|rfl|rfl<;>rfl
theorem zkh (a b c:Box):(zaC a b c).length=64:=rfl
end Go.Proofs.YtmmhnfghklppiaaGreat.Vm
