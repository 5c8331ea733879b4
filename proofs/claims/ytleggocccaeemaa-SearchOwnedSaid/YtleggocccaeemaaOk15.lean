/- Narrowing: the greatest boxes no strip of which fails, whichever way they are found. Plain Lean. What facts say of boxes: plain Lean. Parts: which points are connected by facts. Plain Lean. Choices of points of a part, and those that are solutions. Plain Lean. What a fact says of boxes, and of all points in them: plain Lean. The specification's ways to the same values: plain Lean. -/
import Derived.Test.YtleggocccaeemaaOk9
namespace Go.Proofs.Ytleggocccaeemaa.Vm
open Go
set_option linter.unusedSimpArgs false
set_option linter.unusedVariables false
set_option maxHeartbeats 4000000
def subS (s t:Span):Prop:=t.lo<=s.lo/\s.hi<=t.hi
def subB (a b:Box):Prop:=subS a.x b.x/\subS a.y b.y
def wfB (b:Box):Prop:=b.x.lo<=b.x.hi/\b.y.lo<=b.y.hi
def SubL (l m:List Box):Prop:=l.length=m.length/\∀ i (h:i < l.length) (h':i < m.length),subB l[i] m[i]
def Wf (l:List Box):Prop:=∀ b∈l,wfB b
theorem zia (b:Box):subB b b:=⟨⟨Int.le_refl _,Int.le_refl _⟩,⟨Int.le_refl _,Int.le_refl _⟩⟩
theorem zhf {a b c:Box} (h:subB a b) (h':subB b c):subB a c:=by unfold subB subS at *;omega
theorem zhx {a b:Box} (h:subB a b) (h':subB b a):a=b:=by
 obtain ⟨⟨a1,a2⟩,a3,a4⟩:=a;obtain ⟨⟨b1,b2⟩,b3,b4⟩:=b;unfold subB subS at *;simp only [Box.mk.injEq,Span.mk.injEq] at *;omega
theorem SubL.refl (l:List Box):SubL l l:=⟨rfl,fun i h h'=>zia _⟩
theorem SubL.trans {l m k:List Box} (h:SubL l m) (h':SubL m k):SubL l k:=⟨h.1.trans h'.1,fun i a b=>zhf (h.2 i a (by rw [<- h.1];exact a)) (h'.2 i _ b)⟩
theorem SubL.antisymm {l m:List Box} (h:SubL l m) (h':SubL m l):l=m :=
 List.ext_getElem h.1 fun i a b=>zhx (h.2 i a b) (h'.2 i b a)
theorem SubL.set {l m:List Box} (h:SubL l m) {i:Nat} {a b:Box} (hab:subB a b):SubL (l.set i a) (m.set i b) :=
 ⟨by simp [h.1],fun j h1 h2=>by
  rw [List.getElem_set,List.getElem_set]
  split
  ·exact hab
  ·exact h.2 j (by simpa using h1) (by simpa using h2)⟩
theorem Wf.set {l:List Box} (h:Wf l) {i:Nat} {a:Box} (ha:wfB a):Wf (l.set i a):=fun b hb=>by
 rcases List.mem_or_eq_of_mem_set hb with h1|rfl
 ·exact h b h1
 ·exact ha
def zbv (b:Box) (k:Nat):Box:=match k with
 | 0=>⟨⟨b.x.lo,b.x.lo⟩,b.y⟩
 | 1=>⟨⟨b.x.hi,b.x.hi⟩,b.y⟩
 | 2=>⟨b.x,⟨b.y.lo,b.y.lo⟩⟩
 | _=>⟨b.x,⟨b.y.hi,b.y.hi⟩⟩
def cutB (b:Box) (k:Nat):Box:=match k with
 | 0=>⟨⟨b.x.lo+1,b.x.hi⟩,b.y⟩
 | 1=>⟨⟨b.x.lo,b.x.hi - 1⟩,b.y⟩
 | 2=>⟨b.x,⟨b.y.lo+1,b.y.hi⟩⟩
 | _=>⟨b.x,⟨b.y.lo,b.y.hi - 1⟩⟩
def zaF (b:Box) (k:Nat):Prop:=if k < 2 then b.x.lo=b.x.hi else b.y.lo=b.y.hi
instance (b:Box) (k:Nat):Decidable (zaF b k):=by unfold zaF;infer_instance
theorem zds {b:Box} (h:wfB b) (k:Nat):wfB (zbv b k):=by
 unfold wfB zbv at *
 split<;>(simp only;omega)
theorem zir {b:Box} (h:wfB b) (k:Nat):subB (zbv b k) b:=by
 unfold wfB zbv subB subS at *
 split<;>(simp only;omega)
theorem zp3 {b:Box} (h:wfB b) {k:Nat} (hk:k < 4) (ht:¬ zaF b k):wfB (cutB b k):=by
 unfold wfB cutB zaF at *;have:k=0\/k=1\/k=2\/k=3:=by omega
 rcases this with rfl|rfl|rfl|rfl<;>simp at *<;>omega
theorem zoJ (b:Box) (k:Nat):subB (cutB b k) b:=by
 unfold cutB subB subS
 split<;>(simp only;omega)
theorem zi5 {a b:Box} (h:subB a b) (ha:wfB a) {k:Nat} (hk:k < 4):subB a (cutB b k)\/subB (zbv a k) (zbv b k):=by
 unfold subB subS cutB zbv wfB at *;have:k=0\/k=1\/k=2\/k=3:=by omega
 rcases this with rfl|rfl|rfl|rfl<;>simp only<;>omega
theorem zkG {a b:Box} (h:subB a b) (ha:wfB a) {k:Nat} (hk:k < 4) (ht:zaF b k):subB (zbv a k) (zbv b k):=by
 unfold subB subS zbv wfB zaF at *;have:k=0\/k=1\/k=2\/k=3:=by omega
 rcases this with rfl|rfl|rfl|rfl<;>simp at *<;>omega
section
variable {F:Type} {fails:F->List Box->Prop} {facts:List F} {boxes:List Box}
def Anti (fails:F->List Box->Prop) (facts:List F) (n:Nat):Prop:=∀ f∈facts,∀ l m,m.length=n->Wf m->SubL l m->Wf l->fails f m->fails f l
def zat (l:List Box) (i k:Nat):List Box:=match l[i]? with
 | some b=>l.set i (zbv b k)
 | none=>l
def cutL (l:List Box) (i k:Nat):List Box:=match l[i]? with
 | some b=>l.set i (cutB b k)
 | none=>l
theorem zba {l:List Box} {i:Nat} (h:i < l.length) (k:Nat):zat l i k=l.set i (zbv l[i] k):=by simp [zat,h]
theorem zbP {l:List Box} {i:Nat} (h:i < l.length) (k:Nat):cutL l i k=l.set i (cutB l[i] k):=by simp [cutL,h]
def Stable (fails:F->List Box->Prop) (facts:List F) (l:List Box):Prop:=∀ i,i < l.length->∀ k,k < 4->∀ f∈facts,¬ fails f (zat l i k)
structure Holds' (fails:F->List Box->Prop) (facts:List F) (boxes l:List Box):Prop where
 wf:Wf l
 sub:SubL l boxes
 all:∀ m,Wf m->SubL m boxes->Stable fails facts m->SubL m l
def IsNar (fails:F->List Box->Prop) (facts:List F) (boxes:List Box):Option (List Box)->Prop
 | some l=>Holds' fails facts boxes l/\Stable fails facts l
 | none=>∀ m,Wf m->SubL m boxes->¬ Stable fails facts m
theorem IsNar.unique {r s:Option (List Box)} (h:IsNar fails facts boxes r) (h':IsNar fails facts boxes s):r=s:=by
 cases r with
 | none=>cases s with
  | none=>rfl
  | some m=>exact absurd h'.2 (h m h'.1.wf h'.1.sub)
 | some l=>cases s with
  | none=>exact absurd h.2 (h' l h.1.wf h.1.sub)
  | some m=>rw [(h'.1.all l h.1.wf h.1.sub h.2).antisymm (h.1.all m h'.1.wf h'.1.sub h'.2)]
theorem Holds'.init (h:Wf boxes):Holds' fails facts boxes boxes:=⟨h,SubL.refl _,fun m _ hs _=>hs⟩
theorem Holds'.cut {l:List Box} (ha:Anti fails facts boxes.length) (h:Holds' fails facts boxes l) {i k:Nat} (hi:i < l.length) (hk:k < 4) {f:F} (hf:f∈facts) (hb:fails f (zat l i k)) (ht:¬ zaF l[i] k) :
  Holds' fails facts boxes (cutL l i k):=by
 have hw:=h.wf _ (List.getElem_mem hi);rw [zbP hi]
 refine ⟨h.wf.set (zp3 hw hk ht),⟨by simp [h.sub.1],fun j h1 h2=>?_⟩,fun m hm hs hst=>?_⟩
 ·rw [List.getElem_set]
  split
  ·rename_i e;subst e;exact zhf (zoJ _ _) (h.sub.2 i hi h2)
  ·exact h.sub.2 j (by simpa using h1) h2
 ·have hml:=h.all m hm hs hst;have him:i < m.length:=by rw [hml.1];exact hi
  refine ⟨by simp [hml.1],fun j h1 h2=>?_⟩
  rw [List.getElem_set]
  split
  ·rename_i e;subst e;rcases zi5 (hml.2 i him hi) (hm _ (List.getElem_mem him)) hk with h3|h3
   ·exact h3
   ·exfalso;have h4:=hst i him k hk f hf;rw [zba him] at h4;rw [zba hi] at hb;exact h4 (ha f hf _ _ (by simp [h.sub.1]) (h.wf.set (zds hw k)) (hml.set h3) (hm.set (zds (hm _ (List.getElem_mem him)) k)) hb)
  ·exact hml.2 j h1 (by simpa using h2)
theorem Holds'.empty {l:List Box} (ha:Anti fails facts boxes.length) (h:Holds' fails facts boxes l) {i k:Nat} (hi:i < l.length) (hk:k < 4) {f:F} (hf:f∈facts) (hb:fails f (zat l i k)) (ht:zaF l[i] k) :
  IsNar fails facts boxes none:=by
 intro m hm hs hst;have hw:=h.wf _ (List.getElem_mem hi);have hml:=h.all m hm hs hst;have him:i < m.length:=by rw [hml.1];exact hi
 have h4:=hst i him k hk f hf;rw [zba him] at h4;rw [zba hi] at hb;exact h4 (ha f hf _ _ (by simp [h.sub.1]) (h.wf.set (zds hw k)) (hml.set (zkG (hml.2 i him hi) (hm _ (List.getElem_mem him)) hk ht)) (hm.set (zds (hm _ (List.getElem_mem him)) k)) hb)
theorem Holds'.fail {l:List Box} (ha:Anti fails facts boxes.length) (h:Holds' fails facts boxes l) (h0:0 < l.length) {f:F} (hf:f∈facts) (hb:fails f l):IsNar fails facts boxes none:=by
 intro m hm hs hst;have hml:=h.all m hm hs hst;have him:0 < m.length:=by rw [hml.1];exact h0
 refine hst 0 him 0 (by decide) f hf ?_
 rw [zba him];have hs0:SubL (m.set 0 (zbv m[0] 0)) l:=by
  refine SubL.trans ⟨by simp,fun j h1 h2=>?_⟩ hml
  rw [List.getElem_set]
  split
  ·rename_i e;subst e;exact zir (hm _ (List.getElem_mem him)) 0
  ·exact zia _
 exact ha f hf _ _ h.sub.1 h.wf hs0 (hm.set (zds (hm _ (List.getElem_mem him)) 0)) hb
def zhN (b:Box):Nat:=(b.x.hi - b.x.lo).toNat+(b.y.hi - b.y.lo).toNat
def zby (l:List Box):Nat:=(l.map zhN).sum
theorem zm4 {b:Box} (h:wfB b) {k:Nat} (hk:k < 4) (ht:¬ zaF b k):zhN (cutB b k) < zhN b:=by
 unfold wfB cutB zaF zhN at *;have:k=0\/k=1\/k=2\/k=3:=by omega
 rcases this with rfl|rfl|rfl|rfl<;>simp at *<;>omega
theorem zlF:∀ (l:List Nat) (i a:Nat) (h:i < l.length),a < l[i]->(l.set i a).sum < l.sum
 | b::l,0,a,_,ha=>by simp at ha ⊢;omega
 | b::l,i+1,a,h,ha=>by
  have:=zlF l i a (by simpa using h) (by simpa using ha);simp;omega
theorem zfz {l:List Box} (hw:Wf l) {i k:Nat} (hi:i < l.length) (hk:k < 4) (ht:¬ zaF l[i] k):zby (cutL l i k) < zby l:=by
 rw [zbP hi];unfold zby;rw [List.map_set];exact zlF _ i _ (by simpa using hi) (by simpa using zm4 (hw _ (List.getElem_mem hi)) hk ht)
theorem zoH (ha:Anti fails facts boxes.length):∀ (N:Nat) (l:List Box),zby l<=N->Holds' fails facts boxes l->∃ r,IsNar fails facts boxes r:=by
 intro N
 induction N with
 | zero =>
  intro l hN h
  by_cases hs:Stable fails facts l
  ·exact ⟨some l,h,hs⟩
  ·have:∃ i,∃ hi:i < l.length,∃ k,k < 4/\∃ f∈facts,fails f (zat l i k):=by
    refine Classical.byContradiction fun hc=>hs fun i hi k hk f hf hb=>hc ⟨i,hi,k,hk,f,hf,hb⟩
   obtain ⟨i,hi,k,hk,f,hf,hb⟩:=this
   by_cases ht:zaF l[i] k
   ·exact ⟨none,h.empty ha hi hk hf hb ht⟩
   ·have:=zfz h.wf hi hk ht;omega
 | succ N ih =>
  intro l hN h
  by_cases hs:Stable fails facts l
  ·exact ⟨some l,h,hs⟩
  ·have:∃ i,∃ hi:i < l.length,∃ k,k < 4/\∃ f∈facts,fails f (zat l i k):=by
    refine Classical.byContradiction fun hc=>hs fun i hi k hk f hf hb=>hc ⟨i,hi,k,hk,f,hf,hb⟩
   obtain ⟨i,hi,k,hk,f,hf,hb⟩:=this
   by_cases ht:zaF l[i] k
   ·exact ⟨none,h.empty ha hi hk hf hb ht⟩
   ·have:=zfz h.wf hi hk ht;exact ih _ (by omega) (h.cut ha hi hk hf hb ht)
theorem znA (ha:Anti fails facts boxes.length) (hw:Wf boxes):∃ r,IsNar fails facts boxes r:=zoH ha _ boxes (Nat.le_refl _) (Holds'.init hw)
theorem Holds'.stop {l:List Box} (h:Holds' fails facts boxes l) (hs:Stable fails facts l) {r:Option (List Box)} (hr:IsNar fails facts boxes r):r=some l:=hr.unique (s:=some l) ⟨h,hs⟩
end
def zbI (a b:Span):Span:=⟨a.lo - b.hi,a.hi - b.lo⟩
def zD (s:Span):Span:=if 0<=s.lo then s else if s.hi<=0 then ⟨-s.hi,-s.lo⟩ else ⟨0,max (-s.lo) s.hi⟩
def zbe (a b c:Pt):Int:=(b.x - a.x)*(c.y - a.y) - (b.y - a.y)*(c.x - a.x)
def zF (b:Box):List Pt:=[⟨b.x.lo,b.y.lo⟩,⟨b.x.lo,b.y.hi⟩,⟨b.x.hi,b.y.lo⟩,⟨b.x.hi,b.y.hi⟩]
def zau (a b c:Box):List Int:=(zF a).flatMap fun p=>(zF b).flatMap fun q=>(zF c).map fun r=>zbe p q r
def minL:List Int->Int
 | []=>0
 | a::l=>l.foldl min a
def maxL:List Int->Int
 | []=>0
 | a::l=>l.foldl max a
def zcg (a b c:Box):Span:=⟨minL (zau a b c),maxL (zau a b c)⟩
structure SpanOf (T:Int->Prop) (v:Span):Prop where
 bound:∀ t,T t->v.lo<=t/\t<=v.hi
 lo:T v.lo
 hi:T v.hi
theorem SpanOf.unique {T:Int->Prop} {v w:Span} (h:SpanOf T v) (h':SpanOf T w):v=w:=by
 have h1:=h.bound _ h'.lo;have h2:=h.bound _ h'.hi;have h3:=h'.bound _ h.lo;have h4:=h'.bound _ h.hi;obtain ⟨a,b⟩:=v;obtain ⟨c,d⟩:=w;simp only [Span.mk.injEq] at *;omega
theorem zil:∀ (l:List Int) (a:Int),(l.foldl min a=a\/l.foldl min a∈l)/\l.foldl min a<=a/\∀ t∈l,l.foldl min a<=t
 | [],a=>by simp
 | b::l,a=>by
  obtain ⟨h1,h2,h3⟩:=zil l (min a b);simp only [List.foldl_cons]
  refine ⟨?_,by omega,fun t ht=>?_⟩
  ·rcases h1 with h1|h1
   ·rw [h1]
    by_cases h:a<=b
    ·left;omega
    ·right;rw [show min a b=b by omega];exact List.mem_cons_self ..
   ·right;exact List.mem_cons_of_mem _ h1
  ·rcases List.mem_cons.1 ht with rfl|ht
   ·omega
   ·exact h3 t ht
theorem zhV:∀ (l:List Int) (a:Int),(l.foldl max a=a\/l.foldl max a∈l)/\a<=l.foldl max a/\∀ t∈l,t<=l.foldl max a
 | [],a=>by simp
 | b::l,a=>by
  obtain ⟨h1,h2,h3⟩:=zhV l (max a b);simp only [List.foldl_cons]
  refine ⟨?_,by omega,fun t ht=>?_⟩
  ·rcases h1 with h1|h1
   ·rw [h1]
    by_cases h:b<=a
    ·left;omega
    ·right;rw [show max a b=b by omega];exact List.mem_cons_self ..
   ·right;exact List.mem_cons_of_mem _ h1
  ·rcases List.mem_cons.1 ht with rfl|ht
   ·omega
   ·exact h3 t ht
theorem zjW {l:List Int} (h:l≠[]):SpanOf (·∈l) ⟨minL l,maxL l⟩:=by
 cases l with
 | nil=>exact absurd rfl h
 | cons a l =>
  obtain ⟨m1,m2,m3⟩:=zil l a;obtain ⟨x1,x2,x3⟩:=zhV l a
  refine ⟨fun t ht=>?_,?_,?_⟩
  ·rcases List.mem_cons.1 ht with rfl|ht
   ·exact ⟨m2,x2⟩
   ·exact ⟨m3 t ht,x3 t ht⟩
  ·rcases m1 with h|h
   ·show l.foldl min a∈_;rw [h];exact List.mem_cons_self ..
   ·exact List.mem_cons_of_mem _ h
  ·rcases x1 with h|h
   ·show l.foldl max a∈_;rw [h];exact List.mem_cons_self ..
   ·exact List.mem_cons_of_mem _ h
theorem zoe (a b c:Box):zau a b c≠[]:=by simp [zau,zF]
theorem zew (a b c:Box):SpanOf (·∈zau a b c) (zcg a b c):=zjW (zoe a b c)
def inB' (p:Pt) (b:Box):Prop:=b.x.lo<=p.x/\p.x<=b.x.hi/\b.y.lo<=p.y/\p.y<=b.y.hi
theorem zkk (α β lo hi x m M:Int) (h1:lo<=x) (h2:x<=hi) (a1:m<=α * lo + β) (a2:m<=α * hi + β) (b1:α * lo + β<=M) (b2:α * hi + β<=M):m<=α * x + β/\α * x + β<=M:=by
 by_cases h:0<=α
 ·have h3:=Int.mul_le_mul_of_nonneg_left h1 h;have h4:=Int.mul_le_mul_of_nonneg_left h2 h;omega
 ·have h3:=Int.mul_le_mul_of_nonpos_left (a:=α) (by omega) h1;have h4:=Int.mul_le_mul_of_nonpos_left (a:=α) (by omega) h2;omega
theorem ziU {a b c:Box} {p q r:Pt} (hp:inB' p a) (hq:inB' q b) (hr:inB' r c):(zcg a b c).lo<=zbe p q r/\zbe p q r<=(zcg a b c).hi:=by
 have hb:=(zew a b c).bound;generalize (zcg a b c).lo=m at *;generalize (zcg a b c).hi=M at *;have h0:∀ p∈zF a,∀ q∈zF b,∀ r∈zF c,m<=zbe p q r/\zbe p q r<=M:=fun p hp q hq r hr =>
  hb _ (List.mem_flatMap.2 ⟨p,hp,List.mem_flatMap.2 ⟨q,hq,List.mem_map.2 ⟨r,hr,rfl⟩⟩⟩)
 -- from corners to all points,one point at a time
 have one:∀ (f:Pt->Int) (b:Box) (α β γ:Int),(∀ p,f p=α * p.x + β * p.y + γ)->(∀ p∈zF b,m<=f p/\f p<=M)->∀ p,inB' p b->m<=f p/\f p<=M:=by
  intro f b α β γ hf hc p hp;have e1:=hc ⟨b.x.lo,b.y.lo⟩ (by simp [zF]);have e2:=hc ⟨b.x.lo,b.y.hi⟩ (by simp [zF]);have e3:=hc ⟨b.x.hi,b.y.lo⟩ (by simp [zF]);have e4:=hc ⟨b.x.hi,b.y.hi⟩ (by simp [zF]);rw [hf] at e1 e2 e3 e4 ⊢;simp only at e1 e2 e3 e4;obtain ⟨p1,p2,p3,p4⟩:=hp;have g1:=zkk α (β * b.y.lo + γ) b.x.lo b.x.hi p.x m M p1 p2 (by omega) (by omega) (by omega) (by omega);have g2:=zkk α (β * b.y.hi + γ) b.x.lo b.x.hi p.x m M p1 p2 (by omega) (by omega) (by omega) (by omega);have g3:=zkk β (α * p.x + γ) b.y.lo b.y.hi p.y m M p3 p4 (by omega) (by omega) (by omega) (by omega);omega
 have h1:∀ p∈zF a,∀ q∈zF b,∀ r,inB' r c->m<=zbe p q r/\zbe p q r<=M:=fun p hp q hq =>
  one (fun r=>zbe p q r) c (-(q.y - p.y)) (q.x - p.x) ((q.y - p.y)*p.x - (q.x - p.x)*p.y) (fun r=>by unfold zbe;grind) (fun r hr=>h0 p hp q hq r hr)
 have h2:∀ p∈zF a,∀ q,inB' q b->∀ r,inB' r c->m<=zbe p q r/\zbe p q r<=M:=fun p hp q hq r hr =>
  one (fun q=>zbe p q r) b (r.y - p.y) (-(r.x - p.x)) (p.y*(r.x - p.x) - p.x*(r.y - p.y)) (fun q=>by unfold zbe;grind) (fun q hq=>h1 p hp q hq r hr) q hq
 exact one (fun p=>zbe p q r) a (q.y - r.y) (r.x - q.x) (q.x*r.y - q.y*r.x) (fun p=>by unfold zbe;grind) (fun p hp=>h2 p hp q hq r hr) p hp
theorem zfp {a b:Box} (h:subB a b) (ha:wfB a) {p:Pt} (hp:p∈zF a):inB' p b:=by
 unfold subB subS wfB at *;simp only [zF,List.mem_cons,List.not_mem_nil,or_false] at hp;unfold inB';rcases hp with rfl|rfl|rfl|rfl<;>simp only<;>omega
theorem znL {a b c a' b' c':Box} (ha:subB a' a) (hb:subB b' b) (hc:subB c' c) (wa:wfB a') (wb:wfB b') (wc:wfB c'):subS (zcg a' b' c') (zcg a b c):=by
 have h:=zew a' b' c';have key:∀ t∈zau a' b' c',(zcg a b c).lo<=t/\t<=(zcg a b c).hi:=fun t ht=>by
  obtain ⟨p,hp,ht⟩:=List.mem_flatMap.1 ht;obtain ⟨q,hq,ht⟩:=List.mem_flatMap.1 ht;obtain ⟨r,hr,rfl⟩:=List.mem_map.1 ht;exact ziU (zfp ha wa hp) (zfp hb wb hq) (zfp hc wc hr)
 exact ⟨(key _ h.lo).1,(key _ h.hi).2⟩
def zZ (s v:Span):Bool×Bool:=(decide (v.lo<=s.hi)&&decide (s.lo<=v.hi),decide (s.lo<=v.lo)&&decide (v.hi<=s.hi))
def zfg (x y:Span):Span:=⟨x.lo*x.lo+y.lo*y.lo,x.hi*x.hi+y.hi*y.hi⟩
def zaU (q:Int) (x y:Span):Span×Span:=if q=1 then (y,x) else if q=2 then (⟨-x.hi,-x.lo⟩,y) else if q=3 then (⟨-y.hi,-y.lo⟩,x) else (x,y)
def zcP (u w:Span):Bool×Bool:=(decide (0 < u.hi)&&decide ((zD w).lo<=u.hi),decide (0 < u.lo)&&decide ((zD w).hi<=u.lo))
def zeN (s x y:Span):Bool×Bool:=(decide (max x.lo y.lo<=s.hi),decide (max x.hi y.hi<=s.hi))
def zd1 (f:Fact) (l:List Box):Bool×Bool :=
 let a:=l[f.a.toNat]!
 let b:=l[f.b.toNat]!
 let x:=zbI b.x a.x
 let y:=zbI b.y a.y
 if f.kind=2 then zZ f.span (zcg a b l[f.c.toNat]!)
 else if f.kind=3 then zcP (zaU f.quarter x y).1 (zaU f.quarter x y).2
 else if f.kind=4 then zeN f.span (zD x) (zD y)
 else if f.kind=5 then zZ f.span x
 else if f.kind=6 then zZ f.span y
 else zZ f.span (zfg (zD x) (zD y))
def zQ (f:Fact) (l:List Box):Bool:=if f.nt=true then (zd1 f l).2 else !(zd1 f l).1
structure Named (f:Fact) (n:Nat):Prop where
 a:0<=f.a/\f.a < n
 b:0<=f.b/\f.b < n
 c:0<=f.c/\f.c < n
def tight (r s:Bool×Bool):Prop:=(r.1=true->s.1=true)/\(s.2=true->r.2=true)
theorem zcq {s v w:Span} (h:subS v w):tight (zZ s v) (zZ s w):=by
 unfold tight zZ subS at *;simp only [Bool.and_eq_true,decide_eq_true_eq];omega
theorem zkh {a b a' b':Span} (ha:subS a' a) (hb:subS b' b):subS (zbI a' b') (zbI a b):=by
 unfold subS zbI at *;simp only;omega
theorem zge {a b:Span} (ha:a.lo<=a.hi) (hb:b.lo<=b.hi):(zbI a b).lo<=(zbI a b).hi:=by unfold zbI;simp only;omega
theorem zeH {s t:Span} (h:subS s t) (hs:s.lo<=s.hi):subS (zD s) (zD t):=by
 unfold subS zD at *
 split<;>split<;>(try split)<;>(try split)<;>(try simp only at *)<;>omega
theorem zej {s:Span} (hs:s.lo<=s.hi):0<=(zD s).lo/\(zD s).lo<=(zD s).hi:=by
 unfold zD
 split
 ·exact ⟨by assumption,hs⟩
 ·split<;>(simp only;omega)
theorem zok {x y x' y':Span} (hx:subS x' x) (hy:subS y' y) (h1:0<=x.lo) (h2:0<=y.lo) (h3:x'.lo<=x'.hi) (h4:y'.lo<=y'.hi):subS (zfg x' y') (zfg x y):=by
 unfold subS zfg at *;have a1:=Int.mul_le_mul hx.1 hx.1 h1 (by omega);have a2:=Int.mul_le_mul hy.1 hy.1 h2 (by omega);have a3:=Int.mul_le_mul hx.2 hx.2 (by omega) (by omega);have a4:=Int.mul_le_mul hy.2 hy.2 (by omega) (by omega);simp only;omega
theorem zmJ {q:Int} {x y x' y':Span} (hx:subS x' x) (hy:subS y' y):subS (zaU q x' y').1 (zaU q x y).1/\subS (zaU q x' y').2 (zaU q x y).2:=by
 unfold zaU subS at *
 split
 ·exact ⟨hy,hx⟩
 ·split
  ·simp only;omega
  ·split<;>(simp only;omega)
theorem znr {q:Int} {x y:Span} (hx:x.lo<=x.hi) (hy:y.lo<=y.hi):(zaU q x y).1.lo<=(zaU q x y).1.hi/\(zaU q x y).2.lo<=(zaU q x y).2.hi:=by
 unfold zaU
 split
 ·exact ⟨hy,hx⟩
 ·split
  ·simp only;omega
  ·split<;>(simp only;omega)
theorem zkQ {f:Fact} {l m:List Box} (hn:Named f m.length) (hs:SubL l m) (hw:Wf l) (hwm:Wf m):tight (zd1 f l) (zd1 f m):=by
 have ha:f.a.toNat < m.length:=by have:=hn.a;omega
 have hb:f.b.toNat < m.length:=by have:=hn.b;omega
 have hc:f.c.toNat < m.length:=by have:=hn.c;omega
 have ha':f.a.toNat < l.length:=by rw [hs.1];exact ha
 have hb':f.b.toNat < l.length:=by rw [hs.1];exact hb
 have hc':f.c.toNat < l.length:=by rw [hs.1];exact hc
 have sa:=hs.2 _ ha' ha;have sb:=hs.2 _ hb' hb;have sc:=hs.2 _ hc' hc;have wa:=hw _ (List.getElem_mem ha');have wb:=hw _ (List.getElem_mem hb');have wc:=hw _ (List.getElem_mem hc');have wa2:=hwm _ (List.getElem_mem ha);have wb2:=hwm _ (List.getElem_mem hb);unfold zd1;simp only [getElem!_pos m f.a.toNat ha,getElem!_pos m f.b.toNat hb,getElem!_pos m f.c.toNat hc,getElem!_pos l f.a.toNat ha',getElem!_pos l f.b.toNat hb',getElem!_pos l f.c.toNat hc'];generalize m[f.a.toNat]=a at *;generalize m[f.b.toNat]=b at *;generalize m[f.c.toNat]=c at *;generalize l[f.a.toNat]=a' at *;generalize l[f.b.toNat]=b' at *;generalize l[f.c.toNat]=c' at *;have lx:=zkh sb.1 sa.1;have ly:=zkh sb.2 sa.2;have wx:=zge wb.1 wa.1;have wy:=zge wb.2 wa.2;have wx2:=zge wb2.1 wa2.1;have wy2:=zge wb2.2 wa2.2;generalize hX:zbI b.x a.x=X at *;generalize hY:zbI b.y a.y=Y at *;generalize hX':zbI b'.x a'.x=X' at *;generalize hY':zbI b'.y a'.y=Y' at *
 split
 ·exact zcq (znL sa sb sc wa wb wc)
 ·split
  ·obtain ⟨u1,u2⟩:=zmJ (q:=f.quarter) lx ly;obtain ⟨u3,u4⟩:=znr (q:=f.quarter) wx wy;have u5:=zeH u2 u4;unfold tight zcP subS at *;simp only [Bool.and_eq_true,decide_eq_true_eq];omega
  ·have ax:=zeH lx wx;have ay:=zeH ly wy
   split
   ·unfold tight zeN subS at *;simp only [decide_eq_true_eq];omega
   ·split
    ·exact zcq lx
    ·split
     ·exact zcq ly
     ·exact zcq (zok ax ay (zej wx2).1 (zej wy2).1 (zej wx).2 (zej wy).2)
theorem zkS {f:Fact} {l m:List Box} (hn:Named f m.length) (hs:SubL l m) (hw:Wf l) (hwm:Wf m) (h:zQ f m=true):zQ f l=true:=by
 obtain ⟨h1,h2⟩:=zkQ hn hs hw hwm;unfold zQ at *
 split
 ·rename_i hnt;rw [if_pos hnt] at h;exact h2 h
 ·rename_i hnt;rw [if_neg hnt] at h
  cases hb:(zd1 f l).1 with
  | false=>rfl
  | true=>rw [h1 hb] at h;simp at h
inductive Conn (E:List (Nat×Nat)):Nat->Nat->Prop
 | refl (i:Nat):Conn E i i
 | edge {a b:Nat} (h:(a,b)∈E):Conn E a b
 | symm {a b:Nat} (h:Conn E a b):Conn E b a
 | trans {a b c:Nat} (h:Conn E a b) (h':Conn E b c):Conn E a c
theorem Conn.mono {E E':List (Nat×Nat)} (hs:∀ e∈E,e∈E') {a b:Nat} (h:Conn E a b):Conn E' a b:=by
 induction h with
 | refl i=>exact .refl i
 | edge h=>exact .edge (hs _ h)
 | symm _ ih=>exact .symm ih
 | trans _ _ ih1 ih2=>exact .trans ih1 ih2
theorem Conn.keep {E:List (Nat×Nat)} {α:Type} (g:Nat->α) (hg:∀ e∈E,g e.1=g e.2) {a b:Nat} (h:Conn E a b):g a=g b:=by
 induction h with
 | refl i=>rfl
 | edge h=>exact hg _ h
 | symm _ ih=>exact ih.symm
 | trans _ _ ih1 ih2=>exact ih1.trans ih2
structure IsCls (E:List (Nat×Nat)) (n:Nat) (g:Nat->Nat):Prop where
 le:∀ i,i < n->g i<=i
 conn:∀ i,i < n->Conn E i (g i)
 keep:∀ e∈E,g e.1=g e.2
theorem IsCls.unique {E:List (Nat×Nat)} {n:Nat} {g g':Nat->Nat} (h:IsCls E n g) (h':IsCls E n g'):∀ i,i < n->g i=g' i:=fun i hi=>by
 have h1:=(h'.conn i hi).keep g h.keep;have h2:=(h.conn i hi).keep g' h'.keep;have l1:=h.le i hi;have l2:=h'.le i hi;have h3:=h.le (g' i) (by omega);have h4:=h'.le (g i) (by omega);omega
theorem IsCls.nil (n:Nat):IsCls [] n (fun i=>i):=⟨fun i _=>Nat.le_refl _,fun i _=>.refl i,fun e h=>by simp at h⟩
def zdm (g:Nat->Nat) (a b:Nat):Nat->Nat:=fun i=>if g i=max (g a) (g b) then min (g a) (g b) else g i
theorem IsCls.join {E:List (Nat×Nat)} {n:Nat} {g:Nat->Nat} (h:IsCls E n g) {a b:Nat} (ha:a < n) (hb:b < n):IsCls (E++[(a,b)]) n (zdm g a b):=by
 have hE:∀ e∈E,e∈E++[(a,b)]:=fun e he=>List.mem_append_left _ he;have hab:Conn (E++[(a,b)]) a b:=.edge (by simp);have ca:=(h.conn a ha).mono hE;have cb:=(h.conn b hb).mono hE
 refine ⟨fun i hi=>?_,fun i hi=>?_,fun e he=>?_⟩
 ·unfold zdm;have:=h.le i hi
  split
  ·rename_i e;omega
  ·exact this
 ·unfold zdm;have ci:=(h.conn i hi).mono hE
  split
  ·rename_i e;rw [e] at ci
   refine ci.trans ?_
   rcases Nat.le_total (g a) (g b) with hl|hl
   ·rw [Nat.max_eq_right hl,Nat.min_eq_left hl];exact (cb.symm.trans hab.symm).trans ca
   ·rw [Nat.max_eq_left hl,Nat.min_eq_right hl];exact (ca.symm.trans hab).trans cb
  ·exact ci
 ·rcases List.mem_append.1 he with he|he
  ·have:=h.keep e he;unfold zdm;rw [this]
  ·simp at he;subst he;unfold zdm;simp only;rcases Nat.le_total (g a) (g b) with hl|hl
   ·rw [Nat.max_eq_right hl,Nat.min_eq_left hl,if_pos rfl]
    split<;>omega
   ·rw [Nat.max_eq_left hl,Nat.min_eq_right hl,if_pos rfl]
    split<;>omega
theorem IsCls.idem {E:List (Nat×Nat)} {n:Nat} {g:Nat->Nat} (h:IsCls E n g) {i:Nat} (hi:i < n):g (g i)=g i:=((h.conn i hi).keep g h.keep).symm
structure OnWay (E:List (Nat×Nat)) (n:Nat) (g:Nat->Nat):Prop where
 le:∀ i,i < n->g i<=i
 conn:∀ i,i < n->Conn E i (g i)
theorem OnWay.start (E:List (Nat×Nat)) (n:Nat):OnWay E n (fun i=>i):=⟨fun i _=>Nat.le_refl _,fun i _=>.refl i⟩
def zdy (f:Fact):List (Nat×Nat):=(f.a.toNat,f.b.toNat)::if f.kind=2 then [(f.a.toNat,f.c.toNat)] else []
def zaV (fs:List Fact):List (Nat×Nat):=fs.flatMap zdy
def za1 (g:Nat->Nat) (n i:Nat):List Nat:=(List.range n).filter fun k=>g k == i
def zak (g:Nat->Nat) (n:Nat):List (List Nat):=((List.range n).filter fun i=>g i == i).map (za1 g n)
theorem ze2 {g g':Nat->Nat} {n:Nat} (h:∀ i,i < n->g i=g' i):zak g n=zak g' n:=by
 have h1:∀ i,za1 g n i=za1 g' n i:=fun i=>by
  unfold za1
  refine List.filter_congr fun k hk=>?_
  rw [h k (List.mem_range.1 hk)]
 unfold zak;rw [List.filter_congr (q:=fun i=>g' i == i) fun k hk=>by rw [h k (List.mem_range.1 hk)]];exact List.map_congr_left fun i _=>h1 i
def atB (p:Pt):Box:=⟨⟨p.x,p.x⟩,⟨p.y,p.y⟩⟩
def zer (s:Span):List Int:=(List.range (s.hi - s.lo+1).toNat).map fun i=>s.lo+(i:Nat)
def zao (b:Box):List Pt:=(zer b.x).flatMap fun x=>(zer b.y).map fun y=>⟨x,y⟩
theorem mem_nums {s:Span} {v:Int}:v∈zer s↔s.lo<=v/\v<=s.hi:=by
 unfold zer;simp only [List.mem_map,List.mem_range]
 constructor
 ·rintro ⟨i,hi,rfl⟩;omega
 ·rintro ⟨h1,h2⟩;exact ⟨(v - s.lo).toNat,by omega,by omega⟩
theorem mem_places {b:Box} {p:Pt}:p∈zao b↔inB' p b:=by
 unfold zao inB';simp only [List.mem_flatMap,List.mem_map]
 constructor
 ·rintro ⟨x,hx,y,hy,rfl⟩;have h1:=mem_nums.1 hx;have h2:=mem_nums.1 hy;exact ⟨h1.1,h1.2,h2.1,h2.2⟩
 ·rintro ⟨h1,h2,h3,h4⟩;exact ⟨p.x,mem_nums.2 ⟨h1,h2⟩,p.y,mem_nums.2 ⟨h3,h4⟩,rfl⟩
theorem zcc (s:Span):(zer s).length=(s.hi - s.lo+1).toNat:=by simp [zer]
theorem zdR {α β:Type} (f:α->List β) (n:Nat):∀ l:List α,(∀ a∈l,(f a).length=n)->(l.flatMap f).length=l.length*n
 | [],_=>by simp
 | a::l,h=>by
  rw [List.flatMap_cons,List.length_append,zdR f n l (fun b hb=>h b (List.mem_cons_of_mem _ hb)),h a (List.mem_cons_self ..),List.length_cons,Nat.add_mul];omega
theorem zen (b:Box):(zao b).length=(b.x.hi - b.x.lo+1).toNat*(b.y.hi - b.y.lo+1).toNat:=by
 unfold zao;rw [zdR _ (b.y.hi - b.y.lo+1).toNat _ (fun a _=>by simp [zcc]),zcc]
def allC (l:List Box):List Nat->List (List Pt)
 | []=>[[]]
 | i::rest=>(zao l[i]!).flatMap fun x=>(allC l rest).map (x :: ·)
def zbw (ok:Nat->List Box->Bool) (l:List Box):List Nat->Nat->List Box->List (List Pt)
 | [],_,_=>[[]]
 | i::rest,k,here=>(zao l[i]!).flatMap fun x=>if ok k (here.set i (atB x))=true then (zbw ok l rest (k+1) (here.set i (atB x))).map (x :: ·) else []
def zem (ok:Nat->List Box->Bool):List Nat->Nat->List Box->List Pt->Bool
 | i::rest,k,here,x::c=>ok k (here.set i (atB x))&&zem ok rest (k+1) (here.set i (atB x)) c
 | _,_,_,_=>true
theorem zd8 {α β:Type} (p:β->Bool) (f:α->List β):∀ l:List α,(l.flatMap f).filter p=l.flatMap fun a=>(f a).filter p
 | []=>rfl
 | a::l=>by rw [List.flatMap_cons,List.flatMap_cons,List.filter_append,zd8 p f l]
theorem zdZ {α β:Type} {f g:α->List β}:∀ {l:List α},(∀ a∈l,f a=g a)->l.flatMap f=l.flatMap g
 | [],_=>rfl
 | a::l,h=>by rw [List.flatMap_cons,List.flatMap_cons,h a (List.mem_cons_self ..),zdZ fun b hb=>h b (List.mem_cons_of_mem _ hb)]
theorem zc2 (ok:Nat->List Box->Bool) (l:List Box):∀ (part:List Nat) (k:Nat) (here:List Box),zbw ok l part k here=(allC l part).filter (zem ok part k here)
 | [],k,here=>by simp [zbw,allC,zem]
 | i::rest,k,here=>by
  rw [zbw,allC,zd8]
  refine zdZ fun x _=>?_
  rw [List.filter_map];have ih:=zc2 ok l rest (k+1) (here.set i (atB x))
  by_cases h:ok k (here.set i (atB x))=true
  ·rw [if_pos h,ih]
   congr 2
   funext c
   simp [zem,h]
  ·rw [if_neg h];have:(zem ok (i::rest) k here ∘ fun c=>x::c)=fun _=>false:=by
    funext c
    simp only [Function.comp_def,zem];simp at h;simp [h]
   rw [this];simp
theorem zgu {l:List Box}:∀ {part:List Nat} {c:List Pt},c∈allC l part↔c.length=part.length/\∀ k (h:k < part.length) (h':k < c.length),inB' c[k] l[part[k]]!
 | [],c=>by
  simp only [allC,List.mem_singleton,List.length_nil]
  constructor
  ·rintro rfl;exact ⟨rfl,fun k h=>by simp at h⟩
  ·rintro ⟨h,_⟩;exact List.eq_nil_of_length_eq_zero h
 | i::rest,c=>by
  simp only [allC,List.mem_flatMap,List.mem_map]
  constructor
  ·rintro ⟨x,hx,d,hd,rfl⟩;obtain ⟨h1,h2⟩:=(zgu (l:=l)).1 hd
   refine ⟨by simp [h1],fun k h h'=>?_⟩
   cases k with
   | zero=>simpa using mem_places.1 hx
   | succ k=>simpa using h2 k (by simpa using h) (by simpa using h')
  ·rintro ⟨h1,h2⟩
   cases c with
   | nil=>simp at h1
   | cons x d =>
    refine ⟨x,mem_places.2 (h2 0 (by simp) (by simp)),d,(zgu (l:=l)).2 ⟨by simpa using h1,fun k h h'=>?_⟩,rfl⟩
    exact h2 (k+1) (by simp;omega) (by simp;omega)
def zny (f:Fact) (l m:List Box):Prop:=l[f.a.toNat]! = m[f.a.toNat]! /\ l[f.b.toNat]! = m[f.b.toNat]! /\ (f.kind=2->l[f.c.toNat]! = m[f.c.toNat]!)
theorem zc1 {f:Fact} {l m:List Box} (h:zny f l m):zQ f l=zQ f m:=by
 obtain ⟨h1,h2,h3⟩:=h;unfold zQ zd1;rw [h1,h2]
 by_cases hk:f.kind=2
 ·rw [h3 hk]
 ·simp only [if_neg hk]
def zaK:List Nat->List Pt->List Box->List Box
 | i::part,x::c,here=>zaK part c (here.set i (atB x))
 | _,_,here=>here
theorem zdC:∀ (part:List Nat) (c:List Pt) (here:List Box) (j:Nat),j ∉ part->(zaK part c here)[j]! = here[j]!
 | [],_,_,_,_=>by simp [zaK]
 | _::_,[],_,_,_=>by simp [zaK]
 | i::part,x::c,here,j,h=>by
  rw [zaK,zdC part c _ j (fun hm=>h (List.mem_cons_of_mem _ hm))];have:i≠j:=fun e=>h (by rw [e];exact List.mem_cons_self ..);simp [List.getElem?_set,this]
theorem zhY:∀ (part:List Nat) (c:List Pt) (here:List Box),part.Nodup->c.length=part.length->(∀ i∈part,i < here.length)->∀ k (h:k < part.length) (h':k < c.length),(zaK part c here)[part[k]]! = atB c[k]
 | [],_,_,_,_,_,k,h,_=>by simp at h
 | _::_,[],_,_,hc,_,_,_,_=>by simp at hc
 | i::part,x::c,here,hn,hc,hi,k,h,h'=>by
  rw [zaK];have hn':=List.nodup_cons.1 hn
  cases k with
  | zero =>
   simp only [List.getElem_cons_zero];rw [zdC _ _ _ _ hn'.1];have:=hi i (List.mem_cons_self ..);simp [List.getElem?_set,this]
  | succ k =>
   simp only [List.getElem_cons_succ];exact zhY part c _ hn'.2 (by simpa using hc) (fun j hj=>by rw [List.length_set];exact hi j (List.mem_cons_of_mem _ hj)) k (by simpa using h) (by simpa using h')
def zdM (part:List Nat) (f:Fact):Nat:=max (max (part.idxOf f.a.toNat) (part.idxOf f.b.toNat)) (if f.kind=2 then part.idxOf f.c.toNat else 0)
structure Within (part:List Nat) (f:Fact):Prop where
 a:f.a.toNat∈part
 b:f.b.toNat∈part
 c:f.kind=2->f.c.toNat∈part
theorem zgi {part:List Nat} {c:List Pt} {here:List Box} {f:Fact} (hn:part.Nodup) (hw:Within part f) {k:Nat} (hk:zdM part f < k):zny f (zaK (part.take k) (c.take k) here) (zaK part c here):=by
 have key:∀ (part:List Nat) (c:List Pt) (here:List Box) (k j:Nat),part.Nodup->j∈part->part.idxOf j < k->(zaK (part.take k) (c.take k) here)[j]! = (zaK part c here)[j]! := by
  intro part
  induction part with
  | nil=>intro c here k j _ hj;simp at hj
  | cons i part ih =>
   intro c here k j hn hj hk
   cases k with
   | zero=>omega
   | succ k =>
    cases c with
    | nil=>simp [zaK]
    | cons x c =>
     simp only [List.take_succ_cons,zaK];have hn':=List.nodup_cons.1 hn
     by_cases e:i=j
     ·subst e;rw [zdC _ _ _ _ (fun h=>hn'.1 (List.mem_of_mem_take h)),zdC _ _ _ _ hn'.1]
     ·have hj':j∈part:=by
       rcases List.mem_cons.1 hj with h|h
       ·exact absurd h.symm e
       ·exact h
      rw [List.idxOf_cons] at hk;have:(i == j)=false:=by simpa using e
      rw [this] at hk;simp only [cond_false] at hk;exact ih c _ k j hn'.2 hj' (by omega)
 unfold zdM at hk
 refine ⟨key _ _ _ _ _ hn hw.a (by omega),key _ _ _ _ _ hn hw.b (by omega),fun h2=>?_⟩
 rw [if_pos h2] at hk;exact key _ _ _ _ _ hn (hw.c h2) (by omega)
def okK (facts:List Fact) (part:List Nat) (k:Nat) (here:List Box):Bool:=facts.all fun f=>!(part.contains f.a.toNat&&decide (zdM part f=k)) || !zQ f here
theorem zic {facts:List Fact} {whole:List Nat}:∀ (rest:List Nat) (k:Nat) (here:List Box) (c:List Pt),c.length=rest.length ->
  (zem (okK facts whole) rest k here c=true↔∀ j,j < rest.length->okK facts whole (k+j) (zaK (rest.take (j+1)) (c.take (j+1)) here)=true)
 | [],k,here,c,hc=>by simp [zem]
 | i::rest,k,here,[],hc=>by simp at hc
 | i::rest,k,here,x::c,hc=>by
  have ih:=zic (facts:=facts) (whole:=whole) rest (k+1) (here.set i (atB x)) c (by simpa using hc);rw [zem,Bool.and_eq_true,ih]
  constructor
  ·rintro ⟨h1,h2⟩ j hj
   cases j with
   | zero=>simpa [zaK] using h1
   | succ j =>
    have:=h2 j (by simpa using hj);rw [show k+(j+1)=k+1+j by omega]
    simpa [zaK] using this
  ·intro h
   refine ⟨by simpa [zaK] using h 0 (by simp),fun j hj=>?_⟩
   have:=h (j+1) (by simpa using hj);rw [show k+(j+1)=k+1+j by omega] at this
   simpa [zaK] using this
theorem zik {facts:List Fact} {part:List Nat} {l:List Box} {c:List Pt} (hn:part.Nodup) (hc:c.length=part.length) (hw:∀ f∈facts,f.a.toNat∈part->Within part f) :
  zem (okK facts part) part 0 l c=true↔∀ f∈facts,f.a.toNat∈part->zQ f (zaK part c l)=false:=by
 rw [zic part 0 l c hc];have hlast:∀ f∈facts,f.a.toNat∈part->zdM part f < part.length:=fun f hf ha=>by
  have w:=hw f hf ha;have h1:=List.idxOf_lt_length_of_mem w.a;have h2:=List.idxOf_lt_length_of_mem w.b;unfold zdM
  by_cases h3:f.kind=2
  ·have:=List.idxOf_lt_length_of_mem (w.c h3);rw [if_pos h3];omega
  ·rw [if_neg h3];omega
 constructor
 ·intro h f hf ha;have h1:=h (zdM part f) (hlast f hf ha);unfold okK at h1;rw [List.all_eq_true] at h1;have h2:=h1 f hf;simp only [Nat.zero_add,decide_true,Bool.and_true,Bool.or_eq_true,Bool.not_eq_true',List.contains_iff_mem,List.elem_eq_mem] at h2;rw [<- zc1 (zgi (k:=zdM part f+1) hn (hw f hf ha) (by omega))];rcases h2 with h2|h2
  ·simp [ha] at h2
  ·exact h2
 ·intro h j hj;unfold okK;rw [List.all_eq_true];intro f hf
  by_cases ha:f.a.toNat∈part
  ·by_cases hk:zdM part f=j
   ·have:=h f hf ha;rw [<- zc1 (zgi (k:=j+1) hn (hw f hf ha) (by omega))] at this;simp [this]
   ·simp [hk]
  ·simp [ha]
def zal (facts:List Fact) (l:List Box) (part:List Nat):List (List Pt):=zbw (okK facts part) l part 0 l
theorem zeV {facts:List Fact} {l:List Box} {part:List Nat} (hn:part.Nodup) (hw:∀ f∈facts,f.a.toNat∈part->Within part f) {c:List Pt} :
  c∈zal facts l part↔(c.length=part.length/\∀ k (h:k < part.length) (h':k < c.length),inB' c[k] l[part[k]]!)/\∀ f∈facts,f.a.toNat∈part->zQ f (zaK part c l)=false:=by
 unfold zal;rw [zc2,List.mem_filter,zgu]
 constructor
 ·rintro ⟨h1,h2⟩;exact ⟨h1,(zik hn h1.1 hw).1 h2⟩
 ·rintro ⟨h1,h2⟩;exact ⟨h1,(zik hn h1.1 hw).2 h2⟩
def zbq {α:Type} (key:α->Int) (o:Option α) (c:α):Option α:=match o with
 | none=>some c
 | some d=>if key c < key d then some c else some d
def zj9 {α:Type} (key:α->Int) (l:List α):Option α:=l.foldl (zbq key) none
theorem zfK {α:Type} (key:α->Int):∀ (l:List α) (d:α),∃ e,l.foldl (zbq key) (some d)=some e/\(e=d\/e∈l)/\key e<=key d/\∀ c∈l,key e<=key c
 | [],d=>⟨d,rfl,.inl rfl,Int.le_refl _,by simp⟩
 | a::l,d=>by
  rw [List.foldl_cons,zbq]
  split
  ·rename_i h;obtain ⟨e,h1,h2,h3,h4⟩:=zfK key l a
   refine ⟨e,h1,?_,by omega,fun c hc=>?_⟩
   ·rcases h2 with rfl|h2
    ·exact .inr (List.mem_cons_self ..)
    ·exact .inr (List.mem_cons_of_mem _ h2)
   ·rcases List.mem_cons.1 hc with rfl|hc
    ·exact h3
    ·exact h4 c hc
  ·rename_i h;obtain ⟨e,h1,h2,h3,h4⟩:=zfK key l d
   refine ⟨e,h1,?_,h3,fun c hc=>?_⟩
   ·rcases h2 with rfl|h2
    ·exact .inl rfl
    ·exact .inr (List.mem_cons_of_mem _ h2)
   ·rcases List.mem_cons.1 hc with rfl|hc
    ·omega
    ·exact h4 c hc
theorem zoE {α:Type} (key:α->Int) {l:List α} (h:l≠[]):∃ e,zj9 key l=some e/\e∈l/\∀ c∈l,key e<=key c:=by
 cases l with
 | nil=>exact absurd rfl h
 | cons a l =>
  obtain ⟨e,h1,h2,h3,h4⟩:=zfK key l a
  refine ⟨e,h1,?_,fun c hc=>?_⟩
  ·rcases h2 with rfl|h2
   ·exact List.mem_cons_self ..
   ·exact List.mem_cons_of_mem _ h2
  ·rcases List.mem_cons.1 hc with rfl|hc
   ·exact h3
   ·exact h4 c hc
set_option maxHeartbeats 1000000
def zc9 (l:List Int) (k:Nat) (v:Span):Prop:=SpanOf (fun t=>∃ j,∃ h:j < l.length,j < k/\l[j]=t) v
theorem ziA {l:List Int} (h:0 < l.length):zc9 l 1 ⟨l[0],l[0]⟩:=⟨fun t ⟨j,hl,hj,e⟩=>by
 have:j=0:=by omega
 subst this;subst e;exact ⟨Int.le_refl _,Int.le_refl _⟩,⟨0,h,by omega,rfl⟩,⟨0,h,by omega,rfl⟩⟩
theorem zjs {l:List Int} {k:Nat} (hk:k < l.length) {v:Span} (h:zc9 l k v):zc9 l (k+1) ⟨min v.lo l[k],max v.hi l[k]⟩:=by
 obtain ⟨h1,⟨j1,g0,g1,e1⟩,⟨j2,g3,g2,e2⟩⟩:=h
 refine ⟨fun t ⟨j,hl,hj,e⟩=>?_,?_,?_⟩
 ·simp only
  by_cases hjk:j=k
  ·subst hjk;omega
  ·have:=h1 t ⟨j,hl,by omega,e⟩;omega
 ·simp only;rcases Int.le_total v.lo l[k] with h|h
  ·exact ⟨j1,g0,by omega,by rw [e1];omega⟩
  ·exact ⟨k,hk,by omega,by omega⟩
 ·simp only;rcases Int.le_total v.hi l[k] with h|h
  ·exact ⟨k,hk,by omega,by omega⟩
  ·exact ⟨j2,g3,by omega,by rw [e2];omega⟩
theorem zlq {a b c:Box} {v:Span} (h:zc9 (zau a b c) (zau a b c).length v):v=zcg a b c:=by
 have key:∀ t,(∃ j,∃ hj:j < (zau a b c).length,j < (zau a b c).length/\(zau a b c)[j]=t)↔t∈zau a b c:=fun t=>by
  rw [List.mem_iff_getElem]
  constructor
  ·rintro ⟨j,hj,_,e⟩;exact ⟨j,hj,e⟩
  ·rintro ⟨j,hj,e⟩;exact ⟨j,hj,hj,e⟩
 exact SpanOf.unique (T:=(·∈zau a b c)) ⟨fun t ht=>h.bound t ((key t).2 ht),(key _).1 h.lo,(key _).1 h.hi⟩ (zew a b c)
theorem zm6 (a b c:Box) (i j k:Nat) (hi:i < 4) (hj:j < 4) (hk:k < 4):(zau a b c)[16*i+4*j+k]?=some (zbe ((zF a)[i]'hi) ((zF b)[j]'hj) ((zF c)[k]'hk)):=by
 rcases (by omega:i=0\/i=1\/i=2\/i=3) with rfl|rfl|rfl|rfl<;>rcases (by omega:j=0\/j=1\/j=2\/j=3) with rfl|rfl|rfl|rfl<;>rcases (by omega:k=0\/k=1\/k=2\/k=3) with rfl|rfl|rfl|rfl<;>rfl
theorem ziF (a b c:Box):(zau a b c).length=64:=rfl
end Go.Proofs.Ytleggocccaeemaa.Vm
