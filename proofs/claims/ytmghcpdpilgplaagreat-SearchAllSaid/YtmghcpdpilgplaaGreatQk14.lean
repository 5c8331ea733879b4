/- What a fact says of boxes, and of all points in them: plain Lean. The specification's ways to the same values: plain Lean. -/
import Derived.Test.YtmghcpdpilgplaaGreatQk8
namespace Go.Proofs.YtmghcpdpilgplaaGreat.Vm
open Go
set_option linter.unusedSimpArgs false
set_option linter.unusedVariables false
set_option maxHeartbeats 1000000
def bare3 (f:Fact) (a b c:Box):Bool×Bool :=
 let x:=lessS b.x a.x
 let y:=lessS b.y a.y
 if f.kind=2 then valuedS f.span (turnS a b c)
 else if f.kind=3 then quarterS (aheadS f.quarter x y).1 (aheadS f.quarter x y).2
 else if f.kind=4 then nearS' f.span (amountS x) (amountS y)
 else if f.kind=5 then valuedS f.span x
 else if f.kind=6 then valuedS f.span y
 else valuedS f.span (distS (amountS x) (amountS y))
theorem bareS_3 (f:Fact) (l:List Box):bareS f l=bare3 f l[f.a.toNat]! l[f.b.toNat]! l[f.c.toNat]! := rfl
def aheadV (q dx dy:Int):Int×Int:=if q=1 then (dy,dx) else if q=2 then (-dx,dy) else if q=3 then (-dy,dx) else (dx,dy)
def bareD (f:Fact) (dx dy:Int):Bool :=
 if f.kind=3 then decide (0 < (aheadV f.quarter dx dy).1)&&decide ((aheadV f.quarter dx dy).2≤(aheadV f.quarter dx dy).1)&&decide (-(aheadV f.quarter dx dy).2≤(aheadV f.quarter dx dy).1)
 else if f.kind=4 then decide (dx≤f.span.hi)&&decide (-dx≤f.span.hi)&&decide (dy≤f.span.hi)&&decide (-dy≤f.span.hi)
 else if f.kind=5 then decide (f.span.lo≤dx)&&decide (dx≤f.span.hi)
 else if f.kind=6 then decide (f.span.lo≤dy)&&decide (dy≤f.span.hi)
 else decide (f.span.lo≤dx*dx+dy*dy)&&decide (dx*dx+dy*dy≤f.span.hi)
def bareV (f:Fact) (p q r:Pt):Bool:=if f.kind=2 then decide (f.span.lo≤turnV p q r)&&decide (turnV p q r≤f.span.hi) else bareD f (q.x - p.x) (q.y - p.y)
theorem less_at (a b:Int):lessS ⟨b,b⟩ ⟨a,a⟩=⟨b - a,b - a⟩:=rfl
theorem amount_at (a:Int):amountS ⟨a,a⟩=⟨max a (-a),max a (-a)⟩:=by
 unfold amountS;simp only
 split
 ·rw [show max a (-a)=a by omega]
 ·split
  ·rw [show max a (-a)=-a by omega]
  ·omega
theorem abs_sq (a:Int):max a (-a)*max a (-a)=a*a:=by
 rcases Int.le_total a (-a) with h|h
 ·rw [show max a (-a)=-a by omega,Int.neg_mul_neg]
 ·rw [show max a (-a)=a by omega]
theorem turn_at (p q r:Pt):turnS (atB p) (atB q) (atB r)=⟨turnV p q r,turnV p q r⟩:=by
 refine (turnS_span _ _ _).unique ⟨fun t ht=>?_,?_,?_⟩
 ·simp [turnsL,cornersB,atB] at ht;subst ht;exact ⟨Int.le_refl _,Int.le_refl _⟩
 ·simp [turnsL,cornersB,atB]
 ·simp [turnsL,cornersB,atB]
theorem bool2 {a b c d:Bool} (h1:a=c) (h2:b=d):(a,b)=(c,d):=by rw [h1,h2]
theorem bare3_at (f:Fact) (p q r:Pt):bare3 f (atB p) (atB q) (atB r)=(bareV f p q r,bareV f p q r):=by
 unfold bare3 bareV;simp only [turn_at];simp only [atB,less_at,amount_at]
 split
 ·unfold valuedS
  refine bool2 ?_ rfl
  simp only;exact Bool.and_comm _ _
 ·unfold bareD
  split
  ·unfold quarterS aheadS aheadV;(repeat' split)<;>simp only [amount_at]<;>refine bool2 ?_ ?_<;>rw [Bool.eq_iff_iff]<;>simp only [Bool.and_eq_true,decide_eq_true_eq]<;>omega
  ·split
   ·unfold nearS'
    refine bool2 ?_ ?_<;>rw [Bool.eq_iff_iff]<;>simp only [Bool.and_eq_true,decide_eq_true_eq]<;>omega
   ·split
    ·unfold valuedS;exact bool2 (Bool.and_comm _ _) rfl
    ·split
     ·unfold valuedS;exact bool2 (Bool.and_comm _ _) rfl
     ·unfold valuedS distS;simp only [abs_sq];exact bool2 (Bool.and_comm _ _) rfl
def endS (s:Span) (w:Nat):Int:=if w % 2=0 then s.lo else s.hi
def turnK (a b c:Box) (k:Nat):Int:=turnV ⟨endS a.x k,endS a.y (k / 2)⟩ ⟨endS b.x (k / 4),endS b.y (k / 8)⟩ ⟨endS c.x (k / 16),endS c.y (k / 32)⟩
theorem mem_corners {b:Box} {p:Pt}:p∈cornersB b↔∃ i j,i < 2∧j < 2∧p=⟨endS b.x i,endS b.y j⟩:=by
 unfold cornersB;simp only [List.mem_cons,List.not_mem_nil,or_false]
 constructor
 ·rintro (rfl|rfl|rfl|rfl)
  ·exact ⟨0,0,by omega,by omega,rfl⟩
  ·exact ⟨0,1,by omega,by omega,rfl⟩
  ·exact ⟨1,0,by omega,by omega,rfl⟩
  ·exact ⟨1,1,by omega,by omega,rfl⟩
 ·rintro ⟨i,j,hi,hj,rfl⟩;rcases (by omega:i=0∨i=1) with rfl|rfl<;>rcases (by omega:j=0∨j=1) with rfl|rfl<;>simp [endS]
theorem endS_mod {s:Span} {i j:Nat} (h:i % 2=j % 2):endS s i=endS s j:=by unfold endS;rw [h]
theorem mem_turns {a b c:Box} {t:Int}:t∈turnsL a b c↔∃ k,k < 64∧turnK a b c k=t:=by
 unfold turnsL;simp only [List.mem_flatMap,List.mem_map,mem_corners]
 constructor
 ·rintro ⟨p,⟨i1,j1,a1,a2,rfl⟩,q,⟨i2,j2,b1,b2,rfl⟩,r,⟨i3,j3,c1,c2,rfl⟩,rfl⟩
  refine ⟨i1+2*j1+4*i2+8*j2+16*i3+32*j3,by omega,?_⟩
  unfold turnK;rw [endS_mod (s:=a.x) (j:=i1) (by omega),endS_mod (s:=a.y) (j:=j1) (by omega),endS_mod (s:=b.x) (j:=i2) (by omega),endS_mod (s:=b.y) (j:=j2) (by omega),endS_mod (s:=c.x) (j:=i3) (by omega),endS_mod (s:=c.y) (j:=j3) (by omega)]
 ·rintro ⟨k,hk,rfl⟩
  refine ⟨_,⟨k % 2,k / 2 % 2,by omega,by omega,rfl⟩,_,⟨k / 4 % 2,k / 8 % 2,by omega,by omega,rfl⟩,_,⟨k / 16 % 2,k / 32 % 2,by omega,by omega,rfl⟩,?_⟩
  unfold turnK;rw [endS_mod (s:=a.x) (j:=k) (by omega),endS_mod (s:=a.y) (j:=k / 2) (by omega),endS_mod (s:=b.x) (j:=k / 4) (by omega),endS_mod (s:=b.y) (j:=k / 8) (by omega),endS_mod (s:=c.x) (j:=k / 16) (by omega),endS_mod (s:=c.y) (j:=k / 32) (by omega)]
def turnTo (a b c:Box) (k:Nat) (v:Span):Prop:=SpanOf (fun t=>∃ j,j < k∧turnK a b c j=t) v
theorem turnTo_start (a b c:Box):turnTo a b c 1 ⟨turnK a b c 0,turnK a b c 0⟩:=⟨fun t ⟨j,hj,e⟩=>by
 have:j=0:=by omega
 subst this;subst e;exact ⟨Int.le_refl _,Int.le_refl _⟩,⟨0,by omega,rfl⟩,⟨0,by omega,rfl⟩⟩
theorem turnTo_step {a b c:Box} {k:Nat} {v:Span} (h:turnTo a b c k v):turnTo a b c (k+1) ⟨min v.lo (turnK a b c k),max v.hi (turnK a b c k)⟩:=by
 obtain ⟨h1,⟨j1,g1,e1⟩,⟨j2,g2,e2⟩⟩:=h
 refine ⟨fun t ⟨j,hj,e⟩=>?_,?_,?_⟩
 ·simp only
  by_cases hjk:j=k
  ·subst hjk;omega
  ·have:=h1 t ⟨j,by omega,e⟩;omega
 ·simp only;rcases Int.le_total v.lo (turnK a b c k) with h|h
  ·exact ⟨j1,by omega,by rw [e1];omega⟩
  ·exact ⟨k,by omega,by omega⟩
 ·simp only;rcases Int.le_total v.hi (turnK a b c k) with h|h
  ·exact ⟨k,by omega,by omega⟩
  ·exact ⟨j2,by omega,by rw [e2];omega⟩
theorem turnTo_end {a b c:Box} {v:Span} (h:turnTo a b c 64 v):v=turnS a b c:=by
 refine SpanOf.unique (T:=(·∈turnsL a b c)) ⟨fun t ht=>h.bound t (mem_turns.1 ht),mem_turns.2 h.lo,mem_turns.2 h.hi⟩ (turnS_span a b c)
def spanTo (l:List Int) (k:Nat) (v:Span):Prop:=SpanOf (fun t=>∃ j,∃ h:j < l.length,j < k∧l[j]=t) v
theorem spanTo_start {l:List Int} (h:0 < l.length):spanTo l 1 ⟨l[0],l[0]⟩:=⟨fun t ⟨j,hl,hj,e⟩=>by
 have:j=0:=by omega
 subst this;subst e;exact ⟨Int.le_refl _,Int.le_refl _⟩,⟨0,h,by omega,rfl⟩,⟨0,h,by omega,rfl⟩⟩
theorem spanTo_step {l:List Int} {k:Nat} (hk:k < l.length) {v:Span} (h:spanTo l k v):spanTo l (k+1) ⟨min v.lo l[k],max v.hi l[k]⟩:=by
 obtain ⟨h1,⟨j1,g0,g1,e1⟩,⟨j2,g3,g2,e2⟩⟩:=h
 refine ⟨fun t ⟨j,hl,hj,e⟩=>?_,?_,?_⟩
 ·simp only
  by_cases hjk:j=k
  ·subst hjk;omega
  ·have:=h1 t ⟨j,hl,by omega,e⟩;omega
 ·simp only;rcases Int.le_total v.lo l[k] with h|h
  ·exact ⟨j1,g0,by omega,by rw [e1];omega⟩
  ·exact ⟨k,hk,by omega,by omega⟩
 ·simp only;rcases Int.le_total v.hi l[k] with h|h
  ·exact ⟨k,hk,by omega,by omega⟩
  ·exact ⟨j2,g3,by omega,by rw [e2];omega⟩
theorem spanTo_end {a b c:Box} {v:Span} (h:spanTo (turnsL a b c) (turnsL a b c).length v):v=turnS a b c:=by
 have key:∀ t,(∃ j,∃ hj:j < (turnsL a b c).length,j < (turnsL a b c).length∧(turnsL a b c)[j]=t)↔t∈turnsL a b c:=fun t=>by
  rw [List.mem_iff_getElem]
  constructor
  ·rintro ⟨j,hj,_,e⟩;exact ⟨j,hj,e⟩
  ·rintro ⟨j,hj,e⟩;exact ⟨j,hj,hj,e⟩
 exact SpanOf.unique (T:=(·∈turnsL a b c)) ⟨fun t ht=>h.bound t ((key t).2 ht),(key _).1 h.lo,(key _).1 h.hi⟩ (turnS_span a b c)
theorem turns_at (a b c:Box) (i j k:Nat) (hi:i < 4) (hj:j < 4) (hk:k < 4):(turnsL a b c)[16*i+4*j+k]?=some (turnV ((cornersB a)[i]'hi) ((cornersB b)[j]'hj) ((cornersB c)[k]'hk)):=by
 rcases (by omega:i=0∨i=1∨i=2∨i=3) with rfl|rfl|rfl|rfl<;>rcases (by omega:j=0∨j=1∨j=2∨j=3) with rfl|rfl|rfl|rfl<;>rcases (by omega:k=0∨k=1∨k=2∨k=3) with rfl|rfl|rfl|rfl<;>rfl
theorem turns_length (a b c:Box):(turnsL a b c).length=64:=rfl
theorem size_amount {s:Span} (h:s.lo≤s.hi):(if s.lo≤0∧0≤s.hi then (⟨0,max s.hi (-s.lo)⟩:Span) else ⟨min (max s.lo (-s.lo)) (max s.hi (-s.hi)),max s.hi (-s.lo)⟩)=amountS s:=by
 obtain ⟨lo,hi⟩:=s;unfold amountS;simp only at *
 split<;>split<;>(try split)<;>rw [Span.mk.injEq]<;>exact ⟨by omega,by omega⟩
end Go.Proofs.YtmghcpdpilgplaaGreat.Vm
