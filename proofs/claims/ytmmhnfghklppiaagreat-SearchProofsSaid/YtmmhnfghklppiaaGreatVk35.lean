/- Going through all choices of points step by step: plain Lean. -/
import Derived.Test.YtmmhnfghklppiaaGreatVk18
namespace Go.Proofs.YtmmhnfghklppiaaGreat.Vm
open Go
set_option linter.unusedSimpArgs false
set_option linter.unusedVariables false
inductive ig {α:Type} (f:α->Option α):α->List α->Prop
 | last (a:α) (h:f a=none):ig f a [a]
 | step (a b:α) (l:List α) (h:f a=some b) (hl:ig f b l):ig f a (a::l)
section
variable {α β:Type} {f:α->Option α} {g:β->Option β}
theorem ig.ne {a:α} {l:List α} (h:ig f a l):l≠[]:=by cases h<;>simp
theorem ig.mem {a:α} {l:List α} (h:ig f a l):a∈l:=by cases h<;>simp
theorem ig.map (h:α->β) (yl:∀ a,g (h a)=(f a).map h) {a:α} {l:List α} (hr:ig f a l):ig g (h a) (l.map h):=by
 induction hr with
 | last a h0=>exact .last _ (by rw [yl,h0];rfl)
 | step a b l h0 _ ih=>exact .step _ _ _ (by rw [yl,h0];rfl) ih
theorem ig.then {a b:α} {l m:List α} {f':α->Option α} (h:ig f' a l) (hf:∀ x∈l,∀ y,f' x=some y->f x=some y) (hl:∀ x∈l,f' x=none->f x=some b) (hm:ig f b m):ig f a (l++m):=by
 induction h with
 | last a h0=>exact .step _ _ _ (hl a (by simp) h0) hm
 | step a c l h0 _ ih=>exact .step _ _ _ (hf a (by simp) _ h0) (ih (fun x hx=>hf x (by simp [hx])) (fun x hx=>hl x (by simp [hx])))
theorem ig.whole {a:α} {l:List α} {f':α->Option α} (h:ig f' a l) (hf:∀ x∈l,f x=f' x):ig f a l:=by
 induction h with
 | last a h0=>exact .last _ (by rw [hf a (by simp),h0])
 | step a c l h0 _ ih=>exact .step _ _ _ (by rw [hf a (by simp),h0]) (ih fun x hx=>hf x (by simp [hx]))
def Dt (f:α->Option α) (low:α) (g:β->Option β):α×β->Option (α×β):=fun p=>match f p.1 with
 | some x=>some (x,p.2)
 | none=>(g p.2).map fun y=>(low,y)
theorem ig.two {low:α} {la:List α} (ha:ig f low la) {b:β} {lb:List β} (hb:ig g b lb):ig (Dt f low g) (low,b) (lb.flatMap fun y=>la.map fun x=>(x,y)):=by
 have row:∀ y:β,ig (fun p:α×β=>(f p.1).map fun x=>(x,p.2)) (low,y) (la.map fun x=>(x,y)):=fun y=>ha.map (fun x=>(x,y)) fun a=>rfl
 induction hb with
 | last b h0 =>
  simp only [List.flatMap_cons,List.flatMap_nil,List.append_nil]
  refine (row b).whole fun p hp=>?_
  obtain ⟨x,_,rfl⟩:=List.mem_map.1 hp;unfold Dt;simp only
  cases f x with
  | some z=>rfl
  | none=>rw [h0];rfl
 | step b c l h0 _ ih =>
  rw [List.flatMap_cons]
  refine (row b).then (fun p hp q hq=>?_) (fun p hp hq=>?_) ih
  .obtain ⟨x,_,rfl⟩:=List.mem_map.1 hp;unfold Dt;simp only at hq ⊢
   cases hf:f x with
   | some z=>rw [hf] at hq;simpa using hq
   | none=>rw [hf] at hq;simp at hq
  .obtain ⟨x,_,rfl⟩:=List.mem_map.1 hp;unfold Dt;simp only at hq ⊢
   cases hf:f x with
   | some z=>rw [hf] at hq;simp at hq
   | none=>simp [h0]
end
def Sr (hi:Int) (x:Int):Option Int:=if x < hi then some (x+1) else none
theorem zjh {s:Span} (h:s.lo<=s.hi):ig (Sr s.hi) s.lo (yc s):=by
 obtain ⟨lo,hi⟩:=s;simp only at h;have key:∀ (n:Nat) (a:Int),a+n=hi->ig (Sr hi) a ((List.range (n+1)).map fun i=>a+(i:Nat)):=by
  intro n
  induction n with
  | zero=>intro a ha;exact (show ((List.range 1).map fun i=>a+((i:Nat):Int))=[a] by simp) ▸ .last a (by unfold Sr;rw [if_neg (by omega)])
  | succ n ih =>
   intro a ha;have:=ih (a+1) (by omega);rw [List.range_succ_eq_map,List.map_cons,List.map_map];rw [show a+((0:Nat):Int)=a by simp]
   refine .step _ (a+1) _ (by unfold Sr;rw [if_pos (by omega)]) ?_
   have e:((List.range (n+1)).map ((fun i:Nat=>a+(i:Int)) ∘ Nat.succ))=(List.range (n+1)).map fun i=>a+1+(i:Nat):=by
    apply List.map_congr_left;intro i _;simp only [Function.comp,Nat.succ_eq_add_one];omega
   rw [e];exact this
 unfold yc;simp only;have e:(hi - lo+1).toNat=(hi - lo).toNat+1:=by omega
 rw [e];exact key _ lo (by omega)
def lY (b:Box):Pt:=⟨b.x.lo,b.y.lo⟩
def KM (b:Box) (p:Pt):Option Pt:=if p.x < b.x.hi then some ⟨p.x+1,p.y⟩ else if p.y < b.y.hi then some ⟨b.x.lo,p.y+1⟩ else none
def Na (b:Box):List Pt:=(yc b.y).flatMap fun y=>(yc b.x).map fun x=>⟨x,y⟩
theorem zoE {b:Box} (hw:jq b):ig (KM b) (lY b) (Na b):=by
 have h:=(ig.two (zjh hw.1) (zjh hw.2)).map (g:=KM b) (fun p:Int×Int=>(⟨p.1,p.2⟩:Pt)) (fun p=>by
  unfold Dt KM Sr;simp only
  split
  .rfl
  .split<;>rfl)
 have e:((yc b.y).flatMap fun y=>(yc b.x).map fun x=>((x,y):Int×Int)).map (fun p:Int×Int=>(⟨p.1,p.2⟩:Pt))=Na b:=by
  simp [Na,List.map_flatMap,Function.comp_def]
 rw [e] at h;exact h
theorem zqT {b:Box} {p:Pt}:p∈Na b↔fA p b:=by
 unfold Na;simp only [List.mem_flatMap,List.mem_map,mP]
 constructor
 .rintro ⟨y,hy,x,hx,rfl⟩;exact ⟨hx.1,hx.2,hy.1,hy.2⟩
 .rintro ⟨h1,h2,h3,h4⟩;exact ⟨p.y,⟨h3,h4⟩,p.x,⟨h1,h2⟩,rfl⟩
def Cf:List Box->List Pt->Option (List Pt)
 | b::l,p::ps=>match KM b p with
  | some q=>some (q::ps)
  | none=>(Cf l ps).map (lY b :: ·)
 | _,_=>none
def nW:List Box->List (List Pt)
 | []=>[[]]
 | b::l=>(nW l).flatMap fun ps=>(Na b).map fun p=>p::ps
theorem zlY:∀ {l:List Box},Wf l->ig (Cf l) (l.map lY) (nW l)
 | [],_=>.last _ rfl
 | b::l,hw=>by
  have h:=(ig.two (zoE (hw b (by simp))) (zlY (l:=l) fun x hx=>hw x (by simp [hx]))).map (g:=Cf (b::l)) (fun p:Pt×List Pt=>p.1::p.2) (fun p=>by
   unfold Dt;simp only [Cf]
   cases KM b p.1 with
   | some q=>rfl
   | none=>cases Cf l p.2<;>rfl)
  have e:((nW l).flatMap fun ps=>(Na b).map fun p=>((p,ps):Pt×List Pt)).map (fun p:Pt×List Pt=>p.1::p.2)=nW (b::l):=by
   simp [nW,List.map_flatMap,Function.comp_def]
  rw [e] at h;exact h
theorem su:∀ {l:List Box} {c:List Pt},c∈nW l↔c.length=l.length/\∀ k (h:k < l.length) (h':k < c.length),fA c[k] l[k]
 | [],c=>by
  simp only [nW,List.mem_singleton]
  constructor
  .rintro rfl;exact ⟨rfl,fun k h=>by simp at h⟩
  .rintro ⟨h,_⟩;exact List.length_eq_zero_iff.1 h
 | b::l,c=>by
  simp only [nW,List.mem_flatMap,List.mem_map,zqT]
  constructor
  .rintro ⟨ps,uY,p,hp,rfl⟩;obtain ⟨h1,h2⟩:=su.1 uY
   refine ⟨by simp [h1],fun k h h'=>?_⟩
   cases k with
   | zero=>exact hp
   | succ k=>exact h2 k (by simpa using h) (by simpa using h')
  .rintro ⟨h1,h2⟩
   cases c with
   | nil=>simp at h1
   | cons p ps =>
    refine ⟨ps,su.2 ⟨by simpa using h1,fun k h h'=>h2 (k+1) (by simpa using h) (by simpa using h')⟩,p,h2 0 (by simp) (by simp),rfl⟩
end Go.Proofs.YtmmhnfghklppiaaGreat.Vm
