/- Going through all choices of points step by step: plain Lean. -/
import Derived.Test.YtmmhnfghklppiaaGreatWk18
namespace Go.Proofs.YtmmhnfghklppiaaGreat.Vm
open Go
set_option linter.unusedSimpArgs false
set_option linter.unusedVariables false
inductive iX {α:Type} (f:α->Option α):α->List α->Prop
 | last (a:α) (h:f a=none):iX f a [a]
 | step (a b:α) (l:List α) (h:f a=some b) (hl:iX f b l):iX f a (a::l)
section
variable {α β:Type} {f:α->Option α} {g:β->Option β}
theorem iX.ne {a:α} {l:List α} (h:iX f a l):l≠[]:=by cases h<;>simp
theorem iX.mem {a:α} {l:List α} (h:iX f a l):a∈l:=by cases h<;>simp
theorem iX.map (h:α->β) (xR:∀ a,g (h a)=(f a).map h) {a:α} {l:List α} (hr:iX f a l):iX g (h a) (l.map h):=by
 induction hr with
 | last a h0=>exact .last _ (by rw [xR,h0];rfl)
 | step a b l h0 _ ih=>exact .step _ _ _ (by rw [xR,h0];rfl) ih
theorem iX.then {a b:α} {l m:List α} {f':α->Option α} (h:iX f' a l) (hf:∀ x∈l,∀ y,f' x=some y->f x=some y) (hl:∀ x∈l,f' x=none->f x=some b) (hm:iX f b m):iX f a (l++m):=by
 induction h with
 | last a h0=>exact .step _ _ _ (hl a (by simp) h0) hm
 | step a c l h0 _ ih=>exact .step _ _ _ (hf a (by simp) _ h0) (ih (fun x hx=>hf x (by simp [hx])) (fun x hx=>hl x (by simp [hx])))
theorem iX.whole {a:α} {l:List α} {f':α->Option α} (h:iX f' a l) (hf:∀ x∈l,f x=f' x):iX f a l:=by
 induction h with
 | last a h0=>exact .last _ (by rw [hf a (by simp),h0])
 | step a c l h0 _ ih=>exact .step _ _ _ (by rw [hf a (by simp),h0]) (ih fun x hx=>hf x (by simp [hx]))
def FV (f:α->Option α) (low:α) (g:β->Option β):α×β->Option (α×β):=fun p=>match f p.1 with
 | some x=>some (x,p.2)
 | none=>(g p.2).map fun y=>(low,y)
theorem iX.two {low:α} {la:List α} (ha:iX f low la) {b:β} {lb:List β} (hb:iX g b lb):iX (FV f low g) (low,b) (lb.flatMap fun y=>la.map fun x=>(x,y)):=by
 have row:∀ y:β,iX (fun p:α×β=>(f p.1).map fun x=>(x,p.2)) (low,y) (la.map fun x=>(x,y)):=fun y=>ha.map (fun x=>(x,y)) fun a=>rfl
 induction hb with
 | last b h0 =>
  simp only [List.flatMap_cons,List.flatMap_nil,List.append_nil]
  refine (row b).whole fun p hp=>?_
  obtain ⟨x,_,rfl⟩:=List.mem_map.1 hp;unfold FV;simp only
  cases f x with
  | some z=>rfl
  | none=>rw [h0];rfl
 | step b c l h0 _ ih =>
  rw [List.flatMap_cons]
  refine (row b).then (fun p hp q hq=>?_) (fun p hp hq=>?_) ih
  .obtain ⟨x,_,rfl⟩:=List.mem_map.1 hp;unfold FV;simp only at hq ⊢
   cases hf:f x with
   | some z=>rw [hf] at hq;simpa using hq
   | none=>rw [hf] at hq;simp at hq
  .obtain ⟨x,_,rfl⟩:=List.mem_map.1 hp;unfold FV;simp only at hq ⊢
   cases hf:f x with
   | some z=>rw [hf] at hq;simp at hq
   | none=>simp [h0]
end
def Vq (hi:Int) (x:Int):Option Int:=if x < hi then some (x+1) else none
theorem zjK {s:Span} (h:s.lo<=s.hi):iX (Vq s.hi) s.lo (BG s):=by
 obtain ⟨lo,hi⟩:=s;simp only at h;have key:∀ (n:Nat) (a:Int),a+n=hi->iX (Vq hi) a ((List.range (n+1)).map fun i=>a+(i:Nat)):=by
  intro n
  induction n with
  | zero=>intro a ha;exact (show ((List.range 1).map fun i=>a+((i:Nat):Int))=[a] by simp) ▸ .last a (by unfold Vq;rw [if_neg (by omega)])
  | succ n ih =>
   intro a ha;have:=ih (a+1) (by omega);rw [List.range_succ_eq_map,List.map_cons,List.map_map];rw [show a+((0:Nat):Int)=a by simp]
   refine .step _ (a+1) _ (by unfold Vq;rw [if_pos (by omega)]) ?_
   have e:((List.range (n+1)).map ((fun i:Nat=>a+(i:Int)) ∘ Nat.succ))=(List.range (n+1)).map fun i=>a+1+(i:Nat):=by
    apply List.map_congr_left;intro i _;simp only [Function.comp,Nat.succ_eq_add_one];omega
   rw [e];exact this
 unfold BG;simp only;have e:(hi - lo+1).toNat=(hi - lo).toNat+1:=by omega
 rw [e];exact key _ lo (by omega)
def nI (b:Box):Pt:=⟨b.x.lo,b.y.lo⟩
def Ny (b:Box) (p:Pt):Option Pt:=if p.x < b.x.hi then some ⟨p.x+1,p.y⟩ else if p.y < b.y.hi then some ⟨b.x.lo,p.y+1⟩ else none
def PO (b:Box):List Pt:=(BG b.y).flatMap fun y=>(BG b.x).map fun x=>⟨x,y⟩
theorem zp1 {b:Box} (hw:jl b):iX (Ny b) (nI b) (PO b):=by
 have h:=(iX.two (zjK hw.1) (zjK hw.2)).map (g:=Ny b) (fun p:Int×Int=>(⟨p.1,p.2⟩:Pt)) (fun p=>by
  unfold FV Ny Vq;simp only
  split
  .rfl
  .split<;>rfl)
 have e:((BG b.y).flatMap fun y=>(BG b.x).map fun x=>((x,y):Int×Int)).map (fun p:Int×Int=>(⟨p.1,p.2⟩:Pt))=PO b:=by
  simp [PO,List.map_flatMap,Function.comp_def]
 rw [e] at h;exact h
theorem zrp {b:Box} {p:Pt}:p∈PO b↔bO p b:=by
 unfold PO;simp only [List.mem_flatMap,List.mem_map,oF]
 constructor
 .rintro ⟨y,hy,x,hx,rfl⟩;exact ⟨hx.1,hx.2,hy.1,hy.2⟩
 .rintro ⟨h1,h2,h3,h4⟩;exact ⟨p.y,⟨h3,h4⟩,p.x,⟨h1,h2⟩,rfl⟩
def EL:List Box->List Pt->Option (List Pt)
 | b::l,p::ps=>match Ny b p with
  | some q=>some (q::ps)
  | none=>(EL l ps).map (nI b :: ·)
 | _,_=>none
def qj:List Box->List (List Pt)
 | []=>[[]]
 | b::l=>(qj l).flatMap fun ps=>(PO b).map fun p=>p::ps
theorem zlQ:∀ {l:List Box},Wf l->iX (EL l) (l.map nI) (qj l)
 | [],_=>.last _ rfl
 | b::l,hw=>by
  have h:=(iX.two (zp1 (hw b (by simp))) (zlQ (l:=l) fun x hx=>hw x (by simp [hx]))).map (g:=EL (b::l)) (fun p:Pt×List Pt=>p.1::p.2) (fun p=>by
   unfold FV;simp only [EL]
   cases Ny b p.1 with
   | some q=>rfl
   | none=>cases EL l p.2<;>rfl)
  have e:((qj l).flatMap fun ps=>(PO b).map fun p=>((p,ps):Pt×List Pt)).map (fun p:Pt×List Pt=>p.1::p.2)=qj (b::l):=by
   simp [qj,List.map_flatMap,Function.comp_def]
  rw [e] at h;exact h
theorem vk:∀ {l:List Box} {c:List Pt},c∈qj l↔c.length=l.length/\∀ k (h:k < l.length) (h':k < c.length),bO c[k] l[k]
 | [],c=>by
  simp only [qj,List.mem_singleton]
  constructor
  .rintro rfl;exact ⟨rfl,fun k h=>by simp at h⟩
  .rintro ⟨h,_⟩;exact List.length_eq_zero_iff.1 h
 | b::l,c=>by
  simp only [qj,List.mem_flatMap,List.mem_map,zrp]
  constructor
  .rintro ⟨ps,vD,p,hp,rfl⟩;obtain ⟨h1,h2⟩:=vk.1 vD
   refine ⟨by simp [h1],fun k h h'=>?_⟩
   cases k with
   | zero=>exact hp
   | succ k=>exact h2 k (by simpa using h) (by simpa using h')
  .rintro ⟨h1,h2⟩
   cases c with
   | nil=>simp at h1
   | cons p ps =>
    refine ⟨ps,vk.2 ⟨by simpa using h1,fun k h h'=>h2 (k+1) (by simpa using h) (by simpa using h')⟩,p,h2 0 (by simp) (by simp),rfl⟩
end Go.Proofs.YtmmhnfghklppiaaGreat.Vm
