/- Going through all choices of points step by step: plain Lean. -/
import Derived.Test.YtmmhnfghklppiaaGreatQk19
namespace Go.Proofs.YtmmhnfghklppiaaGreat.Vm
open Go
set_option linter.unusedSimpArgs false
set_option linter.unusedVariables false
inductive Runs {α:Type} (f:α->Option α):α->List α->Prop
 | last (a:α) (h:f a=none):Runs f a [a]
 | step (a b:α) (l:List α) (h:f a=some b) (hl:Runs f b l):Runs f a (a::l)
section
variable {α β:Type} {f:α->Option α} {g:β->Option β}
theorem Runs.ne {a:α} {l:List α} (h:Runs f a l):l≠[]:=by cases h<;>simp
theorem Runs.mem {a:α} {l:List α} (h:Runs f a l):a∈l:=by cases h<;>simp
theorem Runs.map (h:α->β) (hfg:∀ a,g (h a)=(f a).map h) {a:α} {l:List α} (hr:Runs f a l):Runs g (h a) (l.map h):=by
 induction hr with
 | last a h0=>exact .last _ (by rw [hfg,h0];rfl)
 | step a b l h0 _ ih=>exact .step _ _ _ (by rw [hfg,h0];rfl) ih
theorem Runs.then {a b:α} {l m:List α} {f':α->Option α} (h:Runs f' a l) (hf:∀ x∈l,∀ y,f' x=some y->f x=some y) (hl:∀ x∈l,f' x=none->f x=some b) (hm:Runs f b m):Runs f a (l++m):=by
 induction h with
 | last a h0=>exact .step _ _ _ (hl a (by simp) h0) hm
 | step a c l h0 _ ih=>exact .step _ _ _ (hf a (by simp) _ h0) (ih (fun x hx=>hf x (by simp [hx])) (fun x hx=>hl x (by simp [hx])))
theorem Runs.whole {a:α} {l:List α} {f':α->Option α} (h:Runs f' a l) (hf:∀ x∈l,f x=f' x):Runs f a l:=by
 induction h with
 | last a h0=>exact .last _ (by rw [hf a (by simp),h0])
 | step a c l h0 _ ih=>exact .step _ _ _ (by rw [hf a (by simp),h0]) (ih fun x hx=>hf x (by simp [hx]))
def twoF (f:α->Option α) (low:α) (g:β->Option β):α×β->Option (α×β):=fun p=>match f p.1 with
 | some x=>some (x,p.2)
 | none=>(g p.2).map fun y=>(low,y)
theorem Runs.two {low:α} {la:List α} (ha:Runs f low la) {b:β} {lb:List β} (hb:Runs g b lb):Runs (twoF f low g) (low,b) (lb.flatMap fun y=>la.map fun x=>(x,y)):=by
 have row:∀ y:β,Runs (fun p:α×β=>(f p.1).map fun x=>(x,p.2)) (low,y) (la.map fun x=>(x,y)):=fun y=>ha.map (fun x=>(x,y)) fun a=>rfl
 induction hb with
 | last b h0 =>
  simp only [List.flatMap_cons,List.flatMap_nil,List.append_nil]
  refine (row b).whole fun p hp=>?_
  obtain ⟨x,_,rfl⟩:=List.mem_map.1 hp;unfold twoF;simp only
  cases f x with
  | some z=>rfl
  | none=>rw [h0];rfl
 | step b c l h0 _ ih =>
  rw [List.flatMap_cons]
  refine (row b).then (fun p hp q hq=>?_) (fun p hp hq=>?_) ih
  ·obtain ⟨x,_,rfl⟩:=List.mem_map.1 hp;unfold twoF;simp only at hq ⊢
   cases hf:f x with
   | some z=>rw [hf] at hq;simpa using hq
   | none=>rw [hf] at hq;simp at hq
  ·obtain ⟨x,_,rfl⟩:=List.mem_map.1 hp;unfold twoF;simp only at hq ⊢
   cases hf:f x with
   | some z=>rw [hf] at hq;simp at hq
   | none=>simp [h0]
end
def zlv (hi:Int) (x:Int):Option Int:=if x < hi then some (x+1) else none
theorem zjt {s:Span} (h:s.lo<=s.hi):Runs (zlv s.hi) s.lo (zcZ s):=by
 obtain ⟨lo,hi⟩:=s;simp only at h;have key:∀ (n:Nat) (a:Int),a+n=hi->Runs (zlv hi) a ((List.range (n+1)).map fun i=>a+(i:Nat)):=by
  intro n
  induction n with
  | zero=>intro a ha;exact (show ((List.range 1).map fun i=>a+((i:Nat):Int))=[a] by simp) ▸ .last a (by unfold zlv;rw [if_neg (by omega)])
  | succ n ih =>
   intro a ha;have:=ih (a+1) (by omega);rw [List.range_succ_eq_map,List.map_cons,List.map_map];rw [show a+((0:Nat):Int)=a by simp]
   refine .step _ (a+1) _ (by unfold zlv;rw [if_pos (by omega)]) ?_
   have e:((List.range (n+1)).map ((fun i:Nat=>a+(i:Int)) ∘ Nat.succ))=(List.range (n+1)).map fun i=>a+1+(i:Nat):=by
    apply List.map_congr_left;intro i _;simp only [Function.comp,Nat.succ_eq_add_one];omega
   rw [e];exact this
 unfold zcZ;simp only;have e:(hi - lo+1).toNat=(hi - lo).toNat+1:=by omega
 rw [e];exact key _ lo (by omega)
def lowB (b:Box):Pt:=⟨b.x.lo,b.y.lo⟩
def zgR (b:Box) (p:Pt):Option Pt:=if p.x < b.x.hi then some ⟨p.x+1,p.y⟩ else if p.y < b.y.hi then some ⟨b.x.lo,p.y+1⟩ else none
def zhz (b:Box):List Pt:=(zcZ b.y).flatMap fun y=>(zcZ b.x).map fun x=>⟨x,y⟩
theorem zpe {b:Box} (hw:wfB b):Runs (zgR b) (lowB b) (zhz b):=by
 have h:=(Runs.two (zjt hw.1) (zjt hw.2)).map (g:=zgR b) (fun p:Int×Int=>(⟨p.1,p.2⟩:Pt)) (fun p=>by
  unfold twoF zgR zlv;simp only
  split
  ·rfl
  ·split<;>rfl)
 have e:((zcZ b.y).flatMap fun y=>(zcZ b.x).map fun x=>((x,y):Int×Int)).map (fun p:Int×Int=>(⟨p.1,p.2⟩:Pt))=zhz b:=by
  simp [zhz,List.map_flatMap,Function.comp_def]
 rw [e] at h;exact h
theorem zqA {b:Box} {p:Pt}:p∈zhz b↔inB' p b:=by
 unfold zhz;simp only [List.mem_flatMap,List.mem_map,mem_nums]
 constructor
 ·rintro ⟨y,hy,x,hx,rfl⟩;exact ⟨hx.1,hx.2,hy.1,hy.2⟩
 ·rintro ⟨h1,h2,h3,h4⟩;exact ⟨p.y,⟨h3,h4⟩,p.x,⟨h1,h2⟩,rfl⟩
def zdI:List Box->List Pt->Option (List Pt)
 | b::l,p::ps=>match zgR b p with
  | some q=>some (q::ps)
  | none=>(zdI l ps).map (lowB b :: ·)
 | _,_=>none
def allX:List Box->List (List Pt)
 | []=>[[]]
 | b::l=>(allX l).flatMap fun ps=>(zhz b).map fun p=>p::ps
theorem zk9:∀ {l:List Box},Wf l->Runs (zdI l) (l.map lowB) (allX l)
 | [],_=>.last _ rfl
 | b::l,hw=>by
  have h:=(Runs.two (zpe (hw b (by simp))) (zk9 (l:=l) fun x hx=>hw x (by simp [hx]))).map (g:=zdI (b::l)) (fun p:Pt×List Pt=>p.1::p.2) (fun p=>by
   unfold twoF;simp only [zdI]
   cases zgR b p.1 with
   | some q=>rfl
   | none=>cases zdI l p.2<;>rfl)
  have e:((allX l).flatMap fun ps=>(zhz b).map fun p=>((p,ps):Pt×List Pt)).map (fun p:Pt×List Pt=>p.1::p.2)=allX (b::l):=by
   simp [allX,List.map_flatMap,Function.comp_def]
  rw [e] at h;exact h
theorem mem_allX:∀ {l:List Box} {c:List Pt},c∈allX l↔c.length=l.length/\∀ k (h:k < l.length) (h':k < c.length),inB' c[k] l[k]
 | [],c=>by
  simp only [allX,List.mem_singleton]
  constructor
  ·rintro rfl;exact ⟨rfl,fun k h=>by simp at h⟩
  ·rintro ⟨h,_⟩;exact List.length_eq_zero_iff.1 h
 | b::l,c=>by
  simp only [allX,List.mem_flatMap,List.mem_map,zqA]
  constructor
  ·rintro ⟨ps,hps,p,hp,rfl⟩;obtain ⟨h1,h2⟩:=mem_allX.1 hps
   refine ⟨by simp [h1],fun k h h'=>?_⟩
   cases k with
   | zero=>exact hp
   | succ k=>exact h2 k (by simpa using h) (by simpa using h')
  ·rintro ⟨h1,h2⟩
   cases c with
   | nil=>simp at h1
   | cons p ps =>
    refine ⟨ps,mem_allX.2 ⟨by simpa using h1,fun k h h'=>h2 (k+1) (by simpa using h) (by simpa using h')⟩,p,h2 0 (by simp) (by simp),rfl⟩
end Go.Proofs.YtmmhnfghklppiaaGreat.Vm
