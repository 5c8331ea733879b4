/- What Core, Only and Without leave. Plain Lean. picked, Without and Only: the program's, walked. has, Only, Without: the specification's, walked. IDs: the specification's, walked. -/
import Derived.Test.YtmghcpdpilgplaaGreatQk23
import Derived.Test.YtmghcpdpilgplaaGreatQk16
import Derived.Test.YtmghcpdpilgplaaGreatQk17
namespace Go.Proofs.YtmghcpdpilgplaaGreat.Vm
open Go
set_option linter.unusedSimpArgs false
set_option linter.unusedVariables false
set_option maxHeartbeats 4000000
theorem strict_ext:∀ {l m:List Int},l.Pairwise (· < ·)→m.Pairwise (· < ·)→(∀ x,x∈l↔x∈m)→l=m
 | [],[],_,_,_=>rfl
 | [],b::m,_,_,h=>by have:=(h b).2 List.mem_cons_self;simp at this
 | a::l,[],_,_,h=>by have:=(h a).1 List.mem_cons_self;simp at this
 | a::l,b::m,hl,hm,h=>by
  rw [List.pairwise_cons] at hl hm;have e:a=b:=by
   rcases List.mem_cons.1 ((h a).1 List.mem_cons_self) with e|h1
   ·exact e
   ·rcases List.mem_cons.1 ((h b).2 List.mem_cons_self) with e|h2
    ·exact e.symm
    ·have:=hl.1 b h2;have:=hm.1 a h1;omega
  subst e
  congr 1
  refine strict_ext hl.2 hm.2 fun x=>⟨fun hx=>?_,fun hx=>?_⟩
  ·rcases List.mem_cons.1 ((h x).1 (List.mem_cons_of_mem _ hx)) with e|h1
   ·have:=hl.1 x hx;omega
   ·exact h1
  ·rcases List.mem_cons.1 ((h x).2 (List.mem_cons_of_mem _ hx)) with e|h1
   ·have:=hm.1 x hx;omega
   ·exact h1
def IsIds (L:List Int) (fs:List Fact):Prop:=L.Pairwise (· < ·)∧∀ x,x∈L↔x≠0∧∃ f∈fs,f.id=x
theorem IsIds.unique {L M:List Int} {fs:List Fact} (h:IsIds L fs) (h':IsIds M fs):L=M :=
 strict_ext h.1 h'.1 fun x=>(h.2 x).trans (h'.2 x).symm
theorem IsIds.nil:IsIds [] []:=⟨List.Pairwise.nil,by simp⟩
theorem IsIds.skip {L:List Int} {fs:List Fact} {f:Fact} (h:IsIds L fs) (hs:f.id∈L∨f.id=0):IsIds L (fs++[f]):=by
 refine ⟨h.1,fun x=>?_⟩
 rw [h.2 x]
 constructor
 ·rintro ⟨hx,g,hg,e⟩;exact ⟨hx,g,List.mem_append_left _ hg,e⟩
 ·rintro ⟨hx,g,hg,e⟩;rcases List.mem_append.1 hg with hg|hg
  ·exact ⟨hx,g,hg,e⟩
  ·simp only [List.mem_singleton] at hg;subst hg;rcases hs with hs|hs
   ·exact e ▸ (h.2 _).1 hs
   ·omega
theorem IsIds.put {L:List Int} {fs:List Fact} {f:Fact} {k:Nat} (h:IsIds L fs) (h0:f.id≠0) (hn:f.id ∉ L) (hk:k≤L.length) (hlo:∀ j (h:j < L.length),j < k→L[j] < f.id) (hhi:∀ h:k < L.length,¬ L[k] < f.id):IsIds (L.take k++[f.id]++L.drop k) (fs++[f]):=by
 have hlo':∀ x∈L.take k,x < f.id:=fun x hx=>by
  obtain ⟨j,hj,rfl⟩:=List.getElem_of_mem hx;rw [List.length_take] at hj;rw [List.getElem_take];exact hlo j (by omega) (by omega)
 have hhi':∀ x∈L.drop k,f.id < x:=fun x hx=>by
  have hxL:x∈L:=List.mem_of_mem_drop hx;have hne:x≠f.id:=fun e=>hn (e ▸ hxL);obtain ⟨j,hj,rfl⟩:=List.getElem_of_mem hx;rw [List.length_drop] at hj;rw [List.getElem_drop] at hne ⊢;have hkl:k < L.length:=by omega
  have:=hhi hkl
  by_cases e:j=0
  ·subst e;simp only [Nat.add_zero] at hne ⊢;omega
  ·have:=List.pairwise_iff_getElem.1 h.1 k (k+j) hkl (by omega) (by omega);omega
 have hL:L.take k++L.drop k=L:=List.take_append_drop k L
 refine ⟨?_,fun x=>?_⟩
 ·have hp:=h.1;rw [← hL,List.pairwise_append] at hp;rw [List.append_assoc,List.pairwise_append]
  refine ⟨hp.1,?_,fun a ha b hb=>?_⟩
  ·rw [List.singleton_append,List.pairwise_cons];exact ⟨hhi',hp.2.1⟩
  ·rcases List.mem_cons.1 hb with rfl|hb
   ·exact hlo' a ha
   ·exact hp.2.2 a ha b hb
 ·have hmm:x∈L.take k++[f.id]++L.drop k↔x∈L∨x=f.id:=by
   conv=>rhs;rw [← hL]
   simp only [List.mem_append,List.mem_singleton]
   constructor
   ·rintro ((h|h)|h)
    ·exact .inl (.inl h)
    ·exact .inr h
    ·exact .inl (.inr h)
   ·rintro ((h|h)|h)
    ·exact .inl (.inl h)
    ·exact .inr h
    ·exact .inl (.inr h)
  rw [hmm,h.2 x]
  constructor
  ·rintro (⟨hx,g,hg,e⟩|rfl)
   ·exact ⟨hx,g,List.mem_append_left _ hg,e⟩
   ·exact ⟨h0,f,by simp,rfl⟩
  ·rintro ⟨hx,g,hg,e⟩;rcases List.mem_append.1 hg with hg|hg
   ·exact .inl ⟨hx,g,hg,e⟩
   ·simp only [List.mem_singleton] at hg;subst hg;exact .inr e.symm
def Sl.cold {α:Type}:Sl α→Sl α
 | .nil=>.nil
 | .mk _ l=>.mk false l
theorem FindOut.congr {p q:Problem} {D:FoundD} {e:Int} (hb:q.boxes.xs=p.boxes.xs) (hf:q.facts.xs=p.facts.xs) (h:FindOut p D e):FindOut q D e:=by
 unfold FindOut at *;rw [hb,hf];exact h
set_option maxRecDepth 4000
theorem row_take {id k:Nat} {H:Heap} {L:List Int} (hg:H.get id=.cells true (rowOf intF L)) (hk:k≤L.length):sliceCells H 1 (.row id 1 0 k)=some (rowOf intF (L.take k),(L.take k).length):=by
 have hl:=rowOf_length (f:=intF) (sz:=1) (fun _=>rfl) L;have ht:=rowOf_take (f:=intF) (sz:=1) (fun _=>rfl) L k;rw [sliceCells_row,hg];simp only [rowCells];rw [if_pos (by omega),Nat.zero_mul,List.drop_zero,ht,List.length_take,Nat.min_eq_left hk]
theorem row_drop {id k m:Nat} {H:Heap} {L:List Int} (hg:H.get id=.cells true (rowOf intF L)) (hk:k≤L.length) (hm:m=L.length - k):sliceCells H 1 (.row id 1 k m)=some (rowOf intF (L.drop k),(L.drop k).length):=by
 have hl:=rowOf_length (f:=intF) (sz:=1) (fun _=>rfl) L;have ht:=rowOf_drop (f:=intF) (sz:=1) (fun _=>rfl) L k;have hl2:=rowOf_length (f:=intF) (sz:=1) (fun _=>rfl) (L.drop k);rw [sliceCells_row,hg];simp only [rowCells];rw [if_pos (by omega),ht,List.length_drop,← hm,List.take_of_length_le (by rw [hl2,List.length_drop];omega)]
end Go.Proofs.YtmghcpdpilgplaaGreat.Vm
