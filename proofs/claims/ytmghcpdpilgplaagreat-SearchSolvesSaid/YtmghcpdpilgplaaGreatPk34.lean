/- Allows of the specification: the same answer as the program's. -/
import Derived.Test.YtmghcpdpilgplaaGreatPk26
import Derived.Test.YtmghcpdpilgplaaGreatPk17
namespace Go.Proofs.YtmghcpdpilgplaaGreat.Vm
open Go
set_option linter.unusedSimpArgs false
set_option linter.unusedVariables false
set_option maxHeartbeats 4000000
theorem sh53 : G.shared 53 = false := by decide
theorem e53 (n : Nat) (p : Pt) (b : Box) : callP G (n + 1) 53 [.agg p.cells,.agg b.cells] = some (.bool (inPB p b)) := by
 refine callP_of (ext_none _) rfl g53 rfl ?_
 (repeat' first | simp [*,initEnv,c53,Pt.cells,Box.cells,Span.cells,inPB,inB] | (apply wpIf_two <;> intro _ h <;> try simp [-Nat.le_zero_eq] at h))
theorem sh12 : G.shared 12 = false := by decide
theorem e12 (n : Nat) (p : Problem) (l : Sl Pt) (hl : l.xs.length < 1000) : callP G (n + 9) 12 [.agg p.cells,l.pv Pt.cells 2] = some (.tup [.int .i64 (allowsS p l.xs).1,.bool (allowsS p l.xs).2]) := by
 refine callP_of (ext_none _) rfl g12 rfl ?_
 obtain ⟨bs,fs⟩ := p
 have hC := fun H => call_pureC (G := G) (n := n + 8) (H := H) (caps := []) (ps := [.agg (Problem.mk bs fs).cells]) sh28 (e28 (n + 5) ⟨bs,fs⟩)
 have hA := fun H => call_pureC (G := G) (n := n + 8) (H := H) (caps := []) (ps := [l.pv Pt.cells 2]) sh54 (e54 (n + 7) l hl)
 simp only [Problem.cells,List.map_cons,List.map_nil] at hC hA
 by_cases hc : checkS ⟨bs,fs⟩ = 0
 case neg =>
  have hr : allowsS ⟨bs,fs⟩ l.xs = (-1,false) := by unfold allowsS; rw [if_neg (fun h => hc h.1)]
  generalize checkS ⟨bs,fs⟩ = c at *
  rw [hr]
  clear hr
  (repeat' first | simp [*,initEnv,c12,Problem.cells] | (apply wpIf_two <;> intro _ h <;> try simp [-Nat.le_zero_eq] at h))
 have ok := check_ok.1 hc
 rw [hc] at hC
 have nb : bs.xs.length ≤ 12 := ok.nb
 have nf : fs.xs.length ≤ 60 := ok.nf
 by_cases hlen : l.xs.length = bs.xs.length
 case neg =>
  have hr : allowsS ⟨bs,fs⟩ l.xs = (-1,false) := by unfold allowsS; rw [if_neg (fun h => hlen h.2.1)]
  rw [hr]
  have hlen' : ¬ (l.xs.length : Int) = bs.xs.length := by omega
  clear hr hc ok
  (repeat' first | simp [*,initEnv,c12,Problem.cells] | (apply wpIf_two <;> intro _ h <;> try simp [-Nat.le_zero_eq] at h))
 have hr : Hide (insB l.xs bs.xs → allowsS ⟨bs,fs⟩ l.xs = firstF (l.xs.map atB) fs.xs 0) := ⟨fun hi => by unfold allowsS; rw [if_pos ⟨hc,hlen,hi⟩]⟩
 have hr2 : Hide (¬ insB l.xs bs.xs → allowsS ⟨bs,fs⟩ l.xs = (-1,false)) := ⟨fun hi => by unfold allowsS; rw [if_neg (fun h => hi h.2.2)]⟩
 have hok := Hide.mk ok
 generalize allowsS ⟨bs,fs⟩ l.xs = r at *
 have hlI : (l.xs.length : Int) = bs.xs.length := by omega
 have hlN := Hide.mk hlen
 clear hc ok hlen
 (repeat' first | simp [*,initEnv,c12,Problem.cells] | (apply wpIf_two <;> intro _ h <;> try simp [-Nat.le_zero_eq] at h))
 refine wp_loopF [(4,7),(22,39)] (fun (i : Nat) env H => env 6 = .pure (.int .i64 i) ∧ i ≤ bs.xs.length ∧ Hide (∀ j (h : j < bs.xs.length) (h' : j < l.xs.length),j < i → inPB l.xs[j] bs.xs[j] = true)) (fun i => bs.xs.length - i) 0 ?_ ?_ ?_ ?_
 ·decide
 ·exact ⟨by simp,by omega,⟨fun _ _ _ h => by omega⟩⟩
 ·simp only [loopFuel]; omega
 rintro i env H ⟨g0,hi,hn⟩
 by_cases hlt : i < bs.xs.length
 ·have hlt2 : i < l.xs.length := by have := hlN.h; omega
  have w1 : IntKind.i64.wrap ((i : Int) + 1) = (i + 1 : Nat) := by rw [wrap64 (by omega) (by omega)]; omega
  have hp := Hide.mk (hn.h)
  have hW := fun H => call_pureC (G := G) (n := n + 8) (H := H) (caps := []) (ps := [.agg (l.xs[i]).cells,.agg (bs.xs[i]).cells]) sh53 (e53 (n + 7) l.xs[i] bs.xs[i])
  simp only [Pt.cells,Box.cells,Span.cells,List.map_cons,List.map_nil] at hW
  cases hin : inPB l.xs[i] bs.xs[i] with
  | true =>
   have hn' : Hide (∀ j (h : j < bs.xs.length) (h' : j < l.xs.length),j < i + 1 → inPB l.xs[j] bs.xs[j] = true) := ⟨fun j h h' hj => by
    by_cases e : j = i
    ·subst e; exact hin
    ·exact hn.h j h h' (by omega)⟩
   rw [hin] at hW
   clear hn hp hin
   (repeat' first | simp [*,initEnv,Pt.cells,Box.cells,Span.cells] | (apply wpIf_two <;> intro _ h <;> try simp [-Nat.le_zero_eq] at h))
   exact ⟨i + 1,by omega,rfl,by omega,hn'⟩
  | false =>
   have hrr : r = (-1,false) := hr2.h fun h => by rw [h i hlt hlt2] at hin; simp at hin
   subst hrr
   rw [hin] at hW
   clear hn hp hr hr2 hin
   (repeat' first | simp [*,initEnv,Pt.cells,Box.cells,Span.cells] | (apply wpIf_two <;> intro _ h <;> try simp [-Nat.le_zero_eq] at h))
 ·have hil : i = bs.xs.length := by omega
  subst hil
  have hins : insB l.xs bs.xs := fun j h h' => hn.h j h h' h
  have hrr := Hide.mk (hr.h hins)
  have hfv := Hide.mk fun (f : Fact) (hf : f ∈ fs.xs) H => call_pureC (G := G) (n := n + 8) (H := H) (caps := []) (ps := [.agg f.cells,(Sl.of (l.xs.map atB)).pv Box.cells 4]) sh55 (e55 (n + 1) f (Sl.of (l.xs.map atB)) (by
   rw [Sl.xs_of]
   exact fine_ok (hok.h.fine (by simpa using hlN.h) (at_valid hok.h hlN.h hins) hf)) (fine_q (hok.h.fine (l := l.xs.map atB) (by simpa using hlN.h) (at_valid hok.h hlN.h hins) hf)))
  clear hr hr2 hn hins hok
  simp only [Sl.xs_of] at hfv
  generalize Sl.of (l.xs.map atB) = s at *
  (repeat' first | simp [*,initEnv] | (apply wpIf_two <;> intro _ h <;> try simp [-Nat.le_zero_eq] at h))
  refine wp_loopF [(4,5),(9,10),(42,57)] (fun (i : Nat) env H => env 9 = .pure (.int .i64 i) ∧ i ≤ fs.xs.length ∧ Hide (∀ j (h : j < fs.xs.length),j < i → failsS fs.xs[j] (l.xs.map atB) = false)) (fun i => fs.xs.length - i) 0 ?_ ?_ ?_ ?_
  ·decide
  ·exact ⟨by simp,by omega,⟨fun _ _ h => by omega⟩⟩
  ·simp only [loopFuel]; omega
  rintro i env H ⟨g0,hi,hn⟩
  by_cases hlt : i < fs.xs.length
  ·have w1 : IntKind.i64.wrap ((i : Int) + 1) = (i + 1 : Nat) := by rw [wrap64 (by omega) (by omega)]; omega
   have hv := hfv.h fs.xs[i] (List.getElem_mem hlt)
   simp only [Fact.cells,List.map_cons,List.map_nil] at hv
   cases hf : failsS fs.xs[i] (l.xs.map atB) with
   | true =>
    have hrr := hrr.h.trans (firstF_at fs.xs 0 i hlt hn.h hf)
    subst hrr
    rw [hf] at hv
    clear hf hn hfv
    (repeat' first | simp [*,initEnv,Fact.cells] | (apply wpIf_two <;> intro _ h <;> try simp [-Nat.le_zero_eq] at h))
   | false =>
    have hn' : Hide (∀ j (h : j < fs.xs.length),j < i + 1 → failsS fs.xs[j] (l.xs.map atB) = false) := ⟨fun j h hj => by
     by_cases e : j = i
     ·subst e; exact hf
     ·exact hn.h j h (by omega)⟩
    rw [hf] at hv
    clear hf hn hfv hrr
    (repeat' first | simp [*,initEnv,Fact.cells] | (apply wpIf_two <;> intro _ h <;> try simp [-Nat.le_zero_eq] at h))
    exact ⟨i + 1,by omega,rfl,by omega,hn'⟩
  ·have hil : i = fs.xs.length := by omega
   subst hil
   have hrr := hrr.h.trans (firstF_none fs.xs 0 fun j h => hn.h j h h)
   subst hrr
   clear hn hfv
   (repeat' first | simp [*,initEnv] | (apply wpIf_two <;> intro _ h <;> try simp [-Nat.le_zero_eq] at h))
end Go.Proofs.YtmghcpdpilgplaaGreat.Vm
