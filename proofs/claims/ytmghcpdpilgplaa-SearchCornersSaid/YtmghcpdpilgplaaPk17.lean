/- What the specification's functions that check facts and problems compute. Check of the program and of the specification: the same error of a problem. Problems that Check accepts; Allows of the program. -/
import Derived.Test.YtmghcpdpilgplaaPk14
import Derived.Test.YtmghcpdpilgplaaPk16
import Derived.Test.YtmghcpdpilgplaaPk15
namespace Go.Proofs.Ytmghcpdpilgplaa.Vm
open Go
set_option linter.unusedSimpArgs false
set_option linter.unusedVariables false
set_option maxHeartbeats 4000000

theorem formedB_iff (f : Fact) (n : Int) : formedB f n = true ↔ (0 ≤ f.id ∧ f.id ≤ 1099511627776) ∧ (0 ≤ f.a ∧ f.a < n) ∧ (0 ≤ f.b ∧ f.b < n) ∧ f.a ≠ f.b ∧ (-17592186044416 ≤ f.span.lo ∧ f.span.lo ≤ f.span.hi ∧ f.span.hi ≤ 17592186044416) ∧
    (f.kind = 2 → 0 ≤ f.c ∧ f.c < n ∧ f.c ≠ f.a ∧ f.c ≠ f.b ∧ f.quarter = 0) ∧ (f.kind ≠ 2 → f.c = 0 ∧ 1 ≤ f.kind ∧ f.kind ≤ 6 ∧ (f.kind ≠ 3 → f.quarter = 0) ∧ (f.kind = 4 → f.span.lo = 0) ∧ (f.kind = 3 → 0 ≤ f.quarter ∧ f.quarter ≤ 3 ∧ f.span.lo = 0 ∧ f.span.hi = 0)) := by
  unfold formedB inB spanB
  by_cases k2 : f.kind = 2
  · simp only [k2, if_true, Bool.and_eq_true, Bool.not_eq_true', decide_eq_true_eq, decide_eq_false_iff_not, ne_eq, true_implies, not_true, false_implies, and_true]
    omega
  · rw [if_neg k2]
    by_cases k : f.kind = 1 ∨ f.kind = 5 ∨ f.kind = 6
    · rw [if_pos k]
      simp only [Bool.and_eq_true, Bool.not_eq_true', decide_eq_true_eq, decide_eq_false_iff_not, ne_eq]
      omega
    · rw [if_neg k]
      by_cases k4 : f.kind = 4
      · rw [if_pos k4]
        simp only [Bool.and_eq_true, Bool.not_eq_true', decide_eq_true_eq, decide_eq_false_iff_not, ne_eq]
        omega
      · rw [if_neg k4]
        by_cases k3 : f.kind = 3
        · rw [if_pos k3]
          simp only [Bool.and_eq_true, Bool.not_eq_true', decide_eq_true_eq, decide_eq_false_iff_not, ne_eq]
          omega
        · rw [if_neg k3]
          simp only [Bool.and_false, Bool.false_eq_true, false_iff, ne_eq]
          omega
theorem formed_of {f : Fact} {n : Int} {b : Bool} (h : b = true ↔ formedB f n = true) : b = formedB f n := by
  cases b <;> cases hf : formedB f n <;> simp_all
theorem sh39 : G.shared 39 = false := by decide
theorem e39 (n : Nat) (f : Fact) (m : Nat) (hm : m < 1000) : callP G (n + 2) 39 [.agg f.cells, .int .i64 m] = some (.bool (formedB f m)) := by
  refine callP_of (ext_none _) rfl g39 rfl ?_
  have key := formedB_iff f m
  have hk := Hide.mk key
  clear key
  (repeat' first | simp [*, initEnv, c39, Fact.cells, st_aggEq, cellsEq, isAggV, Span.cells, spanB] | (refine wpIf_two (fun _ h => ?_) (fun _ h => ?_) <;> try simp [-Nat.le_zero_eq] at h))
  all_goals try ((first | refine Eq.symm (formed_of ?_) | refine formed_of ?_ | skip); (try rw [← Bool.not_eq_true]); rw [hk.h]; first | omega | (simp only [Bool.and_eq_true, Bool.or_eq_true, decide_eq_true_eq, Bool.false_eq_true, false_iff, true_iff, Bool.not_eq_true', decide_eq_false_iff_not]; omega))
  all_goals (by_cases e1 : f.span.lo = 0 <;> by_cases e2 : f.span.hi = 0)
  all_goals (repeat' first | simp [*, initEnv] | (refine wpIf_two (fun _ h => ?_) (fun _ h => ?_) <;> try simp [-Nat.le_zero_eq] at h))
  all_goals try ((first | refine Eq.symm (formed_of ?_) | refine formed_of ?_ | skip); (try rw [← Bool.not_eq_true]); rw [hk.h]; first | omega | (simp only [Bool.and_eq_true, Bool.or_eq_true, decide_eq_true_eq, Bool.false_eq_true, false_iff, true_iff, Bool.not_eq_true', decide_eq_false_iff_not]; omega))

@[simp] theorem d39 (n : Nat) (H : Heap) (f_id : Int) (f_kind : Int) (f_nt : Bool) (f_a : Int) (f_b : Int) (f_c : Int) (f_span_lo : Int) (f_span_hi : Int) (f_quarter : Int) (m : Nat) (hm : m < 1000) : doCall (calleeOf G (n + 2)) H (.pure (.func 39 [])) [.pure (.agg [.int .i64 f_id, .int .i64 f_kind, .bool f_nt, .int .i64 f_a, .int .i64 f_b, .int .i64 f_c, .int .i64 f_span_lo, .int .i64 f_span_hi, .int .i64 f_quarter]), .pure (.int .i64 m)] = some (.val (.pure ((fun (f : Fact) => .bool (formedB f m)) (⟨f_id, f_kind, f_nt, f_a, f_b, f_c, ⟨f_span_lo, f_span_hi⟩, f_quarter⟩ : Fact)))) :=
  call_pureC (ps := [_, _]) (caps := []) sh39 (e39 n (⟨f_id, f_kind, f_nt, f_a, f_b, f_c, ⟨f_span_lo, f_span_hi⟩, f_quarter⟩ : Fact) m hm)
end Go.Proofs.Ytmghcpdpilgplaa.Vm

namespace Go.Proofs.Ytmghcpdpilgplaa.Vm
open Go
set_option linter.unusedSimpArgs false
set_option linter.unusedVariables false
set_option maxHeartbeats 4000000

def checkS (p : Problem) : Int :=
  if 12 < p.boxes.xs.length ∨ 60 < p.facts.xs.length then 2
  else if p.boxes.xs.all boxB && p.facts.xs.all (formedB · p.boxes.xs.length) then 0 else 1
theorem valid_lim {b : Box} (h : validB b = true) : (-1048576 ≤ b.x.lo ∧ b.x.lo ≤ b.x.hi ∧ b.x.hi ≤ 1048576) ∧ (-1048576 ≤ b.y.lo ∧ b.y.lo ≤ b.y.hi ∧ b.y.hi ≤ 1048576) := by
  simp only [validB, spanB, Bool.and_eq_true, decide_eq_true_eq] at h
  omega
def allTo {α : Type} (p : α → Bool) (l : List α) (i : Nat) : Prop := ∀ j (h : j < l.length), j < i → p l[j] = true
theorem allTo_all {α : Type} {p : α → Bool} {l : List α} (h : allTo p l l.length) : l.all p = true := by
  rw [List.all_eq_true]
  intro b hb
  obtain ⟨j, hj, rfl⟩ := List.mem_iff_getElem.1 hb
  exact h j hj hj
theorem allTo_succ {α : Type} {p : α → Bool} {l : List α} {i : Nat} (h : allTo p l i) (hi : i < l.length) (hp : p l[i] = true) : allTo p l (i + 1) := fun j h' hj => by
  by_cases e : j = i
  · subst e; exact hp
  · exact h j h' (by omega)
theorem all_false {α : Type} {p : α → Bool} {l : List α} {i : Nat} (hi : i < l.length) (hp : p l[i] = false) : l.all p = false := by
  rw [List.all_eq_false]
  exact ⟨_, List.getElem_mem hi, by simp [hp]⟩
theorem sh11 : G.shared 11 = false := by decide
theorem e11 (n : Nat) (p : Problem) : callP G (n + 3) 11 [.agg p.cells] = some (.int .i64 (checkS p)) := by
  refine callP_of (ext_none _) rfl g11 rfl ?_
  obtain ⟨bs, fs⟩ := p
  by_cases hb : 12 < bs.xs.length
  · have hc : checkS ⟨bs, fs⟩ = 2 := by unfold checkS; rw [if_pos (.inl hb)]
    have hb' : (12 : Int) < bs.xs.length := by omega
    (repeat' first | simp [*, initEnv, c11, Problem.cells] | (refine wpIf_two (fun _ h => ?_) (fun _ h => ?_) <;> try simp [-Nat.le_zero_eq] at h))
  by_cases hf : 60 < fs.xs.length
  · have hc : checkS ⟨bs, fs⟩ = 2 := by unfold checkS; rw [if_pos (.inr hf)]
    have hb' : ¬ (12 : Int) < bs.xs.length := by omega
    have hf' : (60 : Int) < fs.xs.length := by omega
    (repeat' first | simp [*, initEnv, c11, Problem.cells] | (refine wpIf_two (fun _ h => ?_) (fun _ h => ?_) <;> try simp [-Nat.le_zero_eq] at h))
  have hc : Hide (checkS ⟨bs, fs⟩ = if bs.xs.all boxB && fs.xs.all (formedB · bs.xs.length) then 0 else 1) := ⟨by unfold checkS; rw [if_neg (by rintro (h | h); exact hb h; exact hf h)]⟩
  have hb' : ¬ (12 : Int) < bs.xs.length := by omega
  have hf' : ¬ (60 : Int) < fs.xs.length := by omega
  generalize checkS ⟨bs, fs⟩ = r at *
  (repeat' first | simp [*, initEnv, c11, Problem.cells] | (refine wpIf_two (fun _ h => ?_) (fun _ h => ?_) <;> try simp [-Nat.le_zero_eq] at h))
  refine wp_loopF [(2, 2), (4, 4), (20, 39)] (fun (i : Nat) env H => env 20 = .pure (.int .i64 i) ∧ i ≤ bs.xs.length ∧ Hide (allTo boxB bs.xs i)) (fun i => bs.xs.length - i) 0 ?_ ?_ ?_ ?_
  · decide
  · exact ⟨by simp, by omega, ⟨fun _ _ h => by omega⟩⟩
  · simp only [loopFuel]; omega
  · rintro i env H ⟨g0, hi, hn⟩
    by_cases hlt : i < bs.xs.length
    · have w1 : IntKind.i64.wrap ((i : Int) + 1) = (i + 1 : Nat) := by rw [wrap64 (by omega) (by omega)]; omega
      have hvi := fun H => call_pureC (G := G) (n := n + 2) (H := H) (caps := []) (ps := [.agg (bs.xs[i]).cells]) sh35 (e35 n bs.xs[i])
      simp only [Box.cells, Span.cells, List.map_cons, List.map_nil] at hvi
      cases hv : validB bs.xs[i] with
      | false =>
        have hB : boxB bs.xs[i] = false := by unfold boxB; rw [hv]; rfl
        have hr : r = 1 := by rw [hc.h, all_false hlt hB]; rfl
        rw [hv] at hvi
        clear hv hB hc hn
        (repeat' first | simp [*, initEnv, Box.cells, Span.cells] | (refine wpIf_two (fun _ h => ?_) (fun _ h => ?_) <;> try simp [-Nat.le_zero_eq] at h))
      | true =>
        have hlim := valid_lim hv
        have h1 := fun H => call_pureC (G := G) (n := n + 2) (H := H) (caps := []) (ps := [.agg (bs.xs[i]).x.cells]) sh36 (e36 (n + 1) (bs.xs[i]).x (by omega) (by omega))
        have h2 := fun H => call_pureC (G := G) (n := n + 2) (H := H) (caps := []) (ps := [.agg (bs.xs[i]).y.cells]) sh36 (e36 (n + 1) (bs.xs[i]).y (by omega) (by omega))
        simp only [Span.cells, List.map_cons, List.map_nil] at h1 h2
        by_cases hB : boxB bs.xs[i] = true
        · have hn' : Hide (allTo boxB bs.xs (i + 1)) := ⟨allTo_succ hn.h hlt hB⟩
          unfold boxB at hB
          simp only [Bool.and_eq_true, decide_eq_true_eq] at hB
          have e1 : ¬ (1024 < (bs.xs[i]).x.hi - (bs.xs[i]).x.lo + 1) := by omega
          have e2 : ¬ (1024 < (bs.xs[i]).y.hi - (bs.xs[i]).y.lo + 1) := by omega
          rw [hv] at hvi
          clear hv hB hc hn hlim
          (repeat' first | simp [*, initEnv, Box.cells, Span.cells] | (refine wpIf_two (fun _ h => ?_) (fun _ h => ?_) <;> try simp [-Nat.le_zero_eq] at h))
          exact ⟨i + 1, by omega, rfl, by omega, hn'⟩
        · have hB : boxB bs.xs[i] = false := by simpa using hB
          have hr : r = 1 := by rw [hc.h, all_false hlt hB]; rfl
          unfold boxB at hB
          rw [hv, Bool.true_and, Bool.and_eq_false_iff, decide_eq_false_iff_not, decide_eq_false_iff_not] at hB
          have e1 : 1024 < (bs.xs[i]).x.hi - (bs.xs[i]).x.lo + 1 ∨ (¬ 1024 < (bs.xs[i]).x.hi - (bs.xs[i]).x.lo + 1 ∧ 1024 < (bs.xs[i]).y.hi - (bs.xs[i]).y.lo + 1) := by omega
          rw [hv] at hvi
          clear hv hB hc hn hlim
          rcases e1 with e1 | ⟨e1, e2⟩
          · (repeat' first | simp [*, initEnv, Box.cells, Span.cells] | (refine wpIf_two (fun _ h => ?_) (fun _ h => ?_) <;> try simp [-Nat.le_zero_eq] at h))
          · (repeat' first | simp [*, initEnv, Box.cells, Span.cells] | (refine wpIf_two (fun _ h => ?_) (fun _ h => ?_) <;> try simp [-Nat.le_zero_eq] at h))
    · have hil : i = bs.xs.length := by omega
      subst hil
      have hall := allTo_all hn.h
      have hc : Hide (r = if fs.xs.all (formedB · bs.xs.length) then 0 else 1) := ⟨by rw [hc.h, hall, Bool.true_and]⟩
      clear hall hn
      (repeat' first | simp [*, initEnv] | (refine wpIf_two (fun _ h => ?_) (fun _ h => ?_) <;> try simp [-Nat.le_zero_eq] at h))
      refine wp_loopF [(2, 2), (6, 6), (43, 53)] (fun (i : Nat) env H => env 43 = .pure (.int .i64 i) ∧ i ≤ fs.xs.length ∧ Hide (allTo (formedB · bs.xs.length) fs.xs i)) (fun i => fs.xs.length - i) 0 ?_ ?_ ?_ ?_
      · decide
      · exact ⟨by simp, by omega, ⟨fun _ _ h => by omega⟩⟩
      · simp only [loopFuel]; omega
      rintro i env H ⟨g0, hi, hn⟩
      by_cases hlt : i < fs.xs.length
      · have w1 : IntKind.i64.wrap ((i : Int) + 1) = (i + 1 : Nat) := by rw [wrap64 (by omega) (by omega)]; omega
        have hvi := fun H => call_pureC (G := G) (n := n + 2) (H := H) (caps := []) (ps := [.agg (fs.xs[i]).cells, .int .i64 (bs.xs.length : Nat)]) sh37 (e37 n fs.xs[i] bs.xs.length (by omega))
        simp only [Fact.cells, List.map_cons, List.map_nil] at hvi
        cases hv : formedB fs.xs[i] bs.xs.length with
        | false =>
          have hr : r = 1 := by rw [hc.h, all_false hlt hv]; rfl
          rw [hv] at hvi
          clear hv hc hn
          (repeat' first | simp [*, initEnv, Fact.cells] | (refine wpIf_two (fun _ h => ?_) (fun _ h => ?_) <;> try simp [-Nat.le_zero_eq] at h))
        | true =>
          have hn' : Hide (allTo (formedB · bs.xs.length) fs.xs (i + 1)) := ⟨allTo_succ hn.h hlt hv⟩
          rw [hv] at hvi
          clear hv hc hn
          (repeat' first | simp [*, initEnv, Fact.cells] | (refine wpIf_two (fun _ h => ?_) (fun _ h => ?_) <;> try simp [-Nat.le_zero_eq] at h))
          exact ⟨i + 1, by omega, rfl, by omega, hn'⟩
      · have hil : i = fs.xs.length := by omega
        subst hil
        have hr : r = 0 := by rw [hc.h, allTo_all hn.h]; rfl
        clear hn hc
        (repeat' first | simp [*, initEnv] | (refine wpIf_two (fun _ h => ?_) (fun _ h => ?_) <;> try simp [-Nat.le_zero_eq] at h))
@[simp] theorem d11 (n : Nat) (H : Heap) (p_boxes : Sl Box) (p_facts : Sl Fact) : doCall (calleeOf G (n + 3)) H (.pure (.func 11 [])) [.pure (.agg [(p_boxes).pv Box.cells 4, (p_facts).pv Fact.cells 9])] = some (.val (.pure ((fun (p : Problem) => .int .i64 (checkS p)) (⟨p_boxes, p_facts⟩ : Problem)))) :=
  call_pureC (ps := [_]) (caps := []) sh11 (e11 n (⟨p_boxes, p_facts⟩ : Problem))
theorem sh12 : G.shared 12 = false := by decide
theorem e12 (n : Nat) (p : Problem) : callP G (n + 3) 12 [.agg p.cells] = some (.int .i64 (checkS p)) := by
  refine callP_of (ext_none _) rfl g12 rfl ?_
  obtain ⟨bs, fs⟩ := p
  by_cases hb : 12 < bs.xs.length
  · have hc : checkS ⟨bs, fs⟩ = 2 := by unfold checkS; rw [if_pos (.inl hb)]
    have hb' : (12 : Int) < bs.xs.length := by omega
    (repeat' first | simp [*, initEnv, c12, Problem.cells] | (refine wpIf_two (fun _ h => ?_) (fun _ h => ?_) <;> try simp [-Nat.le_zero_eq] at h))
  by_cases hf : 60 < fs.xs.length
  · have hc : checkS ⟨bs, fs⟩ = 2 := by unfold checkS; rw [if_pos (.inr hf)]
    have hb' : ¬ (12 : Int) < bs.xs.length := by omega
    have hf' : (60 : Int) < fs.xs.length := by omega
    (repeat' first | simp [*, initEnv, c12, Problem.cells] | (refine wpIf_two (fun _ h => ?_) (fun _ h => ?_) <;> try simp [-Nat.le_zero_eq] at h))
  have hc : Hide (checkS ⟨bs, fs⟩ = if bs.xs.all boxB && fs.xs.all (formedB · bs.xs.length) then 0 else 1) := ⟨by unfold checkS; rw [if_neg (by rintro (h | h); exact hb h; exact hf h)]⟩
  have hb' : ¬ (12 : Int) < bs.xs.length := by omega
  have hf' : ¬ (60 : Int) < fs.xs.length := by omega
  generalize checkS ⟨bs, fs⟩ = r at *
  (repeat' first | simp [*, initEnv, c12, Problem.cells] | (refine wpIf_two (fun _ h => ?_) (fun _ h => ?_) <;> try simp [-Nat.le_zero_eq] at h))
  refine wp_loopF [(2, 5), (18, 53)] (fun (i : Nat) env H => env 3 = .pure (.int .i64 i) ∧ i ≤ bs.xs.length ∧ Hide (allTo boxB bs.xs i)) (fun i => bs.xs.length - i) 0 ?_ ?_ ?_ ?_
  · decide
  · exact ⟨by simp, by omega, ⟨fun _ _ h => by omega⟩⟩
  · simp only [loopFuel]; omega
  · rintro i env H ⟨g0, hi, hn⟩
    by_cases hlt : i < bs.xs.length
    · have w1 : IntKind.i64.wrap ((i : Int) + 1) = (i + 1 : Nat) := by rw [wrap64 (by omega) (by omega)]; omega
      have hvi := fun H => call_pureC (G := G) (n := n + 2) (H := H) (caps := []) (ps := [.agg (bs.xs[i]).cells]) sh38 (e38 n bs.xs[i])
      simp only [Box.cells, Span.cells, List.map_cons, List.map_nil] at hvi
      cases hv : validB bs.xs[i] with
      | false =>
        have hB : boxB bs.xs[i] = false := by unfold boxB; rw [hv]; rfl
        have hr : r = 1 := by rw [hc.h, all_false hlt hB]; rfl
        rw [hv] at hvi
        clear hv hB hc hn
        (repeat' first | simp [*, initEnv, Box.cells, Span.cells] | (refine wpIf_two (fun _ h => ?_) (fun _ h => ?_) <;> try simp [-Nat.le_zero_eq] at h))
      | true =>
        have hlim := valid_lim hv
        have w2 : IntKind.i64.wrap ((bs.xs[i]).x.hi - (bs.xs[i]).x.lo) = (bs.xs[i]).x.hi - (bs.xs[i]).x.lo := wrap64 (by omega) (by omega)
        have w3 : IntKind.i64.wrap ((bs.xs[i]).y.hi - (bs.xs[i]).y.lo) = (bs.xs[i]).y.hi - (bs.xs[i]).y.lo := wrap64 (by omega) (by omega)
        by_cases hB : boxB bs.xs[i] = true
        · have hn' : Hide (allTo boxB bs.xs (i + 1)) := ⟨allTo_succ hn.h hlt hB⟩
          unfold boxB at hB
          simp only [Bool.and_eq_true, decide_eq_true_eq] at hB
          have e1 : ¬ (1024 ≤ (bs.xs[i]).x.hi - (bs.xs[i]).x.lo) := by omega
          have e2 : ¬ (1024 ≤ (bs.xs[i]).y.hi - (bs.xs[i]).y.lo) := by omega
          rw [hv] at hvi
          clear hv hB hc hn hlim
          (repeat' first | simp [*, initEnv, Box.cells, Span.cells] | (refine wpIf_two (fun _ h => ?_) (fun _ h => ?_) <;> try simp [-Nat.le_zero_eq] at h))
          exact ⟨i + 1, by omega, rfl, by omega, hn'⟩
        · have hB : boxB bs.xs[i] = false := by simpa using hB
          have hr : r = 1 := by rw [hc.h, all_false hlt hB]; rfl
          unfold boxB at hB
          rw [hv, Bool.true_and, Bool.and_eq_false_iff, decide_eq_false_iff_not, decide_eq_false_iff_not] at hB
          have e1 : 1024 ≤ (bs.xs[i]).x.hi - (bs.xs[i]).x.lo ∨ (¬ 1024 ≤ (bs.xs[i]).x.hi - (bs.xs[i]).x.lo ∧ 1024 ≤ (bs.xs[i]).y.hi - (bs.xs[i]).y.lo) := by omega
          rw [hv] at hvi
          clear hv hB hc hn hlim
          rcases e1 with e1 | ⟨e1, e2⟩
          · (repeat' first | simp [*, initEnv, Box.cells, Span.cells] | (refine wpIf_two (fun _ h => ?_) (fun _ h => ?_) <;> try simp [-Nat.le_zero_eq] at h))
          · (repeat' first | simp [*, initEnv, Box.cells, Span.cells] | (refine wpIf_two (fun _ h => ?_) (fun _ h => ?_) <;> try simp [-Nat.le_zero_eq] at h))
    · have hil : i = bs.xs.length := by omega
      subst hil
      have hall := allTo_all hn.h
      have hc : Hide (r = if fs.xs.all (formedB · bs.xs.length) then 0 else 1) := ⟨by rw [hc.h, hall, Bool.true_and]⟩
      clear hall hn
      (repeat' first | simp [*, initEnv] | (refine wpIf_two (fun _ h => ?_) (fun _ h => ?_) <;> try simp [-Nat.le_zero_eq] at h))
      refine wp_loopF [(2, 2), (6, 7), (54, 71)] (fun (i : Nat) env H => env 6 = .pure (.int .i64 i) ∧ i ≤ fs.xs.length ∧ Hide (allTo (formedB · bs.xs.length) fs.xs i)) (fun i => fs.xs.length - i) 0 ?_ ?_ ?_ ?_
      · decide
      · exact ⟨by simp, by omega, ⟨fun _ _ h => by omega⟩⟩
      · simp only [loopFuel]; omega
      rintro i env H ⟨g0, hi, hn⟩
      by_cases hlt : i < fs.xs.length
      · have w1 : IntKind.i64.wrap ((i : Int) + 1) = (i + 1 : Nat) := by rw [wrap64 (by omega) (by omega)]; omega
        have hvi := fun H => call_pureC (G := G) (n := n + 2) (H := H) (caps := []) (ps := [.agg (fs.xs[i]).cells, .int .i64 (bs.xs.length : Nat)]) sh39 (e39 n fs.xs[i] bs.xs.length (by omega))
        simp only [Fact.cells, List.map_cons, List.map_nil] at hvi
        cases hv : formedB fs.xs[i] bs.xs.length with
        | false =>
          have hr : r = 1 := by rw [hc.h, all_false hlt hv]; rfl
          rw [hv] at hvi
          clear hv hc hn
          (repeat' first | simp [*, initEnv, Fact.cells] | (refine wpIf_two (fun _ h => ?_) (fun _ h => ?_) <;> try simp [-Nat.le_zero_eq] at h))
        | true =>
          have hn' : Hide (allTo (formedB · bs.xs.length) fs.xs (i + 1)) := ⟨allTo_succ hn.h hlt hv⟩
          rw [hv] at hvi
          clear hv hc hn
          (repeat' first | simp [*, initEnv, Fact.cells] | (refine wpIf_two (fun _ h => ?_) (fun _ h => ?_) <;> try simp [-Nat.le_zero_eq] at h))
          exact ⟨i + 1, by omega, rfl, by omega, hn'⟩
      · have hil : i = fs.xs.length := by omega
        subst hil
        have hr : r = 0 := by rw [hc.h, allTo_all hn.h]; rfl
        clear hn hc
        (repeat' first | simp [*, initEnv] | (refine wpIf_two (fun _ h => ?_) (fun _ h => ?_) <;> try simp [-Nat.le_zero_eq] at h))
@[simp] theorem d12 (n : Nat) (H : Heap) (p_boxes : Sl Box) (p_facts : Sl Fact) : doCall (calleeOf G (n + 3)) H (.pure (.func 12 [])) [.pure (.agg [(p_boxes).pv Box.cells 4, (p_facts).pv Fact.cells 9])] = some (.val (.pure ((fun (p : Problem) => .int .i64 (checkS p)) (⟨p_boxes, p_facts⟩ : Problem)))) :=
  call_pureC (ps := [_]) (caps := []) sh12 (e12 n (⟨p_boxes, p_facts⟩ : Problem))
end Go.Proofs.Ytmghcpdpilgplaa.Vm

namespace Go.Proofs.Ytmghcpdpilgplaa.Vm
open Go
set_option linter.unusedSimpArgs false
set_option linter.unusedVariables false
set_option maxHeartbeats 4000000

theorem getP {l : List Pt} {i : Int} (h0 : 0 ≤ i) (h : i < (l.map atB).length) : ∃ p : Pt, (l.map atB)[i.toNat]! = atB p := by
  obtain ⟨n, hn, _, e⟩ := getB h0 h
  exact ⟨l[n]'(by simpa using hn), by rw [e, List.getElem_map]⟩
theorem bareS_at {f : Fact} {l : List Pt} (h : ROk f (l.map atB)) : (bareS f (l.map atB)).1 = (bareS f (l.map atB)).2 := by
  obtain ⟨p, hp⟩ := getP h.a.1 h.a.2
  obtain ⟨q, hq⟩ := getP h.b.1 h.b.2
  rw [bareS_3, hp, hq]
  by_cases hk : f.kind = 2
  · obtain ⟨r, hr⟩ := getP (h.c hk).1 (h.c hk).2
    rw [hr, bare3_at]
  · have : ∀ c c' : Box, bare3 f (atB p) (atB q) c = bare3 f (atB p) (atB q) c' := fun c c' => by unfold bare3; simp only [if_neg hk]
    rw [this _ (atB p), bare3_at]
structure CheckOk (p : Problem) : Prop where
  nb : p.boxes.xs.length ≤ 12
  nf : p.facts.xs.length ≤ 60
  box : ∀ b ∈ p.boxes.xs, boxB b = true
  fact : ∀ f ∈ p.facts.xs, formedB f p.boxes.xs.length = true
theorem check_ok {p : Problem} : checkS p = 0 ↔ CheckOk p := by
  unfold checkS
  constructor
  · intro h
    split at h
    · simp at h
    · rename_i h1
      split at h
      · rename_i h2
        rw [Bool.and_eq_true, List.all_eq_true, List.all_eq_true] at h2
        exact ⟨by omega, by omega, h2.1, h2.2⟩
      · simp at h
  · intro h
    have e1 : p.boxes.xs.all boxB = true := List.all_eq_true.2 h.box
    have e2 : p.facts.xs.all (formedB · p.boxes.xs.length) = true := List.all_eq_true.2 h.fact
    rw [if_neg (by have := h.nb; have := h.nf; omega), e1, e2]
    rfl
theorem CheckOk.valid {p : Problem} (h : CheckOk p) : ∀ b ∈ p.boxes.xs, validB b = true := fun b hb => by
  have := h.box b hb
  unfold boxB at this
  simp only [Bool.and_eq_true] at this
  exact this.1.1
theorem CheckOk.fine {p : Problem} (h : CheckOk p) {l : List Box} (hl : l.length = p.boxes.xs.length) (hv : ∀ b ∈ l, validB b = true) {f : Fact} (hf : f ∈ p.facts.xs) : fineB f l = true := by
  unfold fineB
  rw [hl, h.fact f hf, Bool.and_true]
  exact List.all_eq_true.2 hv
def firstF (b : List Box) : List Fact → Int → Int × Bool
  | [], _ => (-1, true)
  | f :: fs, k => if failsS f b = true then (k, false) else firstF b fs (k + 1)
theorem firstF_at {b : List Box} : ∀ (fs : List Fact) (k : Int) (i : Nat) (h : i < fs.length), (∀ j (h : j < fs.length), j < i → failsS fs[j] b = false) → failsS fs[i] b = true → firstF b fs k = (k + i, false)
  | [], k, i, h, _, _ => by simp at h
  | f :: fs, k, 0, h, _, hf => by
    have : failsS f b = true := hf
    simp [firstF, this]
  | f :: fs, k, i + 1, h, hn, hf => by
    have h0 : failsS f b = false := hn 0 (by simp) (by omega)
    rw [firstF, h0, if_neg (by simp), firstF_at fs (k + 1) i (by simpa using h) (fun j hj hji => hn (j + 1) (by simpa using hj) (by omega)) hf]
    simp only [Prod.mk.injEq, and_true]
    omega
theorem firstF_none {b : List Box} : ∀ (fs : List Fact) (k : Int), (∀ j (h : j < fs.length), failsS fs[j] b = false) → firstF b fs k = (-1, true)
  | [], k, _ => rfl
  | f :: fs, k, hn => by
    have h0 : failsS f b = false := hn 0 (by simp)
    rw [firstF, h0, if_neg (by simp)]
    exact firstF_none fs (k + 1) fun j hj => hn (j + 1) (by simpa using hj)
def inPB (p : Pt) (b : Box) : Bool := inB p.x b.x.lo b.x.hi && inB p.y b.y.lo b.y.hi
def insB (l : List Pt) (bs : List Box) : Prop := ∀ i (h : i < bs.length) (h' : i < l.length), inPB l[i] bs[i] = true
open Classical in
noncomputable def allowsS (p : Problem) (l : List Pt) : Int × Bool :=
  if checkS p = 0 ∧ l.length = p.boxes.xs.length ∧ insB l p.boxes.xs then firstF (l.map atB) p.facts.xs 0 else (-1, false)
theorem at_valid {p : Problem} {l : List Pt} (h : CheckOk p) (hl : l.length = p.boxes.xs.length) (hi : insB l p.boxes.xs) : ∀ b ∈ l.map atB, validB b = true := by
  intro b hb
  obtain ⟨i, hi', rfl⟩ := List.mem_iff_getElem.1 hb
  have hi' : i < l.length := by simpa using hi'
  have h1 := hi i (by omega) hi'
  have h2 := valid_iff.1 (h.valid _ (List.getElem_mem (show i < p.boxes.xs.length by omega)))
  rw [List.getElem_map, valid_iff]
  simp only [inPB, inB, Bool.and_eq_true, decide_eq_true_eq] at h1
  simp only [atB]
  omega
theorem sh31 : G.shared 31 = false := by decide
theorem e31 (n : Nat) (p : Problem) (l : Sl Pt) (hl : l.xs.length < 1000) : callP G (n + 7) 31 [.agg p.cells, l.pv Pt.cells 2] = some (.tup [.int .i64 (allowsS p l.xs).1, .bool (allowsS p l.xs).2]) := by
  refine callP_of (ext_none _) rfl g31 rfl ?_
  obtain ⟨bs, fs⟩ := p
  have hC := fun H => call_pureC (G := G) (n := n + 6) (H := H) (caps := []) (ps := [.agg (Problem.mk bs fs).cells]) sh11 (e11 (n + 3) ⟨bs, fs⟩)
  have hA := fun H => call_pureC (G := G) (n := n + 6) (H := H) (caps := []) (ps := [l.pv Pt.cells 2]) sh43 (e43 (n + 4) l hl)
  simp only [Problem.cells, List.map_cons, List.map_nil] at hC hA
  by_cases hc : checkS ⟨bs, fs⟩ = 0
  case neg =>
    have hr : allowsS ⟨bs, fs⟩ l.xs = (-1, false) := by unfold allowsS; rw [if_neg (fun h => hc h.1)]
    generalize checkS ⟨bs, fs⟩ = c at *
    rw [hr]
    clear hr
    (repeat' first | simp [*, initEnv, c31, Problem.cells] | (refine wpIf_two (fun _ h => ?_) (fun _ h => ?_) <;> try simp [-Nat.le_zero_eq] at h))
  have ok := check_ok.1 hc
  rw [hc] at hC
  have nb : bs.xs.length ≤ 12 := ok.nb
  have nf : fs.xs.length ≤ 60 := ok.nf
  by_cases hlen : l.xs.length = bs.xs.length
  case neg =>
    have hr : allowsS ⟨bs, fs⟩ l.xs = (-1, false) := by unfold allowsS; rw [if_neg (fun h => hlen h.2.1)]
    rw [hr]
    have hlen' : ¬ (l.xs.length : Int) = bs.xs.length := by omega
    clear hr hc ok
    (repeat' first | simp [*, initEnv, c31, Problem.cells] | (refine wpIf_two (fun _ h => ?_) (fun _ h => ?_) <;> try simp [-Nat.le_zero_eq] at h))
  have hr : Hide (insB l.xs bs.xs → allowsS ⟨bs, fs⟩ l.xs = firstF (l.xs.map atB) fs.xs 0) := ⟨fun hi => by unfold allowsS; rw [if_pos ⟨hc, hlen, hi⟩]⟩
  have hr2 : Hide (¬ insB l.xs bs.xs → allowsS ⟨bs, fs⟩ l.xs = (-1, false)) := ⟨fun hi => by unfold allowsS; rw [if_neg (fun h => hi h.2.2)]⟩
  have hok := Hide.mk ok
  generalize allowsS ⟨bs, fs⟩ l.xs = r at *
  have hlI : (l.xs.length : Int) = bs.xs.length := by omega
  have hlN := Hide.mk hlen
  clear hc ok hlen
  (repeat' first | simp [*, initEnv, c31, Problem.cells] | (refine wpIf_two (fun _ h => ?_) (fun _ h => ?_) <;> try simp [-Nat.le_zero_eq] at h))
  refine wp_loopF [(4, 7), (25, 58)] (fun (i : Nat) env H => env 25 = .pure (.int .i64 i) ∧ i ≤ bs.xs.length ∧ Hide (∀ j (h : j < bs.xs.length) (h' : j < l.xs.length), j < i → inPB l.xs[j] bs.xs[j] = true)) (fun i => bs.xs.length - i) 0 ?_ ?_ ?_ ?_
  · decide
  · exact ⟨by simp, by omega, ⟨fun _ _ _ h => by omega⟩⟩
  · simp only [loopFuel]; omega
  rintro i env H ⟨g0, hi, hn⟩
  by_cases hlt : i < bs.xs.length
  · have hlt2 : i < l.xs.length := by have := hlN.h; omega
    have w1 : IntKind.i64.wrap ((i : Int) + 1) = (i + 1 : Nat) := by rw [wrap64 (by omega) (by omega)]; omega
    have hp := Hide.mk (hn.h)
    cases hin : inPB l.xs[i] bs.xs[i] with
    | true =>
      have hn' : Hide (∀ j (h : j < bs.xs.length) (h' : j < l.xs.length), j < i + 1 → inPB l.xs[j] bs.xs[j] = true) := ⟨fun j h h' hj => by
        by_cases e : j = i
        · subst e; exact hin
        · exact hn.h j h h' (by omega)⟩
      unfold inPB at hin
      rw [Bool.and_eq_true] at hin
      obtain ⟨i1, i2⟩ := hin
      clear hn hp
      (repeat' first | simp [*, initEnv, Pt.cells, Box.cells, Span.cells] | (refine wpIf_two (fun _ h => ?_) (fun _ h => ?_) <;> try simp [-Nat.le_zero_eq] at h))
      exact ⟨i + 1, by omega, rfl, by omega, hn'⟩
    | false =>
      have hrr : r = (-1, false) := hr2.h fun h => by rw [h i hlt hlt2] at hin; simp at hin
      subst hrr
      unfold inPB at hin
      clear hn hp hr hr2
      cases i1 : inB l.xs[i].x bs.xs[i].x.lo bs.xs[i].x.hi with
      | true =>
        rw [i1, Bool.true_and] at hin
        (repeat' first | simp [*, initEnv, Pt.cells, Box.cells, Span.cells] | (refine wpIf_two (fun _ h => ?_) (fun _ h => ?_) <;> try simp [-Nat.le_zero_eq] at h))
      | false =>
        clear hin
        (repeat' first | simp [*, initEnv, Pt.cells, Box.cells, Span.cells] | (refine wpIf_two (fun _ h => ?_) (fun _ h => ?_) <;> try simp [-Nat.le_zero_eq] at h))
  · have hil : i = bs.xs.length := by omega
    subst hil
    have hins : insB l.xs bs.xs := fun j h h' => hn.h j h h' h
    have hrr := Hide.mk (hr.h hins)
    have hfv := Hide.mk fun (f : Fact) (hf : f ∈ fs.xs) H => call_pureC (G := G) (n := n + 6) (H := H) (caps := []) (ps := [.agg f.cells, (Sl.of (l.xs.map atB)).pv Box.cells 4]) sh42 (e42 (n + 1) f (Sl.of (l.xs.map atB)) (by
      rw [Sl.xs_of]
      exact fine_ok (hok.h.fine (by simpa using hlN.h) (at_valid hok.h hlN.h hins) hf)))
    clear hr hr2 hn hins hok
    simp only [Sl.xs_of] at hfv
    generalize Sl.of (l.xs.map atB) = s at *
    (repeat' first | simp [*, initEnv] | (refine wpIf_two (fun _ h => ?_) (fun _ h => ?_) <;> try simp [-Nat.le_zero_eq] at h))
    refine wp_loopF [(4, 5), (9, 10), (64, 73)] (fun (i : Nat) env H => env 64 = .pure (.int .i64 i) ∧ i ≤ fs.xs.length ∧ Hide (∀ j (h : j < fs.xs.length), j < i → failsS fs.xs[j] (l.xs.map atB) = false)) (fun i => fs.xs.length - i) 0 ?_ ?_ ?_ ?_
    · decide
    · exact ⟨by simp, by omega, ⟨fun _ _ h => by omega⟩⟩
    · simp only [loopFuel]; omega
    rintro i env H ⟨g0, hi, hn⟩
    by_cases hlt : i < fs.xs.length
    · have w1 : IntKind.i64.wrap ((i : Int) + 1) = (i + 1 : Nat) := by rw [wrap64 (by omega) (by omega)]; omega
      have hv := hfv.h fs.xs[i] (List.getElem_mem hlt)
      simp only [Fact.cells, List.map_cons, List.map_nil] at hv
      cases hf : failsS fs.xs[i] (l.xs.map atB) with
      | true =>
        have hrr := hrr.h.trans (firstF_at fs.xs 0 i hlt hn.h hf)
        subst hrr
        rw [hf] at hv
        clear hf hn hfv
        (repeat' first | simp [*, initEnv, Fact.cells] | (refine wpIf_two (fun _ h => ?_) (fun _ h => ?_) <;> try simp [-Nat.le_zero_eq] at h))
      | false =>
        have hn' : Hide (∀ j (h : j < fs.xs.length), j < i + 1 → failsS fs.xs[j] (l.xs.map atB) = false) := ⟨fun j h hj => by
          by_cases e : j = i
          · subst e; exact hf
          · exact hn.h j h (by omega)⟩
        rw [hf] at hv
        clear hf hn hfv hrr
        (repeat' first | simp [*, initEnv, Fact.cells] | (refine wpIf_two (fun _ h => ?_) (fun _ h => ?_) <;> try simp [-Nat.le_zero_eq] at h))
        exact ⟨i + 1, by omega, rfl, by omega, hn'⟩
    · have hil : i = fs.xs.length := by omega
      subst hil
      have hrr := hrr.h.trans (firstF_none fs.xs 0 fun j h => hn.h j h h)
      subst hrr
      clear hn hfv
      (repeat' first | simp [*, initEnv] | (refine wpIf_two (fun _ h => ?_) (fun _ h => ?_) <;> try simp [-Nat.le_zero_eq] at h))
@[simp] theorem d31 (n : Nat) (H : Heap) (p_boxes : Sl Box) (p_facts : Sl Fact) (l : Sl Pt) (hl : l.xs.length < 1000) : doCall (calleeOf G (n + 7)) H (.pure (.func 31 [])) [.pure (.agg [(p_boxes).pv Box.cells 4, (p_facts).pv Fact.cells 9]), .pure (l.pv Pt.cells 2)] = some (.val (.pure ((fun (p : Problem) => .tup [.int .i64 (allowsS p l.xs).1, .bool (allowsS p l.xs).2]) (⟨p_boxes, p_facts⟩ : Problem)))) :=
  call_pureC (ps := [_, _]) (caps := []) sh31 (e31 n (⟨p_boxes, p_facts⟩ : Problem) l hl)
end Go.Proofs.Ytmghcpdpilgplaa.Vm
