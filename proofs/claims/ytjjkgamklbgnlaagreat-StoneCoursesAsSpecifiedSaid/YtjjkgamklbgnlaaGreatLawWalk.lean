/- The specification's comparing, and which lives are few. -/
import Derived.Test.YtjjkgamklbgnlaaGreatCourseLaw
namespace Go.Proofs.YtjjkgamklbgnlaaGreat.Vm
open Go
set_option linter.unusedSimpArgs false
set_option linter.unusedVariables false
set_option maxHeartbeats 4000000

theorem goL_length : ∀ (r : List (Int × List UInt8)) (p : List UInt8) (m : Nat) (t : List (List UInt8)), goL p m r = some t → t.length = m + r.length
  | [], p, m, t, h => by simp [goL] at h; subst h; simp
  | (k, x) :: r, p, m, t, h => by
    rw [goL] at h
    split at h
    · rw [Option.map_eq_some_iff] at h
      obtain ⟨u, h1, rfl⟩ := h
      have := goL_length r _ _ _ h1
      simp; omega
    · split at h
      · have := goL_length r _ _ _ h
        simp; omega
      · simp at h
theorem letters_length {l : List Sight} {c : List Int} (hl : l.length ≤ 9) : ((lettersS l c).getD []).length < 1000 := by
  unfold lettersS startL
  split
  · cases h : goL l[0].letters 1 ((gapsL l c).drop 0) with
    | none => simp
    | some t =>
      have := goL_length _ _ _ _ h
      simp [gapsL, lets] at this ⊢
      omega
  · simp

@[simp] theorem vbin_neqS (d : EqK) (a b : List UInt8) : vbin .neq d (.pure (.str ⟨a.toArray⟩)) (.pure (.str ⟨b.toArray⟩)) = some (.pure (.bool (!decide (a = b)))) := by
  simp only [vbin, strBin, toList_mk, Option.map_some]
  congr 3
  by_cases h : a = b <;> simp [h]
theorem st_aggEq {cl : Callee} {env : Env} {H : Heap} {neg : Bool} {n : Nat} {os : List Nat} {x y : Opnd} : step cl env H (.aggEq neg n os x y) = if isAggV (x.eval env) = true ∧ isAggV (y.eval env) = true ∧ (x.eval env).cells.length = n ∧ (y.eval env).cells.length = n then
      match cellsEq (x.eval env).cells (y.eval env).cells os with
      | some b => some (.val (.pure (.bool (b != neg))))
      | none => none
    else none := rfl

theorem sh17 : G.shared 17 = false := by decide
theorem e17 (n : Nat) (a : Sl Box) (ha : a.xs.length < 1000) : callP G (n + 1) 17 [a.pv Box.cells 4, a.pv Box.cells 4] = some (.bool true) := by
  refine callP_of (ext_none _) rfl g17 rfl ?_
  (repeat' first | simp [*, initEnv, c17] | (refine wpIf_two (fun _ h => ?_) (fun _ h => ?_) <;> try simp [-Nat.le_zero_eq] at h) | (apply wpE_appendV; (focus (first | assumption | (repeat' first | assumption | with_reducible apply GrowV.setNew | with_reducible apply GrowV.alloc | with_reducible apply GrowV.set | (with_reducible show ¬ Names _ _; simp [*]; done)))); (focus (exact fun _ => rfl)); (focus decide); (focus (intro a; first | rfl | simp)); (focus (simp [maxCells] <;> omega))) | (refine after_intro fun v2 H2 hv2 hnx2 hget2 hnew2 hone2 hcel2 => ?_))
  refine wp_loopF [(4, 5), (11, 25)] (fun (i : Nat) env H => env 5 = .pure (.int .i64 i) ∧ i ≤ a.xs.length) (fun i => a.xs.length - i) 0 ?_ ?_ ?_ ?_
  · decide
  · simp
  · simp only [loopFuel]; omega
  rintro i env H ⟨h5, hi⟩
  have hfit : i < 9223372036854775807 := by omega
  (repeat' first | simp [*, initEnv, st_aggEq, cellsEq, isAggV] | (refine wpIf_two (fun _ h => ?_) (fun _ h => ?_) <;> try simp [-Nat.le_zero_eq] at h) | (apply wpE_appendV; (focus (first | assumption | (repeat' first | assumption | with_reducible apply GrowV.setNew | with_reducible apply GrowV.alloc | with_reducible apply GrowV.set | (with_reducible show ¬ Names _ _; simp [*]; done)))); (focus (exact fun _ => rfl)); (focus decide); (focus (intro a; first | rfl | simp)); (focus (simp [maxCells] <;> omega))) | (refine after_intro fun v2 H2 hv2 hnx2 hget2 hnew2 hone2 hcel2 => ?_))
  all_goals try exact ⟨i + 1, by omega, by simp, by omega⟩
@[simp] theorem d17 (n : Nat) (H : Heap) (a : Sl Box) (ha : a.xs.length < 1000) : doCall (calleeOf G (n + 1)) H (.pure (.func 17 [])) [.pure (a.pv Box.cells 4), .pure (a.pv Box.cells 4)] = some (.val (.pure (.bool true))) :=
  call_pureC (ps := [_, _]) (caps := []) sh17 (e17 n a ha)
theorem sh18 : G.shared 18 = false := by decide
theorem e18 (n : Nat) (a : Sl Span) (ha : a.xs.length < 1000) : callP G (n + 1) 18 [a.pv Span.cells 2, a.pv Span.cells 2] = some (.bool true) := by
  refine callP_of (ext_none _) rfl g18 rfl ?_
  (repeat' first | simp [*, initEnv, c18] | (refine wpIf_two (fun _ h => ?_) (fun _ h => ?_) <;> try simp [-Nat.le_zero_eq] at h) | (apply wpE_appendV; (focus (first | assumption | (repeat' first | assumption | with_reducible apply GrowV.setNew | with_reducible apply GrowV.alloc | with_reducible apply GrowV.set | (with_reducible show ¬ Names _ _; simp [*]; done)))); (focus (exact fun _ => rfl)); (focus decide); (focus (intro a; first | rfl | simp)); (focus (simp [maxCells] <;> omega))) | (refine after_intro fun v2 H2 hv2 hnx2 hget2 hnew2 hone2 hcel2 => ?_))
  refine wp_loopF [(4, 5), (11, 25)] (fun (i : Nat) env H => env 5 = .pure (.int .i64 i) ∧ i ≤ a.xs.length) (fun i => a.xs.length - i) 0 ?_ ?_ ?_ ?_
  · decide
  · simp
  · simp only [loopFuel]; omega
  rintro i env H ⟨h5, hi⟩
  have hfit : i < 9223372036854775807 := by omega
  (repeat' first | simp [*, initEnv, st_aggEq, cellsEq, isAggV] | (refine wpIf_two (fun _ h => ?_) (fun _ h => ?_) <;> try simp [-Nat.le_zero_eq] at h) | (apply wpE_appendV; (focus (first | assumption | (repeat' first | assumption | with_reducible apply GrowV.setNew | with_reducible apply GrowV.alloc | with_reducible apply GrowV.set | (with_reducible show ¬ Names _ _; simp [*]; done)))); (focus (exact fun _ => rfl)); (focus decide); (focus (intro a; first | rfl | simp)); (focus (simp [maxCells] <;> omega))) | (refine after_intro fun v2 H2 hv2 hnx2 hget2 hnew2 hone2 hcel2 => ?_))
  all_goals try exact ⟨i + 1, by omega, by simp, by omega⟩
@[simp] theorem d18 (n : Nat) (H : Heap) (a : Sl Span) (ha : a.xs.length < 1000) : doCall (calleeOf G (n + 1)) H (.pure (.func 18 [])) [.pure (a.pv Span.cells 2), .pure (a.pv Span.cells 2)] = some (.val (.pure (.bool true))) :=
  call_pureC (ps := [_, _]) (caps := []) sh18 (e18 n a ha)
theorem sh19 : G.shared 19 = false := by decide
theorem e19 (n : Nat) (a : Sl (List UInt8)) (ha : a.xs.length < 1000) : callP G (n + 1) 19 [a.pv strF 1, a.pv strF 1] = some (.bool true) := by
  refine callP_of (ext_none _) rfl g19 rfl ?_
  (repeat' first | simp [*, initEnv, c19] | (refine wpIf_two (fun _ h => ?_) (fun _ h => ?_) <;> try simp [-Nat.le_zero_eq] at h) | (apply wpE_appendV; (focus (first | assumption | (repeat' first | assumption | with_reducible apply GrowV.setNew | with_reducible apply GrowV.alloc | with_reducible apply GrowV.set | (with_reducible show ¬ Names _ _; simp [*]; done)))); (focus (exact fun _ => rfl)); (focus decide); (focus (intro a; first | rfl | simp)); (focus (simp [maxCells] <;> omega))) | (refine after_intro fun v2 H2 hv2 hnx2 hget2 hnew2 hone2 hcel2 => ?_))
  refine wp_loopF [(4, 5), (11, 25)] (fun (i : Nat) env H => env 5 = .pure (.int .i64 i) ∧ i ≤ a.xs.length) (fun i => a.xs.length - i) 0 ?_ ?_ ?_ ?_
  · decide
  · simp
  · simp only [loopFuel]; omega
  rintro i env H ⟨h5, hi⟩
  have hfit : i < 9223372036854775807 := by omega
  (repeat' first | simp [*, initEnv, st_aggEq, cellsEq, isAggV] | (refine wpIf_two (fun _ h => ?_) (fun _ h => ?_) <;> try simp [-Nat.le_zero_eq] at h) | (apply wpE_appendV; (focus (first | assumption | (repeat' first | assumption | with_reducible apply GrowV.setNew | with_reducible apply GrowV.alloc | with_reducible apply GrowV.set | (with_reducible show ¬ Names _ _; simp [*]; done)))); (focus (exact fun _ => rfl)); (focus decide); (focus (intro a; first | rfl | simp)); (focus (simp [maxCells] <;> omega))) | (refine after_intro fun v2 H2 hv2 hnx2 hget2 hnew2 hone2 hcel2 => ?_))
  all_goals try exact ⟨i + 1, by omega, by simp, by omega⟩
@[simp] theorem d19 (n : Nat) (H : Heap) (a : Sl (List UInt8)) (ha : a.xs.length < 1000) : doCall (calleeOf G (n + 1)) H (.pure (.func 19 [])) [.pure (a.pv strF 1), .pure (a.pv strF 1)] = some (.val (.pure (.bool true))) :=
  call_pureC (ps := [_, _]) (caps := []) sh19 (e19 n a ha)
theorem sh24 : G.shared 24 = false := by decide
theorem e24 (n : Nat) (a : Sl Int) (ha : a.xs.length < 1000) : callP G (n + 1) 24 [a.pv intF 1, a.pv intF 1] = some (.bool true) := by
  refine callP_of (ext_none _) rfl g24 rfl ?_
  (repeat' first | simp [*, initEnv, c24] | (refine wpIf_two (fun _ h => ?_) (fun _ h => ?_) <;> try simp [-Nat.le_zero_eq] at h) | (apply wpE_appendV; (focus (first | assumption | (repeat' first | assumption | with_reducible apply GrowV.setNew | with_reducible apply GrowV.alloc | with_reducible apply GrowV.set | (with_reducible show ¬ Names _ _; simp [*]; done)))); (focus (exact fun _ => rfl)); (focus decide); (focus (intro a; first | rfl | simp)); (focus (simp [maxCells] <;> omega))) | (refine after_intro fun v2 H2 hv2 hnx2 hget2 hnew2 hone2 hcel2 => ?_))
  refine wp_loopF [(4, 5), (11, 25)] (fun (i : Nat) env H => env 5 = .pure (.int .i64 i) ∧ i ≤ a.xs.length) (fun i => a.xs.length - i) 0 ?_ ?_ ?_ ?_
  · decide
  · simp
  · simp only [loopFuel]; omega
  rintro i env H ⟨h5, hi⟩
  have hfit : i < 9223372036854775807 := by omega
  (repeat' first | simp [*, initEnv, st_aggEq, cellsEq, isAggV] | (refine wpIf_two (fun _ h => ?_) (fun _ h => ?_) <;> try simp [-Nat.le_zero_eq] at h) | (apply wpE_appendV; (focus (first | assumption | (repeat' first | assumption | with_reducible apply GrowV.setNew | with_reducible apply GrowV.alloc | with_reducible apply GrowV.set | (with_reducible show ¬ Names _ _; simp [*]; done)))); (focus (exact fun _ => rfl)); (focus decide); (focus (intro a; first | rfl | simp)); (focus (simp [maxCells] <;> omega))) | (refine after_intro fun v2 H2 hv2 hnx2 hget2 hnew2 hone2 hcel2 => ?_))
  all_goals try exact ⟨i + 1, by omega, by simp, by omega⟩
@[simp] theorem d24 (n : Nat) (H : Heap) (a : Sl Int) (ha : a.xs.length < 1000) : doCall (calleeOf G (n + 1)) H (.pure (.func 24 [])) [.pure (a.pv intF 1), .pure (a.pv intF 1)] = some (.val (.pure (.bool true))) :=
  call_pureC (ps := [_, _]) (caps := []) sh24 (e24 n a ha)

/-! ### Few sights -/
def fewS (l : Life) : Bool := if 9 < l.sights.xs.length ∨ 20 < l.notes.xs.length then true else allL (fun s => decide (s.letters.length ≤ 20)) l.sights.xs && decide (l.sights.xs.length ≤ 6)
theorem few_short {l : Life} (h : fewS l = true) : shortS l := by
  unfold fewS at h
  intro h1 h2 s hs
  rw [if_neg (by omega)] at h
  simp only [Bool.and_eq_true] at h
  simpa using allL_iff.1 h.1 s hs
theorem sh7 : G.shared 7 = false := by decide
theorem e7 (n : Nat) (l : Life) : callP G (n + 1) 7 [.agg l.cells] = some (.bool (fewS l)) := by
  refine callP_of (ext_none _) rfl g7 rfl ?_
  (repeat' first | simp [*, initEnv, c7] | (refine wpIf_two (fun _ h => ?_) (fun _ h => ?_) <;> try simp [-Nat.le_zero_eq] at h) | (apply wpE_appendV; (focus (first | assumption | (repeat' first | assumption | with_reducible apply GrowV.setNew | with_reducible apply GrowV.alloc | with_reducible apply GrowV.set | (with_reducible show ¬ Names _ _; simp [*]; done)))); (focus (exact fun _ => rfl)); (focus decide); (focus (intro a; first | rfl | simp)); (focus (simp [maxCells] <;> omega))) | (refine after_intro fun v2 H2 hv2 hnx2 hget2 hnew2 hone2 hcel2 => ?_))
  all_goals try (rw [fewS, if_pos (by omega)]; done)
  have hP : Hide (fewS l = (allL (fun s => decide (s.letters.length ≤ 20)) l.sights.xs && decide (l.sights.xs.length ≤ 6))) := ⟨by rw [fewS, if_neg (by omega)]⟩
  generalize fewS l = P at *
  refine wp_loopF [(2, 3), (14, 28)] (fun (i : Nat) env H => env 3 = .pure (.int .i64 i) ∧ i ≤ l.sights.xs.length ∧ Hide (allL (fun s => decide (s.letters.length ≤ 20)) l.sights.xs = allL (fun s => decide (s.letters.length ≤ 20)) (l.sights.xs.drop i))) (fun i => l.sights.xs.length - i) 0 ?_ ?_ ?_ ?_
  · decide
  · simp
  · simp only [loopFuel]; omega
  rintro i env H ⟨h3, hi, hn⟩
  have hfit : i < 9223372036854775807 := by omega
  (repeat' first | simp [*, initEnv] | (refine wpIf_two (fun _ h => ?_) (fun _ h => ?_) <;> try simp [-Nat.le_zero_eq] at h) | (apply wpE_appendV; (focus (first | assumption | (repeat' first | assumption | with_reducible apply GrowV.setNew | with_reducible apply GrowV.alloc | with_reducible apply GrowV.set | (with_reducible show ¬ Names _ _; simp [*]; done)))); (focus (exact fun _ => rfl)); (focus decide); (focus (intro a; first | rfl | simp)); (focus (simp [maxCells] <;> omega))) | (refine after_intro fun v2 H2 hv2 hnx2 hget2 hnew2 hone2 hcel2 => ?_))
  · have hlt : i < l.sights.xs.length := by assumption
    have hf : decide (l.sights.xs[i].letters.length ≤ 20) = false := by simp; omega
    rw [hP.h, hn.h, allL_drop hlt, hf]; rfl
  · have hlt : i < l.sights.xs.length := by assumption
    have hf : decide (l.sights.xs[i].letters.length ≤ 20) = true := by simp; omega
    exact ⟨i + 1, by omega, by simp, by omega, ⟨by rw [hn.h, allL_drop hlt, hf]; rfl⟩⟩
  rw [hP.h, hn.h, allL_end (by omega)]; simp; omega
@[simp] theorem d7 (n : Nat) (H : Heap) (l_habit_step : Int) (l_habit_place : Int) (l_habit_sink : Int) (l_sights : Sl Sight) (l_notes : Sl Note) : doCall (calleeOf G (n + 1)) H (.pure (.func 7 [])) [.pure (.agg [.int .i64 l_habit_step, .int .i64 l_habit_place, .int .i64 l_habit_sink, (l_sights).pv Sight.cells 9, (l_notes).pv Note.cells 4])] = some (.val (.pure ((fun (l : Life) => .bool (fewS l)) (⟨⟨l_habit_step, l_habit_place, l_habit_sink⟩, l_sights, l_notes⟩ : Life)))) :=
  call_pureC (ps := [_]) (caps := []) sh7 (e7 n (⟨⟨l_habit_step, l_habit_place, l_habit_sink⟩, l_sights, l_notes⟩ : Life))
end Go.Proofs.YtjjkgamklbgnlaaGreat.Vm
