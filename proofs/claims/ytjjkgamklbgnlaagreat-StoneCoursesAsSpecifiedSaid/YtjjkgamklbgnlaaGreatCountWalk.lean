/- What the functions compute that go through all courses. -/
import Derived.Test.YtjjkgamklbgnlaaGreatGenWalk
namespace Go.Proofs.YtjjkgamklbgnlaaGreat.Vm
open Go
set_option linter.unusedSimpArgs false
set_option linter.unusedVariables false
set_option maxHeartbeats 4000000

def chg (c : List Int) : Nat := c.countP (fun k => !decide (k = 0))
theorem chg_succ {c : List Int} {i : Nat} (h : i < c.length) : chg (c.take (i + 1)) = chg (c.take i) + if c[i] = 0 then 0 else 1 := by
  rw [← take_succ' h, chg, List.countP_append]
  by_cases h0 : c[i] = 0 <;> simp [chg, h0]
theorem chg_le (c : List Int) : chg c ≤ c.length := List.countP_le_length
theorem sh58 : G.shared 58 = false := by decide
theorem e58 (n : Nat) (c : Sl Int) (hc : c.xs.length < 1000) : callP G (n + 1) 58 [c.pv intF 1] = some (.int .i64 (chg c.xs)) := by
  refine callP_of (ext_none _) rfl g58 rfl ?_
  (repeat' first | simp [*, initEnv, c58] | (refine wpIf_two (fun _ h => ?_) (fun _ h => ?_) <;> try simp [-Nat.le_zero_eq] at h) | (apply wpE_appendV; (focus (first | assumption | (repeat' first | assumption | with_reducible apply GrowV.setNew | with_reducible apply GrowV.alloc | with_reducible apply GrowV.set | (with_reducible show ¬ Names _ _; simp [*]; done)))); (focus (exact fun _ => rfl)); (focus decide); (focus (intro a; first | rfl | simp)); (focus (simp [maxCells] <;> omega))) | (refine after_intro fun v2 H2 hv2 hnx2 hget2 hnew2 hone2 hcel2 => ?_))
  refine wp_loopF [(3, 3), (5, 5), (8, 16)] (fun (i : Nat) env H => env 8 = .pure (.int .i64 i) ∧ env 3 = .pure (.int .i64 (chg (c.xs.take i))) ∧ i ≤ c.xs.length) (fun i => c.xs.length - i) 0 ?_ ?_ ?_ ?_
  · decide
  · simp [chg]
  · simp only [loopFuel]; omega
  rintro i env H ⟨h8, h3, hi⟩
  have hfit : i < 9223372036854775807 := by omega
  have hcl := chg_le (c.xs.take i)
  rw [List.length_take] at hcl
  have hfit2 : chg (c.xs.take i) < 9223372036854775807 := by omega
  have hs : ∀ h : i < c.xs.length, Hide (chg (c.xs.take (i + 1)) = chg (c.xs.take i) + if c.xs[i] = 0 then 0 else 1) := fun h => ⟨chg_succ h⟩
  (repeat' first | simp [*, initEnv] | (refine wpIf_two (fun _ h => ?_) (fun _ h => ?_) <;> try simp [-Nat.le_zero_eq] at h) | (apply wpE_appendV; (focus (first | assumption | (repeat' first | assumption | with_reducible apply GrowV.setNew | with_reducible apply GrowV.alloc | with_reducible apply GrowV.set | (with_reducible show ¬ Names _ _; simp [*]; done)))); (focus (exact fun _ => rfl)); (focus decide); (focus (intro a; first | rfl | simp)); (focus (simp [maxCells] <;> omega))) | (refine after_intro fun v2 H2 hv2 hnx2 hget2 hnew2 hone2 hcel2 => ?_))
  · exact ⟨i + 1, by omega, by simp, by rw [(hs (by assumption)).h, if_pos (by assumption)]; simp, by omega⟩
  · exact ⟨i + 1, by omega, by simp, by rw [(hs (by assumption)).h, if_neg (by assumption)]; simp, by omega⟩
  · rw [List.take_of_length_le (by omega)]
@[simp] theorem d58 (n : Nat) (H : Heap) (c : Sl Int) (hc : c.xs.length < 1000) : doCall (calleeOf G (n + 1)) H (.pure (.func 58 [])) [.pure (c.pv intF 1)] = some (.val (.pure (.int .i64 (chg c.xs)))) :=
  call_pureC (ps := [_]) (caps := []) sh58 (e58 n c hc)
theorem sh59 : G.shared 59 = false := by decide
theorem e59 (n : Nat) (c : Sl Int) (hc : c.xs.length < 1000) : callP G (n + 1) 59 [c.pv intF 1] = some (.int .i64 (chg c.xs)) := by
  refine callP_of (ext_none _) rfl g59 rfl ?_
  (repeat' first | simp [*, initEnv, c59] | (refine wpIf_two (fun _ h => ?_) (fun _ h => ?_) <;> try simp [-Nat.le_zero_eq] at h) | (apply wpE_appendV; (focus (first | assumption | (repeat' first | assumption | with_reducible apply GrowV.setNew | with_reducible apply GrowV.alloc | with_reducible apply GrowV.set | (with_reducible show ¬ Names _ _; simp [*]; done)))); (focus (exact fun _ => rfl)); (focus decide); (focus (intro a; first | rfl | simp)); (focus (simp [maxCells] <;> omega))) | (refine after_intro fun v2 H2 hv2 hnx2 hget2 hnew2 hone2 hcel2 => ?_))
  refine wp_loopF [(3, 17)] (fun (i : Nat) env H => env 4 = .pure (.int .i64 i) ∧ env 3 = .pure (.int .i64 (chg (c.xs.take i))) ∧ i ≤ c.xs.length) (fun i => c.xs.length - i) 0 ?_ ?_ ?_ ?_
  · decide
  · simp [chg]
  · simp only [loopFuel]; omega
  rintro i env H ⟨h8, h3, hi⟩
  have hfit : i < 9223372036854775807 := by omega
  have hcl := chg_le (c.xs.take i)
  rw [List.length_take] at hcl
  have hfit2 : chg (c.xs.take i) < 9223372036854775807 := by omega
  have hs : ∀ h : i < c.xs.length, Hide (chg (c.xs.take (i + 1)) = chg (c.xs.take i) + if c.xs[i] = 0 then 0 else 1) := fun h => ⟨chg_succ h⟩
  (repeat' first | simp [*, initEnv] | (refine wpIf_two (fun _ h => ?_) (fun _ h => ?_) <;> try simp [-Nat.le_zero_eq] at h) | (apply wpE_appendV; (focus (first | assumption | (repeat' first | assumption | with_reducible apply GrowV.setNew | with_reducible apply GrowV.alloc | with_reducible apply GrowV.set | (with_reducible show ¬ Names _ _; simp [*]; done)))); (focus (exact fun _ => rfl)); (focus decide); (focus (intro a; first | rfl | simp)); (focus (simp [maxCells] <;> omega))) | (refine after_intro fun v2 H2 hv2 hnx2 hget2 hnew2 hone2 hcel2 => ?_))
  · exact ⟨i + 1, by omega, by simp, by rw [(hs (by assumption)).h, if_pos (by assumption)]; simp, by omega⟩
  · exact ⟨i + 1, by omega, by simp, by rw [(hs (by assumption)).h, if_neg (by assumption)]; simp, by omega⟩
  · rw [List.take_of_length_le (by omega)]
@[simp] theorem d59 (n : Nat) (H : Heap) (c : Sl Int) (hc : c.xs.length < 1000) : doCall (calleeOf G (n + 1)) H (.pure (.func 59 [])) [.pure (c.pv intF 1)] = some (.val (.pure (.int .i64 (chg c.xs)))) :=
  call_pureC (ps := [_]) (caps := []) sh59 (e59 n c hc)
theorem sh56 : G.shared 56 = false := by decide
theorem e56 (n : Nat) (l : Life) (N : Nat) (hN : N = 3 ^ (l.sights.xs.length - 1)) (h1 : 1 ≤ l.sights.xs.length) (h9 : l.sights.xs.length ≤ 9) : callP G (n + 1) 56 [.agg l.cells] = some (.int .i64 (N : Nat)) := by
  refine callP_of (ext_none _) rfl g56 rfl ?_
  have hP : Hide _ := ⟨hN⟩
  clear hN
  (repeat' first | simp [*, initEnv, c56] | (refine wpIf_two (fun _ h => ?_) (fun _ h => ?_) <;> try simp [-Nat.le_zero_eq] at h) | (apply wpE_appendV; (focus (first | assumption | (repeat' first | assumption | with_reducible apply GrowV.setNew | with_reducible apply GrowV.alloc | with_reducible apply GrowV.set | (with_reducible show ¬ Names _ _; simp [*]; done)))); (focus (exact fun _ => rfl)); (focus decide); (focus (intro a; first | rfl | simp)); (focus (simp [maxCells] <;> omega))) | (refine after_intro fun v2 H2 hv2 hnx2 hget2 hnew2 hone2 hcel2 => ?_))
  refine wp_loopF [(3, 13)] (fun (s : Nat × Nat) env H => env 4 = .pure (.int .i64 s.1) ∧ env 3 = .pure (.int .i64 s.2) ∧ 1 ≤ s.1 ∧ s.1 ≤ l.sights.xs.length ∧ s.2 ≤ 6561 ∧ Hide (s.2 = 3 ^ (s.1 - 1))) (fun s => l.sights.xs.length - s.1) (1, 1) ?_ ?_ ?_ ?_
  · decide
  · simp [h1]
  · simp only [loopFuel]; omega
  rintro ⟨i, p⟩ env H ⟨h4, h3, hi1, hi, hp, hn⟩
  simp only at h4 h3 hi1 hi hp hn
  have hfit : i < 9223372036854775807 := by omega
  have hw : IntKind.i64.wrap (3 * (p : Int)) = ((3 * p : Nat) : Int) := by rw [wrap64 (by omega) (by omega)]; simp
  have hstep : Hide (3 * p = 3 ^ (i + 1 - 1)) := ⟨by
    have : i + 1 - 1 = (i - 1) + 1 := by omega
    rw [hn.h, this, Nat.pow_succ, Nat.mul_comm]⟩
  (repeat' first | simp [*, initEnv] | (refine wpIf_two (fun _ h => ?_) (fun _ h => ?_) <;> try simp [-Nat.le_zero_eq] at h) | (apply wpE_appendV; (focus (first | assumption | (repeat' first | assumption | with_reducible apply GrowV.setNew | with_reducible apply GrowV.alloc | with_reducible apply GrowV.set | (with_reducible show ¬ Names _ _; simp [*]; done)))); (focus (exact fun _ => rfl)); (focus decide); (focus (intro a; first | rfl | simp)); (focus (simp [maxCells] <;> omega))) | (refine after_intro fun v2 H2 hv2 hnx2 hget2 hnew2 hone2 hcel2 => ?_))
  · refine ⟨i + 1, by omega, by simp, 3 * p, by simp, by omega, by omega, ?_, hstep⟩
    rw [hstep.h]
    have h8 : i + 1 - 1 ≤ 8 := by omega
    have : 3 ^ (i + 1 - 1) ≤ 3 ^ 8 := Nat.pow_le_pow_right (by decide) h8
    exact this
  · have : i = l.sights.xs.length := by omega
    rw [hn.h, hP.h, this]
@[simp] theorem d56 (n : Nat) (H : Heap) (l_habit_step : Int) (l_habit_place : Int) (l_habit_sink : Int) (l_sights : Sl Sight) (l_notes : Sl Note) (N : Nat) (hN : (fun (l : Life) => N = 3 ^ (l.sights.xs.length - 1)) (⟨⟨l_habit_step, l_habit_place, l_habit_sink⟩, l_sights, l_notes⟩ : Life)) (h1 : (fun (l : Life) => 1 ≤ l.sights.xs.length) (⟨⟨l_habit_step, l_habit_place, l_habit_sink⟩, l_sights, l_notes⟩ : Life)) (h9 : (fun (l : Life) => l.sights.xs.length ≤ 9) (⟨⟨l_habit_step, l_habit_place, l_habit_sink⟩, l_sights, l_notes⟩ : Life)) : doCall (calleeOf G (n + 1)) H (.pure (.func 56 [])) [.pure (.agg [.int .i64 l_habit_step, .int .i64 l_habit_place, .int .i64 l_habit_sink, (l_sights).pv Sight.cells 9, (l_notes).pv Note.cells 4])] = some (.val (.pure (.int .i64 (N : Nat)))) :=
  call_pureC (ps := [_]) (caps := []) sh56 (e56 n (⟨⟨l_habit_step, l_habit_place, l_habit_sink⟩, l_sights, l_notes⟩ : Life) N hN h1 h9)
theorem sh57 : G.shared 57 = false := by decide
theorem e57 (n : Nat) (l : Life) (j : Nat) (h1 : 1 ≤ l.sights.xs.length) (h9 : l.sights.xs.length ≤ 9) (hj : j < 100000) : callP G (n + 1) 57 [.agg l.cells, .int .i64 (j : Nat)] = some ((Sl.of (toC (l.sights.xs.length - 1) j)).pv intF 1) := by
  refine callP_of (ext_none _) rfl g57 rfl ?_
  obtain ⟨c0, hc0⟩ : ∃ c, c = toC (l.sights.xs.length - 1) j := ⟨_, rfl⟩
  rw [← hc0]
  have hcc : Hide _ := ⟨hc0⟩
  clear hc0
  (repeat' first | simp [*, initEnv, c57] | (refine wpIf_two (fun _ h => ?_) (fun _ h => ?_) <;> try simp [-Nat.le_zero_eq] at h) | (apply wpE_appendV; (focus (first | assumption | (repeat' first | assumption | with_reducible apply GrowV.setNew | with_reducible apply GrowV.alloc | with_reducible apply GrowV.set | (with_reducible show ¬ Names _ _; simp [*]; done)))); (focus (exact fun _ => rfl)); (focus decide); (focus (intro a; first | rfl | simp)); (focus (simp [maxCells] <;> omega))) | (refine after_intro fun v2 H2 hv2 hnx2 hget2 hnew2 hone2 hcel2 => ?_))
  refine wp_loopF [(1, 1), (5, 20)] (fun (s : Nat × Nat × List Int) env H => env 6 = .pure (.int .i64 s.1) ∧ env 1 = .pure (.int .i64 s.2.1) ∧ GrowV intF 1 H (env 5) s.2.2 ∧ 1 ≤ s.1 ∧ s.1 ≤ l.sights.xs.length ∧ s.2.1 < 100000 ∧ s.2.2.length < 10 ∧ Hide (s.2.2.length = s.1 - 1 ∧ c0 = s.2.2 ++ toC (l.sights.xs.length - s.1) s.2.1)) (fun s => l.sights.xs.length - s.1) (1, j, []) ?_ ?_ ?_ ?_
  · decide
  · refine ⟨by simp, by simp [initEnv], by simpa using GrowV.nil, by omega, by omega, hj, by simp, ⟨rfl, by rw [hcc.h]; rfl⟩⟩
  · simp only [loopFuel]; omega
  rintro ⟨i, cur, out⟩ env H ⟨h6, h1', hg, hi1, hi, hcur, hol, hn⟩
  simp only at h6 h1' hg hi1 hi hcur hol hn
  have hfit : i < 9223372036854775807 := by omega
  have ht : ((cur : Int)).tmod 3 = ((cur % 3 : Nat) : Int) := rfl
  have hq : IntKind.i64.wrap ((cur : Int).tdiv 3) = ((cur / 3 : Nat) : Int) := by
    have : (cur : Int).tdiv 3 = ((cur / 3 : Nat) : Int) := rfl
    rw [this, wrap64 (by omega) (by omega)]
  obtain ⟨q, hq0⟩ : ∃ q, q = cur / 3 := ⟨_, rfl⟩
  obtain ⟨d, hd0⟩ : ∃ d, d = cur % 3 := ⟨_, rfl⟩
  rw [← hq0] at hq
  rw [← hd0] at ht
  have hq2 : IntKind.i64.wrap ((cur : Int) / 3) = q := by rw [wrap64 (by omega) (by omega), hq0]; omega
  have hd2 : (cur : Int) % 3 = d := by omega
  have hq1 : Hide _ := ⟨hq0⟩
  have hd1 : Hide _ := ⟨hd0⟩
  clear hq0 hd0
  obtain ⟨ids, hids⟩ := hg.res (n := 10) (fun _ => rfl)
  (repeat' first | simp [*, initEnv] | (refine wpIf_two (fun _ h => ?_) (fun _ h => ?_) <;> try simp [-Nat.le_zero_eq] at h) | (apply wpE_appendV; (focus (first | assumption | (repeat' first | assumption | with_reducible apply GrowV.setNew | with_reducible apply GrowV.alloc | with_reducible apply GrowV.set | (with_reducible show ¬ Names _ _; simp [*]; done)))); (focus (exact fun _ => rfl)); (focus decide); (focus (intro a; first | rfl | simp)); (focus (simp [maxCells] <;> omega))) | (refine after_intro fun v2 H2 hv2 hnx2 hget2 hnew2 hone2 hcel2 => ?_))
  · refine ⟨i + 1, by omega, by simp, q, by first | rfl | exact hq2, out ++ [(d : Int)], hv2, by omega, by omega, by have := hq1.h; omega, ?_, ⟨?_, ?_⟩⟩
    · have := hn.h.1; simp; omega
    · have := hn.h.1; simp; omega
    · have e : l.sights.xs.length - i = (l.sights.xs.length - (i + 1)) + 1 := by omega
      rw [hn.h.2, e, toC, ← hq1.h, ← hd1.h]
      simp
  · have e : l.sights.xs.length - i = 0 := by omega
    have := hn.h.2
    rw [e, toC, List.append_nil] at this
    rw [this]
    exact ⟨ids, hids⟩
@[simp] theorem d57 (n : Nat) (H : Heap) (l_habit_step : Int) (l_habit_place : Int) (l_habit_sink : Int) (l_sights : Sl Sight) (l_notes : Sl Note) (j : Nat) (h1 : (fun (l : Life) => 1 ≤ l.sights.xs.length) (⟨⟨l_habit_step, l_habit_place, l_habit_sink⟩, l_sights, l_notes⟩ : Life)) (h9 : (fun (l : Life) => l.sights.xs.length ≤ 9) (⟨⟨l_habit_step, l_habit_place, l_habit_sink⟩, l_sights, l_notes⟩ : Life)) (hj : j < 100000) : doCall (calleeOf G (n + 1)) H (.pure (.func 57 [])) [.pure (.agg [.int .i64 l_habit_step, .int .i64 l_habit_place, .int .i64 l_habit_sink, (l_sights).pv Sight.cells 9, (l_notes).pv Note.cells 4]), .pure (.int .i64 (j : Nat))] = some (.val (.pure ((fun (l : Life) => (Sl.of (toC (l.sights.xs.length - 1) j)).pv intF 1) (⟨⟨l_habit_step, l_habit_place, l_habit_sink⟩, l_sights, l_notes⟩ : Life)))) :=
  call_pureC (ps := [_, _]) (caps := []) sh57 (e57 n (⟨⟨l_habit_step, l_habit_place, l_habit_sink⟩, l_sights, l_notes⟩ : Life) j h1 h9 hj)
end Go.Proofs.YtjjkgamklbgnlaaGreat.Vm
