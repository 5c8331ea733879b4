/- What the specification's Can, Fits and Tell compute. -/
import Derived.Test.YtjjkgamklbgnlaaGreatRefSpans
namespace Go.Proofs.YtjjkgamklbgnlaaGreat.Vm
open Go
set_option linter.unusedSimpArgs false
set_option linter.unusedVariables false
set_option maxHeartbeats 4000000

theorem nar_len (l : Life) (c : List Int) : (narX l c).length = l.sights.xs.length ∧ (narY l c).length = l.sights.xs.length ∧ (narH l c).length = l.sights.xs.length := by
  simp [narX, narY, narH, roundsS_length]
def canS (l : Life) (c : List Int) : Bool := allL (fun m => notedS l.sights.xs m c) l.notes.xs && ((lettersS l.sights.xs c).isSome && someS (narX l c) && someS (narY l c) && someS (narH l c))
theorem sh44 : G.shared 44 = false := by decide
theorem e44 (n : Nat) (l : Life) (c : Sl Int) (hr : Right l) (hc : c.xs.length + 1 = l.sights.xs.length) (hk : ∀ k ∈ c.xs, 0 ≤ k ∧ k ≤ 2) : callP G (n + 6) 44 [.agg l.cells, c.pv intF 1] = some (.bool (canS l c.xs)) := by
  refine callP_of (ext_none _) rfl g44 rfl ?_
  have h9 := hr.nine
  have h20 := hr.notes
  have hl8 : ∀ s ∈ l.sights.xs, s.letters.length ≤ 20 := fun s hs => by have := hr.sp hs; omega
  obtain ⟨P, hPe⟩ : ∃ P, P = canS l c.xs := ⟨_, rfl⟩
  rw [← hPe]
  have hP : Hide _ := ⟨hPe⟩
  clear hPe
  have hcl : ∀ H, doCall (calleeOf G (n + 5)) H (.pure (.func 47 [])) [.pure (.agg l.cells), .pure (c.pv intF 1)] = some (.val (.pure (letPV (lettersS l.sights.xs c.xs)))) := fun H => d47 n H l.habit.step l.habit.place l.habit.sink l.sights l.notes c hc h9 hl8
  have hcs : ∀ H, doCall (calleeOf G (n + 5)) H (.pure (.func 46 [])) [.pure (.agg l.cells), .pure (c.pv intF 1)] = some (.val (.pure (.agg [(Sl.of (narX l c.xs)).pv Span.cells 2, (Sl.of (narY l c.xs)).pv Span.cells 2, (Sl.of (narH l c.xs)).pv Span.cells 2]))) := fun H => d46 (n + 2) H l.habit.step l.habit.place l.habit.sink l.sights l.notes c hr hc hk
  simp only [Life.cells] at hcl hcs
  have n1 : (narX l c.xs).length < 1000 := by rw [(nar_len l c.xs).1]; omega
  have n2 : (narY l c.xs).length < 1000 := by rw [(nar_len l c.xs).2.1]; omega
  have n3 : (narH l c.xs).length < 1000 := by rw [(nar_len l c.xs).2.2]; omega
  (repeat' first | simp [*, initEnv, c44] | (refine wpIf_two (fun _ h => ?_) (fun _ h => ?_) <;> try simp [-Nat.le_zero_eq] at h) | (apply wpE_appendV; (focus (first | assumption | (repeat' first | assumption | with_reducible apply GrowV.setNew | with_reducible apply GrowV.alloc | with_reducible apply GrowV.set | (with_reducible show ¬ Names _ _; simp [*]; done)))); (focus (exact fun _ => rfl)); (focus decide); (focus (intro a; first | rfl | simp)); (focus (simp [maxCells] <;> omega))) | (refine after_intro fun v2 H2 hv2 hnx2 hget2 hnew2 hone2 hcel2 => ?_))
  refine wp_loopF [(4, 6), (13, 29)] (fun (i : Nat) env H => env 5 = .pure (.int .i64 i) ∧ i ≤ l.notes.xs.length ∧ Hide (allL (fun m => notedS l.sights.xs m c.xs) l.notes.xs = allL (fun m => notedS l.sights.xs m c.xs) (l.notes.xs.drop i))) (fun i => l.notes.xs.length - i) 0 ?_ ?_ ?_ ?_
  · decide
  · simp
  · simp only [loopFuel]; omega
  rintro i env H ⟨h5, hi, hn⟩
  have hfit : i < 9223372036854775807 := by omega
  have hc2 : c.xs.length + 1 ≤ l.sights.xs.length := by omega
  have hl3 : l.sights.xs.length < 1000 := by omega
  have hsome : ∀ (o : Option (List (List UInt8))), letPV o = .tup [match o with | none => .nils | some t => (Sl.of t).pv strF 1, .bool o.isSome] := fun o => by cases o <;> rfl
  (repeat' first | simp [*, initEnv] | (refine wpIf_two (fun _ h => ?_) (fun _ h => ?_) <;> try simp [-Nat.le_zero_eq] at h) | (apply wpE_appendV; (focus (first | assumption | (repeat' first | assumption | with_reducible apply GrowV.setNew | with_reducible apply GrowV.alloc | with_reducible apply GrowV.set | (with_reducible show ¬ Names _ _; simp [*]; done)))); (focus (exact fun _ => rfl)); (focus decide); (focus (intro a; first | rfl | simp)); (focus (simp [maxCells] <;> omega))) | (refine after_intro fun v2 H2 hv2 hnx2 hget2 hnew2 hone2 hcel2 => ?_))
  · have hlt : i < l.notes.xs.length := by assumption
    have hf : notedS l.sights.xs l.notes.xs[i] c.xs = true := by assumption
    exact ⟨i + 1, by omega, by simp, by omega, ⟨by rw [hn.h, allL_drop hlt, hf]; rfl⟩⟩
  · have hlt : i < l.notes.xs.length := by assumption
    have hf : notedS l.sights.xs l.notes.xs[i] c.xs = false := by assumption
    rw [hP.h, canS, hn.h, allL_drop hlt, hf]
    rfl
  all_goals
    have hA : allL (fun m => notedS l.sights.xs m c.xs) l.notes.xs = true := by rw [hn.h, allL_end (by omega)]
    rw [hP.h, canS, hA]
    simp [*]
@[simp] theorem d44 (n : Nat) (H : Heap) (l_habit_step : Int) (l_habit_place : Int) (l_habit_sink : Int) (l_sights : Sl Sight) (l_notes : Sl Note) (c : Sl Int) (hr : (fun (l : Life) => Right l) (⟨⟨l_habit_step, l_habit_place, l_habit_sink⟩, l_sights, l_notes⟩ : Life)) (hc : (fun (l : Life) => c.xs.length + 1 = l.sights.xs.length) (⟨⟨l_habit_step, l_habit_place, l_habit_sink⟩, l_sights, l_notes⟩ : Life)) (hk : ∀ k ∈ c.xs, 0 ≤ k ∧ k ≤ 2) : doCall (calleeOf G (n + 6)) H (.pure (.func 44 [])) [.pure (.agg [.int .i64 l_habit_step, .int .i64 l_habit_place, .int .i64 l_habit_sink, (l_sights).pv Sight.cells 9, (l_notes).pv Note.cells 4]), .pure (c.pv intF 1)] = some (.val (.pure ((fun (l : Life) => .bool (canS l c.xs)) (⟨⟨l_habit_step, l_habit_place, l_habit_sink⟩, l_sights, l_notes⟩ : Life)))) :=
  call_pureC (ps := [_, _]) (caps := []) sh44 (e44 n (⟨⟨l_habit_step, l_habit_place, l_habit_sink⟩, l_sights, l_notes⟩ : Life) c hr hc hk)
theorem sh43 : G.shared 43 = false := by decide
theorem e43 (n : Nat) (l : Life) (c : Sl Int) (hs : shortS l) (hc : c.xs.length < 1000) : callP G (n + 6) 43 [.agg l.cells, c.pv intF 1] = some (.int .i64 (givenS l c.xs)) := by
  refine callP_of (ext_none _) rfl g43 rfl ?_
  have hl : checkS l = 0 → l.sights.xs.length < 1000 := fun h => by have := ((right_iff l).1 h).nine; omega
  have hcc : ∀ H, doCall (calleeOf G (n + 5)) H (.pure (.func 16 [])) [.pure (.agg l.cells)] = some (.val (.pure (.int .i64 (checkS l)))) := fun H => d16 n H l.habit.step l.habit.place l.habit.sink l.sights l.notes hs
  simp only [Life.cells] at hcc
  have hP : Hide (givenS l c.xs = if checkS l = 0 then (if kindsS l c.xs = true then 0 else 50) else checkS l) := ⟨rfl⟩
  generalize givenS l c.xs = P at *
  (repeat' first | simp [*, initEnv, c43] | (refine wpIf_two (fun _ h => ?_) (fun _ h => ?_) <;> try simp [-Nat.le_zero_eq] at h) | (apply wpE_appendV; (focus (first | assumption | (repeat' first | assumption | with_reducible apply GrowV.setNew | with_reducible apply GrowV.alloc | with_reducible apply GrowV.set | (with_reducible show ¬ Names _ _; simp [*]; done)))); (focus (exact fun _ => rfl)); (focus decide); (focus (intro a; first | rfl | simp)); (focus (simp [maxCells] <;> omega))) | (refine after_intro fun v2 H2 hv2 hnx2 hget2 hnew2 hone2 hcel2 => ?_))
  all_goals (rw [hP.h]; simp [*])
@[simp] theorem d43 (n : Nat) (H : Heap) (l_habit_step : Int) (l_habit_place : Int) (l_habit_sink : Int) (l_sights : Sl Sight) (l_notes : Sl Note) (c : Sl Int) (hs : (fun (l : Life) => shortS l) (⟨⟨l_habit_step, l_habit_place, l_habit_sink⟩, l_sights, l_notes⟩ : Life)) (hc : c.xs.length < 1000) : doCall (calleeOf G (n + 6)) H (.pure (.func 43 [])) [.pure (.agg [.int .i64 l_habit_step, .int .i64 l_habit_place, .int .i64 l_habit_sink, (l_sights).pv Sight.cells 9, (l_notes).pv Note.cells 4]), .pure (c.pv intF 1)] = some (.val (.pure ((fun (l : Life) => .int .i64 (givenS l c.xs)) (⟨⟨l_habit_step, l_habit_place, l_habit_sink⟩, l_sights, l_notes⟩ : Life)))) :=
  call_pureC (ps := [_, _]) (caps := []) sh43 (e43 n (⟨⟨l_habit_step, l_habit_place, l_habit_sink⟩, l_sights, l_notes⟩ : Life) c hs hc)
theorem sh10 : G.shared 10 = false := by decide
theorem e10 (n : Nat) (l : Life) (c : Sl Int) (hs : shortS l) (hc : c.xs.length < 1000) : callP G (n + 7) 10 [.agg l.cells, c.pv intF 1] = some ((if givenS l c.xs = 0 then .tup [.bool (canS l c.xs), .int .i64 0] else .tup [.bool false, .int .i64 (givenS l c.xs)])) := by
  refine callP_of (ext_none _) rfl g10 rfl ?_
  by_cases hg : givenS l c.xs = 0
  · obtain ⟨hr, h1, h2⟩ := given_zero hg
    have hct : ∀ H, doCall (calleeOf G (n + 6)) H (.pure (.func 44 [])) [.pure (.agg l.cells), .pure (c.pv intF 1)] = some (.val (.pure (.bool (canS l c.xs)))) := fun H => d44 n H l.habit.step l.habit.place l.habit.sink l.sights l.notes c hr h1 h2
    simp only [Life.cells] at hct
    (repeat' first | simp [*, initEnv, c10] | (refine wpIf_two (fun _ h => ?_) (fun _ h => ?_) <;> try simp [-Nat.le_zero_eq] at h) | (apply wpE_appendV; (focus (first | assumption | (repeat' first | assumption | with_reducible apply GrowV.setNew | with_reducible apply GrowV.alloc | with_reducible apply GrowV.set | (with_reducible show ¬ Names _ _; simp [*]; done)))); (focus (exact fun _ => rfl)); (focus decide); (focus (intro a; first | rfl | simp)); (focus (simp [maxCells] <;> omega))) | (refine after_intro fun v2 H2 hv2 hnx2 hget2 hnew2 hone2 hcel2 => ?_))
  · (repeat' first | simp [*, initEnv, c10] | (refine wpIf_two (fun _ h => ?_) (fun _ h => ?_) <;> try simp [-Nat.le_zero_eq] at h) | (apply wpE_appendV; (focus (first | assumption | (repeat' first | assumption | with_reducible apply GrowV.setNew | with_reducible apply GrowV.alloc | with_reducible apply GrowV.set | (with_reducible show ¬ Names _ _; simp [*]; done)))); (focus (exact fun _ => rfl)); (focus decide); (focus (intro a; first | rfl | simp)); (focus (simp [maxCells] <;> omega))) | (refine after_intro fun v2 H2 hv2 hnx2 hget2 hnew2 hone2 hcel2 => ?_))
@[simp] theorem d10 (n : Nat) (H : Heap) (l_habit_step : Int) (l_habit_place : Int) (l_habit_sink : Int) (l_sights : Sl Sight) (l_notes : Sl Note) (c : Sl Int) (hs : (fun (l : Life) => shortS l) (⟨⟨l_habit_step, l_habit_place, l_habit_sink⟩, l_sights, l_notes⟩ : Life)) (hc : c.xs.length < 1000) : doCall (calleeOf G (n + 7)) H (.pure (.func 10 [])) [.pure (.agg [.int .i64 l_habit_step, .int .i64 l_habit_place, .int .i64 l_habit_sink, (l_sights).pv Sight.cells 9, (l_notes).pv Note.cells 4]), .pure (c.pv intF 1)] = some (.val (.pure ((fun (l : Life) => (if givenS l c.xs = 0 then .tup [.bool (canS l c.xs), .int .i64 0] else .tup [.bool false, .int .i64 (givenS l c.xs)])) (⟨⟨l_habit_step, l_habit_place, l_habit_sink⟩, l_sights, l_notes⟩ : Life)))) :=
  call_pureC (ps := [_, _]) (caps := []) sh10 (e10 n (⟨⟨l_habit_step, l_habit_place, l_habit_sink⟩, l_sights, l_notes⟩ : Life) c hs hc)
def refTell (l : Life) (c : List Int) : List PV := if givenS l c = 0 then (if canS l c = true then
    [(Sl.of ((narX l c).zipWith Box.mk (narY l c))).pv Box.cells 4, (Sl.of (narH l c)).pv Span.cells 2, (Sl.of ((lettersS l.sights.xs c).getD [])).pv strF 1, .int .i64 0]
    else [.nils, .nils, .nils, .int .i64 9]) else [.nils, .nils, .nils, .int .i64 (givenS l c)]
theorem sh14 : G.shared 14 = false := by decide
theorem e14 (n : Nat) (l : Life) (c : Sl Int) (hs : shortS l) (hc : c.xs.length < 1000) : callP G (n + 7) 14 [.agg l.cells, c.pv intF 1] = some (.agg (refTell l c.xs)) := by
  refine callP_of (ext_none _) rfl g14 rfl ?_
  by_cases hg : givenS l c.xs = 0
  · obtain ⟨hr, h1, h2⟩ := given_zero hg
    have h9 := hr.nine
    have hone := hr.one
    have hl8 : ∀ s ∈ l.sights.xs, s.letters.length ≤ 20 := fun s hs => by have := hr.sp hs; omega
    have hct : ∀ H, doCall (calleeOf G (n + 6)) H (.pure (.func 44 [])) [.pure (.agg l.cells), .pure (c.pv intF 1)] = some (.val (.pure (.bool (canS l c.xs)))) := fun H => d44 n H l.habit.step l.habit.place l.habit.sink l.sights l.notes c hr h1 h2
    have hcl : ∀ H, doCall (calleeOf G (n + 6)) H (.pure (.func 47 [])) [.pure (.agg l.cells), .pure (c.pv intF 1)] = some (.val (.pure (letPV (lettersS l.sights.xs c.xs)))) := fun H => d47 (n + 1) H l.habit.step l.habit.place l.habit.sink l.sights l.notes c h1 h9 hl8
    have hcs : ∀ H, doCall (calleeOf G (n + 6)) H (.pure (.func 46 [])) [.pure (.agg l.cells), .pure (c.pv intF 1)] = some (.val (.pure (.agg [(Sl.of (narX l c.xs)).pv Span.cells 2, (Sl.of (narY l c.xs)).pv Span.cells 2, (Sl.of (narH l c.xs)).pv Span.cells 2]))) := fun H => d46 (n + 3) H l.habit.step l.habit.place l.habit.sink l.sights l.notes c hr h1 h2
    simp only [Life.cells] at hct hcl hcs
    by_cases hcan : canS l c.xs = true
    · have hls : ∃ t, lettersS l.sights.xs c.xs = some t := by
        simp [canS] at hcan
        exact Option.isSome_iff_exists.1 hcan.2.1.1.1
      obtain ⟨t, ht⟩ := hls
      have hP : Hide (refTell l c.xs = [(Sl.of ((narX l c.xs).zipWith Box.mk (narY l c.xs))).pv Box.cells 4, (Sl.of (narH l c.xs)).pv Span.cells 2, (Sl.of t).pv strF 1, .int .i64 0]) := ⟨by rw [refTell, if_pos hg, if_pos hcan, ht]; rfl⟩
      obtain ⟨hxl, hyl, hzl⟩ := nar_len l c.xs
      generalize refTell l c.xs = P at *
      have hzip : ((narX l c.xs).zipWith Box.mk (narY l c.xs)).length = l.sights.xs.length := by simp [hxl, hyl]
      generalize narX l c.xs = X at *
      generalize narY l c.xs = Y at *
      generalize narH l c.xs = Z at *
      (repeat' first | simp [*, initEnv, c14, letPV] | (refine wpIf_two (fun _ h => ?_) (fun _ h => ?_) <;> try simp [-Nat.le_zero_eq] at h) | (apply wpE_appendV; (focus (first | assumption | (repeat' first | assumption | with_reducible apply GrowV.setNew | with_reducible apply GrowV.alloc | with_reducible apply GrowV.set | (with_reducible show ¬ Names _ _; simp [*]; done)))); (focus (exact fun _ => rfl)); (focus decide); (focus (intro a; first | rfl | simp)); (focus (simp [maxCells] <;> omega))) | (refine after_intro fun v2 H2 hv2 hnx2 hget2 hnew2 hone2 hcel2 => ?_))
      refine wp_loopF [(9, 9), (36, 58)] (fun (s : Nat × AV) env H => env 9 = .pure (.int .i64 s.1) ∧ s.1 ≤ l.sights.xs.length ∧ H.get 0 = .cells true [.pure .nils, .pure .nils, .pure .nils, .pure (.int .i64 0)] ∧
        H.get 1 = .cells true [.pure ((Sl.of X).pv Span.cells 2), .pure ((Sl.of Y).pv Span.cells 2), .pure ((Sl.of Z).pv Span.cells 2)] ∧
        H.get 2 = .cells true [s.2, .pure ((Sl.of Z).pv Span.cells 2), .pure ((Sl.of t).pv strF 1), .pure (.int .i64 0)] ∧
        GrowV Box.cells 4 H s.2 ((X.zipWith Box.mk Y).take s.1) ∧ ¬ Names s.2 0 ∧ ¬ Names s.2 1 ∧ ¬ Names s.2 2) (fun s => l.sights.xs.length - s.1) (0, .pure .nils) ?_ ?_ ?_ ?_
      · decide
      · have hno : ∀ id, ¬ Names (.pure .nils) id := fun id ⟨_, _, _, h⟩ => by simp at h
        simp [*, GrowV.nil]
      · simp only [loopFuel]; omega
      rintro ⟨j, va⟩ env2 H2 ⟨h9', hj, hg0, hg1, hg2, hva, hn0, hn1, hn2⟩
      simp only at h9' hj hg2 hva hn0 hn1 hn2
      have hfit2 : j < 9223372036854775807 := by omega
      have i2 := nx_of_get hg2
      have i1 : 1 < H2.nx := by omega
      have i0 : 0 < H2.nx := by omega
      have j0 : ¬ (0 = H2.nx) := by omega
      have j1 : ¬ (1 = H2.nx) := by omega
      have j2 : ¬ (2 = H2.nx) := by omega
      have k0 : 0 < H2.nx + 1 := by omega
      have k1 : 1 < H2.nx + 1 := by omega
      have k2 : 2 < H2.nx + 1 := by omega
      have hfa := hva.1.fresh
      have hjy : j < l.sights.xs.length → j < Y.length := fun h => by omega
      have hon1 := hva.1.one
      clear hct hcl hcs
      (repeat' first | simp [*, initEnv] | (refine wpIf_two (fun _ h => ?_) (fun _ h => ?_) <;> try simp [-Nat.le_zero_eq] at h) | (apply wpE_appendV; (focus (first | assumption | (repeat' first | assumption | with_reducible apply GrowV.setNew | with_reducible apply GrowV.alloc | with_reducible apply GrowV.set | (with_reducible show ¬ Names _ _; simp [*]; done)))); (focus (exact fun _ => rfl)); (focus decide); (focus (intro a; first | rfl | simp)); (focus (simp [maxCells] <;> omega))) | (refine after_intro fun v2 H2 hv2 hnx2 hget2 hnew2 hone2 hcel2 => ?_))
      · have hlt : j < l.sights.xs.length := by assumption
        have hgB : H2.get 2 = .cells true [va, .pure ((Sl.of Z).pv Span.cells 2), .pure ((Sl.of t).pv strF 1), .pure (.int .i64 0)] := by
          rw [hget2 2 (by simp <;> omega) hn2, get_alloc_lt i2]; exact hg2
        have hg0' : H2.get 0 = .cells true [.pure .nils, .pure .nils, .pure .nils, .pure (.int .i64 0)] := by
          rw [hget2 0 (by simp <;> omega) hn0, get_alloc_lt i0]; exact hg0
        have hg1' : H2.get 1 = .cells true [.pure ((Sl.of X).pv Span.cells 2), .pure ((Sl.of Y).pv Span.cells 2), .pure ((Sl.of Z).pv Span.cells 2)] := by
          rw [hget2 1 (by simp <;> omega) hn1, get_alloc_lt i1]; exact hg1
        have m0 : ¬ Names v2 0 := fun h => by have := hnew2 _ h; simp at this <;> omega
        have m1 : ¬ Names v2 1 := fun h => by have := hnew2 _ h; simp at this <;> omega
        have m2 : ¬ Names v2 2 := fun h => by have := hnew2 _ h; simp at this <;> omega
        refine ⟨j + 1, by omega, by simp, by omega, v2, ?_⟩
        have hG : GrowV Box.cells 4 (H2.set 2 (.cells true [v2, .pure ((Sl.of Z).pv Span.cells 2), .pure ((Sl.of t).pv strF 1), .pure (.int .i64 0)])) v2 ((X.zipWith Box.mk Y).take (j + 1)) := (hv2.set m2 _).cast (by rw [← take_succ' (by omega)]; simp)
        and_intros
        all_goals first
          | exact get_set_own (nx_of_get hgB)
          | assumption
          | (rw [get_set_ne (by decide)]; assumption)
          | exact hG.1
          | exact hG.2
      · have hje : j = l.sights.xs.length := by omega
        rw [hje, List.take_of_length_le (by omega)] at hva
        rw [hP.h]
        exact FrzK.aggV (n := 11) (.cons ((hva.set hn0 _).res (fun _ => rfl)) (.cons (.pure _) (.cons (.pure _) (.cons (.pure _) .nil))))
    · have hcan' : canS l c.xs = false := by simpa using hcan
      have hP : refTell l c.xs = [.nils, .nils, .nils, .int .i64 9] := by rw [refTell, if_pos hg, if_neg hcan]
      (repeat' first | simp [*, initEnv, c14] | (refine wpIf_two (fun _ h => ?_) (fun _ h => ?_) <;> try simp [-Nat.le_zero_eq] at h) | (apply wpE_appendV; (focus (first | assumption | (repeat' first | assumption | with_reducible apply GrowV.setNew | with_reducible apply GrowV.alloc | with_reducible apply GrowV.set | (with_reducible show ¬ Names _ _; simp [*]; done)))); (focus (exact fun _ => rfl)); (focus decide); (focus (intro a; first | rfl | simp)); (focus (simp [maxCells] <;> omega))) | (refine after_intro fun v2 H2 hv2 hnx2 hget2 hnew2 hone2 hcel2 => ?_))
  · have hP : refTell l c.xs = [.nils, .nils, .nils, .int .i64 (givenS l c.xs)] := by rw [refTell, if_neg hg]
    (repeat' first | simp [*, initEnv, c14] | (refine wpIf_two (fun _ h => ?_) (fun _ h => ?_) <;> try simp [-Nat.le_zero_eq] at h) | (apply wpE_appendV; (focus (first | assumption | (repeat' first | assumption | with_reducible apply GrowV.setNew | with_reducible apply GrowV.alloc | with_reducible apply GrowV.set | (with_reducible show ¬ Names _ _; simp [*]; done)))); (focus (exact fun _ => rfl)); (focus decide); (focus (intro a; first | rfl | simp)); (focus (simp [maxCells] <;> omega))) | (refine after_intro fun v2 H2 hv2 hnx2 hget2 hnew2 hone2 hcel2 => ?_))
@[simp] theorem d14 (n : Nat) (H : Heap) (l_habit_step : Int) (l_habit_place : Int) (l_habit_sink : Int) (l_sights : Sl Sight) (l_notes : Sl Note) (c : Sl Int) (hs : (fun (l : Life) => shortS l) (⟨⟨l_habit_step, l_habit_place, l_habit_sink⟩, l_sights, l_notes⟩ : Life)) (hc : c.xs.length < 1000) : doCall (calleeOf G (n + 7)) H (.pure (.func 14 [])) [.pure (.agg [.int .i64 l_habit_step, .int .i64 l_habit_place, .int .i64 l_habit_sink, (l_sights).pv Sight.cells 9, (l_notes).pv Note.cells 4]), .pure (c.pv intF 1)] = some (.val (.pure ((fun (l : Life) => .agg (refTell l c.xs)) (⟨⟨l_habit_step, l_habit_place, l_habit_sink⟩, l_sights, l_notes⟩ : Life)))) :=
  call_pureC (ps := [_, _]) (caps := []) sh14 (e14 n (⟨⟨l_habit_step, l_habit_place, l_habit_sink⟩, l_sights, l_notes⟩ : Life) c hs hc)
end Go.Proofs.YtjjkgamklbgnlaaGreat.Vm
