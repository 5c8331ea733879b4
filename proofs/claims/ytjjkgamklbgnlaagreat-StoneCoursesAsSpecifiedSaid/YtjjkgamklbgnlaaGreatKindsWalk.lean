/- What Kinds and Courses compute: the program's, and the specification's. -/
import Derived.Test.YtjjkgamklbgnlaaGreatCountWalk
namespace Go.Proofs.YtjjkgamklbgnlaaGreat.Vm
open Go
set_option linter.unusedSimpArgs false
set_option linter.unusedVariables false
set_option maxHeartbeats 4000000

/-! ### How many courses there are, by their changes -/
def addAt (out : List Int) (i : Nat) : List Int := out.set i (out[i]! + 1)
def byTo (p : List Int → Bool) (m : Nat) : Nat → List Int
  | 0 => List.replicate (m + 1) 0
  | j + 1 => if p (toC m j) = true then addAt (byTo p m j) (chg (toC m j)) else byTo p m j
theorem byTo_length (p : List Int → Bool) (m : Nat) : ∀ j, (byTo p m j).length = m + 1
  | 0 => by simp [byTo]
  | j + 1 => by
    rw [byTo]
    split
    · rw [addAt, List.length_set, byTo_length p m j]
    · exact byTo_length p m j
theorem byTo_le (p : List Int → Bool) (m : Nat) : ∀ j, ∀ a ∈ byTo p m j, 0 ≤ a ∧ a ≤ j
  | 0 => by
    intro a ha
    simp [byTo] at ha
    omega
  | j + 1 => by
    have ih := byTo_le p m j
    intro a ha
    rw [byTo] at ha
    split at ha
    · rcases List.mem_or_eq_of_mem_set ha with ha | rfl
      · have := ih a ha; omega
      · have hl := byTo_length p m j
        have hc := chg_le (toC m j)
        rw [toC_length] at hc
        have := ih ((byTo p m j)[chg (toC m j)]!) (by rw [getElem!_pos _ _ (by omega)]; exact List.getElem_mem _)
        omega
    · have := ih a ha; omega
theorem pow_le_of {m : Nat} (h : m ≤ 8) : 3 ^ m ≤ 6561 := by
  have : 3 ^ m ≤ 3 ^ 8 := Nat.pow_le_pow_right (by decide) h
  exact this
def fitP (l : Life) (c : List Int) : Bool := (tellS l c).isSome

theorem sh55 : G.shared 55 = false := by decide
theorem e55 (n : Nat) (l : Life) : callP G (n + 1) 55 [.agg l.cells] = some (.func 97 [.ptr false l.cells 0]) := by
  refine callP_of (ext_none _) rfl g55 rfl ?_
  (repeat' first | simp [*, initEnv, c55] | (refine wpIf_two (fun _ h => ?_) (fun _ h => ?_) <;> try simp [-Nat.le_zero_eq] at h) | (apply wpE_appendV; (focus (first | assumption | (repeat' first | assumption | with_reducible apply GrowV.setNew | with_reducible apply GrowV.alloc | with_reducible apply GrowV.set | (with_reducible show ¬ Names _ _; simp [*]; done)))); (focus (exact fun _ => rfl)); (focus decide); (focus (intro a; first | rfl | simp)); (focus (simp [maxCells] <;> omega))) | (refine after_intro fun v2 H2 hv2 hnx2 hget2 hnew2 hone2 hcel2 => ?_))
@[simp] theorem d55 (n : Nat) (H : Heap) (l_habit_step : Int) (l_habit_place : Int) (l_habit_sink : Int) (l_sights : Sl Sight) (l_notes : Sl Note) : doCall (calleeOf G (n + 1)) H (.pure (.func 55 [])) [.pure (.agg [.int .i64 l_habit_step, .int .i64 l_habit_place, .int .i64 l_habit_sink, (l_sights).pv Sight.cells 9, (l_notes).pv Note.cells 4])] = some (.val (.pure ((fun (l : Life) => .func 97 [.ptr false l.cells 0]) (⟨⟨l_habit_step, l_habit_place, l_habit_sink⟩, l_sights, l_notes⟩ : Life)))) :=
  call_pureC (ps := [_]) (caps := []) sh55 (e55 n (⟨⟨l_habit_step, l_habit_place, l_habit_sink⟩, l_sights, l_notes⟩ : Life))
theorem sh22 : G.shared 22 = false := by decide
theorem e22 (n : Nat) (l : Life) (hs : shortS l) : callP G (n + 10) 22 [.agg l.cells] = some ((if checkS l = 0 then .tup [(Sl.mk false (byTo (fitP l) (l.sights.xs.length - 1) (3 ^ (l.sights.xs.length - 1)))).pv intF 1, .int .i64 0] else .tup [.nils, .int .i64 (checkS l)])) := by
  refine callP_of (ext_none _) rfl g22 rfl ?_
  have hcc : ∀ H, doCall (calleeOf G (n + 9)) H (.pure (.func 15 [])) [.pure (.agg l.cells)] = some (.val (.pure (.int .i64 (checkS l)))) := fun H => d15 (n + 4) H l.habit.step l.habit.place l.habit.sink l.sights l.notes hs
  simp only [Life.cells] at hcc
  by_cases hck : checkS l = 0
  · have hr := (right_iff l).1 hck
    have h1 := hr.one
    have h9 := hr.nine
    have hm1 : l.sights.xs.length * 8 ≤ maxCells := by unfold maxCells; omega
    have hm2 : l.sights.xs.length ≤ maxCells := by unfold maxCells; omega
    (repeat' first | simp [*, initEnv, c22] | (refine wpIf_two (fun _ h => ?_) (fun _ h => ?_) <;> try simp [-Nat.le_zero_eq] at h) | (apply wpE_appendV; (focus (first | assumption | (repeat' first | assumption | with_reducible apply GrowV.setNew | with_reducible apply GrowV.alloc | with_reducible apply GrowV.set | (with_reducible show ¬ Names _ _; simp [*]; done)))); (focus (exact fun _ => rfl)); (focus decide); (focus (intro a; first | rfl | simp)); (focus (simp [maxCells] <;> omega))) | (refine after_intro fun v2 H2 hv2 hnx2 hget2 hnew2 hone2 hcel2 => ?_))
    refine wp_courses (n := n) (l := l) hr (by simp) rfl (fun idc j H1 => 2 < idc ∧ H1.get 0 = .cells true (rowOf intF (byTo (fitP l) (l.sights.xs.length - 1) j)) ∧ H1.get 1 = .cells true [.row 0 1 0 l.sights.xs.length]) ?_ ?_ ?_ ?_ ?_
    · rintro idc j H1 H2 ⟨hi, g0, g1⟩ hnx hsame
      have := nx_of_get g1
      refine ⟨hi, by rw [hsame 0 (by omega) (by omega) (by simp)]; exact g0, by rw [hsame 1 (by omega) (by omega) (by simp)]; exact g1⟩
    · intro idc hi
      have e : l.sights.xs.length - 1 + 1 = l.sights.xs.length := by omega
      refine ⟨by simpa using hi, ?_, by simp⟩
      simp [byTo, rowOf_zeros, e]
    · rintro idc j H1 hj ht ⟨hi, g0, g1⟩
      refine ⟨hi, ?_, g1⟩
      rw [byTo, if_neg (by simp [fitP, ht])]; exact g0
    · intro idc j t H1 hj ht hi hlt
      (repeat' first | simp [*, initEnv] | (refine wpIf_two (fun _ h => ?_) (fun _ h => ?_) <;> try simp [-Nat.le_zero_eq] at h) | (apply wpE_appendV; (focus (first | assumption | (repeat' first | assumption | with_reducible apply GrowV.setNew | with_reducible apply GrowV.alloc | with_reducible apply GrowV.set | (with_reducible show ¬ Names _ _; simp [*]; done)))); (focus (exact fun _ => rfl)); (focus decide); (focus (intro a; first | rfl | simp)); (focus (simp [maxCells] <;> omega))) | (refine after_intro fun v2 H2 hv2 hnx2 hget2 hnew2 hone2 hcel2 => ?_))
      rintro Hb hi2 g0 g1 gc hnx
      have hcl := toC_length (l.sights.xs.length - 1) j
      obtain ⟨s, hs1, hs2⟩ := row_sl (f := intF) (sz := 1) (n := 10) (fun _ => rfl) gc hcl
      have hch : callP G (n + 7) 58 [s.pv intF 1] = some (.int .i64 (chg (toC (l.sights.xs.length - 1) j))) := by
        have := e58 (n + 6) s (by rw [hs1, hcl]; omega)
        rw [hs1] at this; exact this
      have hlen := byTo_length (fitP l) (l.sights.xs.length - 1) j
      have hle := chg_le (toC (l.sights.xs.length - 1) j)
      rw [hcl] at hle
      have hj3 := pow_le_of (m := l.sights.xs.length - 1) (by omega)
      have hbd := byTo_le (fitP l) (l.sights.xs.length - 1) j
      have hst : Hide (byTo (fitP l) (l.sights.xs.length - 1) (j + 1) = addAt (byTo (fitP l) (l.sights.xs.length - 1) j) (chg (toC (l.sights.xs.length - 1) j))) := ⟨by rw [byTo, if_pos (by simp [fitP, ht])]⟩
      have hk1 : chg (toC (l.sights.xs.length - 1) j) < l.sights.xs.length := by omega
      generalize hB : byTo (fitP l) (l.sights.xs.length - 1) j = B at *
      generalize hK : chg (toC (l.sights.xs.length - 1) j) = K at *
      have hk2 : K < B.length := by omega
      have hbk := hbd B[K] (List.getElem_mem _)
      have hwr : IntKind.i64.wrap (B[K] + 1) = B[K] + 1 := wrap64 (by omega) (by omega)
      have hn0 : 0 < Hb.nx := by omega
      have hi0 : ¬ (idc = 0) := by omega
      clear hcc hlen hbd hB hK
      (repeat' first | simp [*, initEnv] | (refine wpIf_two (fun _ h => ?_) (fun _ h => ?_) <;> try simp [-Nat.le_zero_eq] at h) | (apply wpE_appendV; (focus (first | assumption | (repeat' first | assumption | with_reducible apply GrowV.setNew | with_reducible apply GrowV.alloc | with_reducible apply GrowV.set | (with_reducible show ¬ Names _ _; simp [*]; done)))); (focus (exact fun _ => rfl)); (focus decide); (focus (intro a; first | rfl | simp)); (focus (simp [maxCells] <;> omega))) | (refine after_intro fun v2 H2 hv2 hnx2 hget2 hnew2 hone2 hcel2 => ?_))
      refine wpE_own (caps := []) (by decide) (.cons hs2 .nil) hch rfl ?_
      (repeat' first | simp [*, initEnv] | (refine wpIf_two (fun _ h => ?_) (fun _ h => ?_) <;> try simp [-Nat.le_zero_eq] at h) | (apply wpE_appendV; (focus (first | assumption | (repeat' first | assumption | with_reducible apply GrowV.setNew | with_reducible apply GrowV.alloc | with_reducible apply GrowV.set | (with_reducible show ¬ Names _ _; simp [*]; done)))); (focus (exact fun _ => rfl)); (focus decide); (focus (intro a; first | rfl | simp)); (focus (simp [maxCells] <;> omega))) | (refine after_intro fun v2 H2 hv2 hnx2 hget2 hnew2 hone2 hcel2 => ?_))
      rw [hst.h, addAt, getElem!_pos B K hk2]
    · rintro idc H' ⟨hi, g0, g1⟩
      have hlen := byTo_length (fitP l) (l.sights.xs.length - 1) (3 ^ (l.sights.xs.length - 1))
      have e : l.sights.xs.length - 1 + 1 = l.sights.xs.length := by omega
      rw [e] at hlen
      obtain ⟨ids, hids⟩ := row_res (f := intF) (sz := 1) (n := 9) (fun _ => rfl) g0 hlen
      (repeat' first | simp [*, initEnv] | (refine wpIf_two (fun _ h => ?_) (fun _ h => ?_) <;> try simp [-Nat.le_zero_eq] at h) | (apply wpE_appendV; (focus (first | assumption | (repeat' first | assumption | with_reducible apply GrowV.setNew | with_reducible apply GrowV.alloc | with_reducible apply GrowV.set | (with_reducible show ¬ Names _ _; simp [*]; done)))); (focus (exact fun _ => rfl)); (focus decide); (focus (intro a; first | rfl | simp)); (focus (simp [maxCells] <;> omega))) | (refine after_intro fun v2 H2 hv2 hnx2 hget2 hnew2 hone2 hcel2 => ?_))
  · (repeat' first | simp [*, initEnv, c22] | (refine wpIf_two (fun _ h => ?_) (fun _ h => ?_) <;> try simp [-Nat.le_zero_eq] at h) | (apply wpE_appendV; (focus (first | assumption | (repeat' first | assumption | with_reducible apply GrowV.setNew | with_reducible apply GrowV.alloc | with_reducible apply GrowV.set | (with_reducible show ¬ Names _ _; simp [*]; done)))); (focus (exact fun _ => rfl)); (focus decide); (focus (intro a; first | rfl | simp)); (focus (simp [maxCells] <;> omega))) | (refine after_intro fun v2 H2 hv2 hnx2 hget2 hnew2 hone2 hcel2 => ?_))
@[simp] theorem d22 (n : Nat) (H : Heap) (l_habit_step : Int) (l_habit_place : Int) (l_habit_sink : Int) (l_sights : Sl Sight) (l_notes : Sl Note) (hs : (fun (l : Life) => shortS l) (⟨⟨l_habit_step, l_habit_place, l_habit_sink⟩, l_sights, l_notes⟩ : Life)) : doCall (calleeOf G (n + 10)) H (.pure (.func 22 [])) [.pure (.agg [.int .i64 l_habit_step, .int .i64 l_habit_place, .int .i64 l_habit_sink, (l_sights).pv Sight.cells 9, (l_notes).pv Note.cells 4])] = some (.val (.pure ((fun (l : Life) => (if checkS l = 0 then .tup [(Sl.mk false (byTo (fitP l) (l.sights.xs.length - 1) (3 ^ (l.sights.xs.length - 1)))).pv intF 1, .int .i64 0] else .tup [.nils, .int .i64 (checkS l)])) (⟨⟨l_habit_step, l_habit_place, l_habit_sink⟩, l_sights, l_notes⟩ : Life)))) :=
  call_pureC (ps := [_]) (caps := []) sh22 (e22 n (⟨⟨l_habit_step, l_habit_place, l_habit_sink⟩, l_sights, l_notes⟩ : Life) hs)

theorem sh23 : G.shared 23 = false := by decide
theorem e23 (n : Nat) (l : Life) (hs : shortS l) : callP G (n + 8) 23 [.agg l.cells] = some (.agg (if checkS l = 0 then [(Sl.mk false (byTo (canS l) (l.sights.xs.length - 1) (3 ^ (l.sights.xs.length - 1)))).pv intF 1, .int .i64 0] else [.nils, .int .i64 (checkS l)])) := by
  refine callP_of (ext_none _) rfl g23 rfl ?_
  have hcc : ∀ H, doCall (calleeOf G (n + 7)) H (.pure (.func 16 [])) [.pure (.agg l.cells)] = some (.val (.pure (.int .i64 (checkS l)))) := fun H => d16 (n + 2) H l.habit.step l.habit.place l.habit.sink l.sights l.notes hs
  simp only [Life.cells] at hcc
  by_cases hck : checkS l = 0
  · have hr := (right_iff l).1 hck
    have h1 := hr.one
    have h9 := hr.nine
    have hm1 : l.sights.xs.length * 8 ≤ maxCells := by unfold maxCells; omega
    have hm2 : l.sights.xs.length ≤ maxCells := by unfold maxCells; omega
    have hcan : ∀ H (j : Nat), doCall (calleeOf G (n + 7)) H (.pure (.func 44 [])) [.pure (.agg l.cells), .pure ((Sl.of (toC (l.sights.xs.length - 1) j)).pv intF 1)] = some (.val (.pure (.bool (canS l (toC (l.sights.xs.length - 1) j))))) := fun H j => by
      have := d44 (n + 1) H l.habit.step l.habit.place l.habit.sink l.sights l.notes (Sl.of (toC (l.sights.xs.length - 1) j)) hr (by rw [Sl.xs_of, toC_length]; show l.sights.xs.length - 1 + 1 = l.sights.xs.length; omega) (by rw [Sl.xs_of]; exact toC_kinds _ _)
      rw [Sl.xs_of] at this
      exact this
    simp only [Life.cells] at hcan
    have hj3 := pow_le_of (m := l.sights.xs.length - 1) (by omega)
    obtain ⟨N, hN0⟩ : ∃ N, N = 3 ^ (l.sights.xs.length - 1) := ⟨_, rfl⟩
    have hcnt : ∀ H, doCall (calleeOf G (n + 7)) H (.pure (.func 56 [])) [.pure (.agg l.cells)] = some (.val (.pure (.int .i64 (N : Nat)))) := fun H => d56 (n + 6) H l.habit.step l.habit.place l.habit.sink l.sights l.notes N hN0 h1 h9
    simp only [Life.cells] at hcnt
    rw [← hN0] at hj3 ⊢
    have hN : Hide _ := ⟨hN0⟩
    clear hN0
    have hlen3 : ∀ j, (toC (l.sights.xs.length - 1) j).length < 1000 := fun j => by rw [toC_length]; omega
    (repeat' first | simp [*, initEnv, c23] | (refine wpIf_two (fun _ h => ?_) (fun _ h => ?_) <;> try simp [-Nat.le_zero_eq] at h) | (apply wpE_appendV; (focus (first | assumption | (repeat' first | assumption | with_reducible apply GrowV.setNew | with_reducible apply GrowV.alloc | with_reducible apply GrowV.set | (with_reducible show ¬ Names _ _; simp [*]; done)))); (focus (exact fun _ => rfl)); (focus decide); (focus (intro a; first | rfl | simp)); (focus (simp [maxCells] <;> omega))) | (refine after_intro fun v2 H2 hv2 hnx2 hget2 hnew2 hone2 hcel2 => ?_))
    refine wp_loopF [(5, 7), (18, 40)] (fun (j : Nat) env H1 => env 5 = .pure (.int .i64 j) ∧ j ≤ N ∧ H1.get 0 = .cells true [.pure .nils, .pure (.int .i64 0)] ∧ H1.get 1 = .cells true (rowOf intF (byTo (canS l) (l.sights.xs.length - 1) j))) (fun j => N - j) 0 ?_ ?_ ?_ ?_
    · decide
    · have e : l.sights.xs.length - 1 + 1 = l.sights.xs.length := by omega
      refine ⟨by simp, Nat.zero_le _, by simp, ?_⟩
      simp [byTo, rowOf_zeros, e]
    · simp only [loopFuel]; omega
    rintro j env H1 ⟨h5, hj, g0, g1⟩
    have hfit : j < 9223372036854775807 := by omega
    have hj9 : j < 100000 := by omega
    have hlen := byTo_length (canS l) (l.sights.xs.length - 1) j
    have hle := chg_le (toC (l.sights.xs.length - 1) j)
    rw [toC_length] at hle
    have hbd := byTo_le (canS l) (l.sights.xs.length - 1) j
    have hst : Hide (byTo (canS l) (l.sights.xs.length - 1) (j + 1) = if canS l (toC (l.sights.xs.length - 1) j) = true then addAt (byTo (canS l) (l.sights.xs.length - 1) j) (chg (toC (l.sights.xs.length - 1) j)) else byTo (canS l) (l.sights.xs.length - 1) j) := ⟨by rw [byTo]⟩
    have hk1 : chg (toC (l.sights.xs.length - 1) j) < l.sights.xs.length := by omega
    obtain ⟨B, hB⟩ : ∃ B, B = byTo (canS l) (l.sights.xs.length - 1) j := ⟨_, rfl⟩
    rw [← hB] at g1 hlen hbd hst
    have hk2 : chg (toC (l.sights.xs.length - 1) j) < B.length := by omega
    have hbk := hbd B[chg (toC (l.sights.xs.length - 1) j)] (List.getElem_mem _)
    have hwr : IntKind.i64.wrap (B[chg (toC (l.sights.xs.length - 1) j)] + 1) = B[chg (toC (l.sights.xs.length - 1) j)] + 1 := wrap64 (by omega) (by omega)
    have hn0 := nx_of_get g1
    have hB' : Hide _ := ⟨hB⟩
    have e : l.sights.xs.length - 1 + 1 = l.sights.xs.length := by omega
    rw [e] at hlen
    have g1' : (H1.set 0 (.cells true [.row 1 1 0 l.sights.xs.length, .pure (.int .i64 0)])).get 1 = .cells true (rowOf intF B) := by rw [get_set_ne (by decide)]; exact g1
    have fa : FrzK (H1.set 0 (.cells true [.row 1 1 0 l.sights.xs.length, .pure (.int .i64 0)])) false depthF (aggV [.row 1 1 0 l.sights.xs.length, .pure (.int .i64 0)]) (.agg [(Sl.mk false B).pv intF 1, .int .i64 0]) :=
      FrzK.aggV (n := 11) (.cons (row_res (f := intF) (sz := 1) (n := 9) (fun _ => rfl) g1' hlen) (.cons (.pure _) .nil))
    clear hlen hbd hB hle e
    (repeat' first | simp [*, initEnv] | (refine wpIf_two (fun _ h => ?_) (fun _ h => ?_) <;> try simp [-Nat.le_zero_eq] at h) | (apply wpE_appendV; (focus (first | assumption | (repeat' first | assumption | with_reducible apply GrowV.setNew | with_reducible apply GrowV.alloc | with_reducible apply GrowV.set | (with_reducible show ¬ Names _ _; simp [*]; done)))); (focus (exact fun _ => rfl)); (focus decide); (focus (intro a; first | rfl | simp)); (focus (simp [maxCells] <;> omega))) | (refine after_intro fun v2 H2 hv2 hnx2 hget2 hnew2 hone2 hcel2 => ?_))
    · refine ⟨j + 1, by omega, by simp, by omega, ?_⟩
      rw [hst.h, if_pos (by assumption), addAt, getElem!_pos B _ hk2]
    · refine ⟨j + 1, by omega, by simp, by omega, ?_⟩
      rw [hst.h, if_neg (by simp [*])]
    · have hje : j = N := by omega
      have := hB'.h
      rw [hje] at this
      rw [← this, get_set_own (nx_of_get g0)]
      exact ⟨_, rfl, fa⟩
  · (repeat' first | simp [*, initEnv, c23] | (refine wpIf_two (fun _ h => ?_) (fun _ h => ?_) <;> try simp [-Nat.le_zero_eq] at h) | (apply wpE_appendV; (focus (first | assumption | (repeat' first | assumption | with_reducible apply GrowV.setNew | with_reducible apply GrowV.alloc | with_reducible apply GrowV.set | (with_reducible show ¬ Names _ _; simp [*]; done)))); (focus (exact fun _ => rfl)); (focus decide); (focus (intro a; first | rfl | simp)); (focus (simp [maxCells] <;> omega))) | (refine after_intro fun v2 H2 hv2 hnx2 hget2 hnew2 hone2 hcel2 => ?_))
@[simp] theorem d23 (n : Nat) (H : Heap) (l_habit_step : Int) (l_habit_place : Int) (l_habit_sink : Int) (l_sights : Sl Sight) (l_notes : Sl Note) (hs : (fun (l : Life) => shortS l) (⟨⟨l_habit_step, l_habit_place, l_habit_sink⟩, l_sights, l_notes⟩ : Life)) : doCall (calleeOf G (n + 8)) H (.pure (.func 23 [])) [.pure (.agg [.int .i64 l_habit_step, .int .i64 l_habit_place, .int .i64 l_habit_sink, (l_sights).pv Sight.cells 9, (l_notes).pv Note.cells 4])] = some (.val (.pure ((fun (l : Life) => .agg (if checkS l = 0 then [(Sl.mk false (byTo (canS l) (l.sights.xs.length - 1) (3 ^ (l.sights.xs.length - 1)))).pv intF 1, .int .i64 0] else [.nils, .int .i64 (checkS l)])) (⟨⟨l_habit_step, l_habit_place, l_habit_sink⟩, l_sights, l_notes⟩ : Life)))) :=
  call_pureC (ps := [_]) (caps := []) sh23 (e23 n (⟨⟨l_habit_step, l_habit_place, l_habit_sink⟩, l_sights, l_notes⟩ : Life) hs)

/-! ### Which kinds each gap can have -/
def bitOf (k : Int) : Int := if k = 2 then 4 else if k = 1 then 2 else 1
def addBit (a k : Int) : Int := if (a.tdiv (bitOf k)).tmod 2 = 0 then a + bitOf k else a
def kindsTo (p : List Int → Bool) (m : Nat) : Nat → List Int × Bool
  | 0 => (List.replicate m 0, false)
  | j + 1 => if p (toC m j) = true then ((kindsTo p m j).1.zipWith addBit (toC m j), true) else kindsTo p m j
theorem kindsTo_length (p : List Int → Bool) (m : Nat) : ∀ j, (kindsTo p m j).1.length = m
  | 0 => by simp [kindsTo]
  | j + 1 => by
    rw [kindsTo]
    split
    · simp [kindsTo_length p m j, toC_length]
    · exact kindsTo_length p m j
theorem bit_cases {a k : Int} (ha : 0 ≤ a ∧ a ≤ 7) (hk : 0 ≤ k ∧ k ≤ 2) : (0 ≤ addBit a k ∧ addBit a k ≤ 7) ∧ vbin .shl .num (.pure (.int .i64 1)) (.pure (.int .i64 k)) = some (.pure (.int .i64 (bitOf k))) ∧ vbin .or .num (.pure (.int .i64 a)) (.pure (.int .i64 (bitOf k))) = some (.pure (.int .i64 (addBit a k))) ∧
    IntKind.i64.wrap (a.tdiv (bitOf k)) = a.tdiv (bitOf k) ∧ IntKind.i64.wrap (a + bitOf k) = a + bitOf k := by
  have h1 : a = 0 ∨ a = 1 ∨ a = 2 ∨ a = 3 ∨ a = 4 ∨ a = 5 ∨ a = 6 ∨ a = 7 := by omega
  have h2 : k = 0 ∨ k = 1 ∨ k = 2 := by omega
  rcases h1 with rfl | rfl | rfl | rfl | rfl | rfl | rfl | rfl <;> rcases h2 with rfl | rfl | rfl <;> exact ⟨⟨by decide, by decide⟩, rfl, rfl, rfl, rfl⟩
theorem kindsTo_le (p : List Int → Bool) (m : Nat) : ∀ j, ∀ a ∈ (kindsTo p m j).1, 0 ≤ a ∧ a ≤ 7
  | 0 => by
    intro a ha
    simp [kindsTo] at ha
    omega
  | j + 1 => by
    have ih := kindsTo_le p m j
    intro a ha
    rw [kindsTo] at ha
    split at ha
    · obtain ⟨i, hi, rfl⟩ := List.getElem_of_mem ha
      simp at hi ⊢
      exact (bit_cases (ih _ (List.getElem_mem _)) (toC_kinds m j _ (List.getElem_mem (by omega)))).1
    · exact ih a ha

def mixT (Z B : List Int) (i : Nat) : List Int := Z.take i ++ B.drop i
theorem mixT_length {Z B : List Int} {i : Nat} (h : Z.length = B.length) (hi : i ≤ B.length) : (mixT Z B i).length = B.length := by simp [mixT]; omega
theorem mixT_get {Z B : List Int} {i : Nat} (h : Z.length = B.length) (hi : i < B.length) (h' : i < (mixT Z B i).length) : (mixT Z B i)[i] = B[i] := by
  simp only [mixT]
  rw [List.getElem_append_right (by simp; omega)]
  simp [Nat.min_eq_left (show i ≤ Z.length by omega)]
theorem mixT_set {Z B : List Int} {i : Nat} (h : Z.length = B.length) (hi : i < B.length) : (mixT Z B i).set i (Z[i]'(by omega)) = mixT Z B (i + 1) := by
  have hl : (Z.take i).length = i := by simp; omega
  simp only [mixT]
  rw [List.set_append_right _ _ (by omega), hl, Nat.sub_self, List.drop_eq_getElem_cons hi, List.set_cons_zero, ← take_succ' (by omega), List.append_assoc]
  rfl
theorem mixT_end {Z B : List Int} {i : Nat} (h : Z.length = B.length) (hi : i = B.length) : mixT Z B i = Z := by
  simp only [mixT]
  rw [List.take_of_length_le (by omega), List.drop_eq_nil_of_le (by omega), List.append_nil]

theorem sh20 : G.shared 20 = false := by decide
theorem e20 (n : Nat) (l : Life) (hs : shortS l) : callP G (n + 10) 20 [.agg l.cells] = some ((if checkS l = 0 then (if (kindsTo (fitP l) (l.sights.xs.length - 1) (3 ^ (l.sights.xs.length - 1))).2 = true then .tup [(Sl.mk false (kindsTo (fitP l) (l.sights.xs.length - 1) (3 ^ (l.sights.xs.length - 1))).1).pv intF 1, .int .i64 0] else .tup [.nils, .int .i64 9]) else .tup [.nils, .int .i64 (checkS l)])) := by
  refine callP_of (ext_none _) rfl g20 rfl ?_
  have hcc : ∀ H, doCall (calleeOf G (n + 9)) H (.pure (.func 15 [])) [.pure (.agg l.cells)] = some (.val (.pure (.int .i64 (checkS l)))) := fun H => d15 (n + 4) H l.habit.step l.habit.place l.habit.sink l.sights l.notes hs
  simp only [Life.cells] at hcc
  by_cases hck : checkS l = 0
  · have hr := (right_iff l).1 hck
    have h1 := hr.one
    have h9 := hr.nine
    have hw : IntKind.i64.wrap ((l.sights.xs.length : Int) - 1) = ((l.sights.xs.length - 1 : Nat) : Int) := wrap_pred (by omega) (by omega)
    obtain ⟨m, hm0⟩ : ∃ m, m = l.sights.xs.length - 1 := ⟨_, rfl⟩
    rw [← hm0] at hw ⊢
    have hm1 : m * 8 ≤ maxCells := by unfold maxCells; omega
    have hm2 : m ≤ maxCells := by unfold maxCells; omega
    have hm8 : m ≤ 8 := by omega
    have hm : Hide _ := ⟨hm0⟩
    clear hm0
    (repeat' first | simp [*, initEnv, c20] | (refine wpIf_two (fun _ h => ?_) (fun _ h => ?_) <;> try simp [-Nat.le_zero_eq] at h) | (apply wpE_appendV; (focus (first | assumption | (repeat' first | assumption | with_reducible apply GrowV.setNew | with_reducible apply GrowV.alloc | with_reducible apply GrowV.set | (with_reducible show ¬ Names _ _; simp [*]; done)))); (focus (exact fun _ => rfl)); (focus decide); (focus (intro a; first | rfl | simp)); (focus (simp [maxCells] <;> omega))) | (refine after_intro fun v2 H2 hv2 hnx2 hget2 hnew2 hone2 hcel2 => ?_))
    refine wp_courses (n := n) (l := l) hr (by simp) rfl (fun idc j H1 => 3 < idc ∧ H1.get 0 = .cells true (rowOf intF (kindsTo (fitP l) m j).1) ∧ H1.get 1 = .cells true [.row 0 1 0 m] ∧ H1.get 2 = .cells true [.pure (.bool (kindsTo (fitP l) m j).2)]) ?_ ?_ ?_ ?_ ?_
    · rintro idc j H1 H2 ⟨hi, g0, g1, g2⟩ hnx hsame
      have := nx_of_get g2
      exact ⟨hi, by rw [hsame 0 (by omega) (by omega) (by simp)]; exact g0, by rw [hsame 1 (by omega) (by omega) (by simp)]; exact g1, by rw [hsame 2 (by omega) (by omega) (by simp)]; exact g2⟩
    · intro idc hi
      refine ⟨by simpa using hi, ?_, by simp, by simp [kindsTo]⟩
      simp [kindsTo, rowOf_zeros]
    · rw [← hm.h]
      rintro idc j H1 hj ht ⟨hi, g0, g1, g2⟩
      have e : kindsTo (fitP l) m (j + 1) = kindsTo (fitP l) m j := by rw [kindsTo, if_neg (by simp [fitP, ht])]
      rw [e]
      exact ⟨hi, g0, g1, g2⟩
    · rw [← hm.h]
      intro idc j t H1 hj ht hi hlt
      (repeat' first | simp [*, initEnv] | (refine wpIf_two (fun _ h => ?_) (fun _ h => ?_) <;> try simp [-Nat.le_zero_eq] at h) | (apply wpE_appendV; (focus (first | assumption | (repeat' first | assumption | with_reducible apply GrowV.setNew | with_reducible apply GrowV.alloc | with_reducible apply GrowV.set | (with_reducible show ¬ Names _ _; simp [*]; done)))); (focus (exact fun _ => rfl)); (focus decide); (focus (intro a; first | rfl | simp)); (focus (simp [maxCells] <;> omega))) | (refine after_intro fun v2 H2 hv2 hnx2 hget2 hnew2 hone2 hcel2 => ?_))
      rintro Hb hi2 g0 g1 g2 gc hnx
      have hcl := toC_length m j
      have e : Hide (kindsTo (fitP l) m (j + 1) = ((kindsTo (fitP l) m j).1.zipWith addBit (toC m j), true)) := ⟨by rw [kindsTo, if_pos (by simp [fitP, ht])]⟩
      have hBl := kindsTo_length (fitP l) m j
      have hBb := kindsTo_le (fitP l) m j
      generalize (kindsTo (fitP l) m j).2 = S0 at *
      generalize (kindsTo (fitP l) m j).1 = B at *
      have hck := toC_kinds m j
      generalize toC m j = C at *
      have hZl : (B.zipWith addBit C).length = B.length := by simp; omega
      have hnx2 : 2 < Hb.nx := by omega
      (repeat' first | simp [*, initEnv] | (refine wpIf_two (fun _ h => ?_) (fun _ h => ?_) <;> try simp [-Nat.le_zero_eq] at h) | (apply wpE_appendV; (focus (first | assumption | (repeat' first | assumption | with_reducible apply GrowV.setNew | with_reducible apply GrowV.alloc | with_reducible apply GrowV.set | (with_reducible show ¬ Names _ _; simp [*]; done)))); (focus (exact fun _ => rfl)); (focus decide); (focus (intro a; first | rfl | simp)); (focus (simp [maxCells] <;> omega))) | (refine after_intro fun v2 H2 hv2 hnx2 hget2 hnew2 hone2 hcel2 => ?_))
      refine wp_loopF [(8, 9), (26, 39)] (fun (i : Nat) env H3 => env 26 = .pure (.int .i64 i) ∧ i ≤ m ∧ H3.nx = Hb.nx ∧ H3.get 0 = .cells true (rowOf intF (mixT (B.zipWith addBit C) B i)) ∧ H3.get 1 = .cells true [.row 0 1 0 m] ∧ H3.get 2 = .cells true [.pure (.bool true)] ∧ H3.get idc = .cells true (rowOf intF C) ∧ H3.get 3 = Hb.get 3) (fun i => m - i) 0 ?_ ?_ ?_ ?_
      · decide
      · refine ⟨by simp, by omega, by simp, by rw [get_set_ne (by decide)]; simpa [mixT] using g0, by rw [get_set_ne (by decide)]; exact g1, by rw [get_set_own hnx2], by rw [get_set_ne (by omega)]; exact gc, by rw [get_set_ne (by decide)]⟩
      · simp only [loopFuel]; omega
      rintro i env H3 ⟨h26, hi, gn, k0, k1, k2, kc, k3⟩
      have hfit : i < 9223372036854775807 := by omega
      have hXl := mixT_length (Z := B.zipWith addBit C) (B := B) (i := i) hZl (by omega)
      rw [hBl] at hXl
      have n0 := nx_of_get k0
      have hi0 : ¬ (idc = 0) := by omega
      have hi3 : ¬ (3 = 0) := by omega
      by_cases him : i < m
      · have hXg := mixT_get (Z := B.zipWith addBit C) (B := B) (i := i) hZl (by omega) (by omega)
        have hXs := mixT_set (Z := B.zipWith addBit C) (B := B) (i := i) hZl (by omega)
        have hZi : (B.zipWith addBit C)[i]'(by omega) = addBit (B[i]'(by omega)) (C[i]'(by omega)) := by simp
        rw [hZi] at hXs
        obtain ⟨b1, b2, b3, b4, b5⟩ := bit_cases (hBb _ (List.getElem_mem (l := B) (n := i) (by omega))) (hck _ (List.getElem_mem (l := C) (n := i) (by omega)))
        obtain ⟨X, k0, hXl, hXg, hXs⟩ : ∃ X : List Int, H3.get 0 = .cells true (rowOf intF X) ∧ X.length = m ∧ (∀ h, X[i]'h = B[i]'(by omega)) ∧ X.set i (addBit (B[i]'(by omega)) (C[i]'(by omega))) = mixT (B.zipWith addBit C) B (i + 1) := ⟨_, k0, hXl, fun _ => hXg, hXs⟩
        have hXs' : Hide _ := ⟨hXs⟩
        have hXg' := hXg (by omega)
        clear hXs hXg hZi b4 b5
        have hcl' : C.length = m := hcl
        (repeat' first | simp [*, initEnv] | (refine wpIf_two (fun _ h => ?_) (fun _ h => ?_) <;> try simp [-Nat.le_zero_eq] at h) | (apply wpE_appendV; (focus (first | assumption | (repeat' first | assumption | with_reducible apply GrowV.setNew | with_reducible apply GrowV.alloc | with_reducible apply GrowV.set | (with_reducible show ¬ Names _ _; simp [*]; done)))); (focus (exact fun _ => rfl)); (focus decide); (focus (intro a; first | rfl | simp)); (focus (simp [maxCells] <;> omega))) | (refine after_intro fun v2 H2 hv2 hnx2 hget2 hnew2 hone2 hcel2 => ?_))
        exact ⟨i + 1, by omega, by simp, by omega, by first | rw [hXs'.h] | rw [get_set_own n0]⟩
      · have hie : i = m := by omega
        have hXe := mixT_end (Z := B.zipWith addBit C) (B := B) (i := i) hZl (by omega)
        rw [hXe] at k0
        have e1 : (kindsTo (fitP l) m (j + 1)).1 = B.zipWith addBit C := by rw [e.h]
        have e2 : (kindsTo (fitP l) m (j + 1)).2 = true := by rw [e.h]
        (repeat' first | simp [*, initEnv] | (refine wpIf_two (fun _ h => ?_) (fun _ h => ?_) <;> try simp [-Nat.le_zero_eq] at h) | (apply wpE_appendV; (focus (first | assumption | (repeat' first | assumption | with_reducible apply GrowV.setNew | with_reducible apply GrowV.alloc | with_reducible apply GrowV.set | (with_reducible show ¬ Names _ _; simp [*]; done)))); (focus (exact fun _ => rfl)); (focus decide); (focus (intro a; first | rfl | simp)); (focus (simp [maxCells] <;> omega))) | (refine after_intro fun v2 H2 hv2 hnx2 hget2 hnew2 hone2 hcel2 => ?_))
    · rw [← hm.h]
      rintro idc H' ⟨hi, g0, g1, g2⟩
      have hlen := kindsTo_length (fitP l) m (3 ^ m)
      obtain ⟨ids, hids⟩ := row_res (f := intF) (sz := 1) (n := 9) (fun _ => rfl) g0 hlen
      (repeat' first | simp [*, initEnv] | (refine wpIf_two (fun _ h => ?_) (fun _ h => ?_) <;> try simp [-Nat.le_zero_eq] at h) | (apply wpE_appendV; (focus (first | assumption | (repeat' first | assumption | with_reducible apply GrowV.setNew | with_reducible apply GrowV.alloc | with_reducible apply GrowV.set | (with_reducible show ¬ Names _ _; simp [*]; done)))); (focus (exact fun _ => rfl)); (focus decide); (focus (intro a; first | rfl | simp)); (focus (simp [maxCells] <;> omega))) | (refine after_intro fun v2 H2 hv2 hnx2 hget2 hnew2 hone2 hcel2 => ?_))
  · (repeat' first | simp [*, initEnv, c20] | (refine wpIf_two (fun _ h => ?_) (fun _ h => ?_) <;> try simp [-Nat.le_zero_eq] at h) | (apply wpE_appendV; (focus (first | assumption | (repeat' first | assumption | with_reducible apply GrowV.setNew | with_reducible apply GrowV.alloc | with_reducible apply GrowV.set | (with_reducible show ¬ Names _ _; simp [*]; done)))); (focus (exact fun _ => rfl)); (focus decide); (focus (intro a; first | rfl | simp)); (focus (simp [maxCells] <;> omega))) | (refine after_intro fun v2 H2 hv2 hnx2 hget2 hnew2 hone2 hcel2 => ?_))
@[simp] theorem d20 (n : Nat) (H : Heap) (l_habit_step : Int) (l_habit_place : Int) (l_habit_sink : Int) (l_sights : Sl Sight) (l_notes : Sl Note) (hs : (fun (l : Life) => shortS l) (⟨⟨l_habit_step, l_habit_place, l_habit_sink⟩, l_sights, l_notes⟩ : Life)) : doCall (calleeOf G (n + 10)) H (.pure (.func 20 [])) [.pure (.agg [.int .i64 l_habit_step, .int .i64 l_habit_place, .int .i64 l_habit_sink, (l_sights).pv Sight.cells 9, (l_notes).pv Note.cells 4])] = some (.val (.pure ((fun (l : Life) => (if checkS l = 0 then (if (kindsTo (fitP l) (l.sights.xs.length - 1) (3 ^ (l.sights.xs.length - 1))).2 = true then .tup [(Sl.mk false (kindsTo (fitP l) (l.sights.xs.length - 1) (3 ^ (l.sights.xs.length - 1))).1).pv intF 1, .int .i64 0] else .tup [.nils, .int .i64 9]) else .tup [.nils, .int .i64 (checkS l)])) (⟨⟨l_habit_step, l_habit_place, l_habit_sink⟩, l_sights, l_notes⟩ : Life)))) :=
  call_pureC (ps := [_]) (caps := []) sh20 (e20 n (⟨⟨l_habit_step, l_habit_place, l_habit_sink⟩, l_sights, l_notes⟩ : Life) hs)

theorem sh21 : G.shared 21 = false := by decide
theorem e21 (n : Nat) (l : Life) (hs : shortS l) : callP G (n + 8) 21 [.agg l.cells] = some (.agg (if checkS l = 0 then (if (kindsTo (canS l) (l.sights.xs.length - 1) (3 ^ (l.sights.xs.length - 1))).2 = true then [(Sl.mk false (kindsTo (canS l) (l.sights.xs.length - 1) (3 ^ (l.sights.xs.length - 1))).1).pv intF 1, .int .i64 0] else [.nils, .int .i64 9]) else [.nils, .int .i64 (checkS l)])) := by
  refine callP_of (ext_none _) rfl g21 rfl ?_
  have hcc : ∀ H, doCall (calleeOf G (n + 7)) H (.pure (.func 16 [])) [.pure (.agg l.cells)] = some (.val (.pure (.int .i64 (checkS l)))) := fun H => d16 (n + 2) H l.habit.step l.habit.place l.habit.sink l.sights l.notes hs
  simp only [Life.cells] at hcc
  by_cases hck : checkS l = 0
  · have hr := (right_iff l).1 hck
    have h1 := hr.one
    have h9 := hr.nine
    have hw : IntKind.i64.wrap ((l.sights.xs.length : Int) - 1) = ((l.sights.xs.length - 1 : Nat) : Int) := wrap_pred (by omega) (by omega)
    have hcan : ∀ H (j : Nat), doCall (calleeOf G (n + 7)) H (.pure (.func 44 [])) [.pure (.agg l.cells), .pure ((Sl.of (toC (l.sights.xs.length - 1) j)).pv intF 1)] = some (.val (.pure (.bool (canS l (toC (l.sights.xs.length - 1) j))))) := fun H j => by
      have := d44 (n + 1) H l.habit.step l.habit.place l.habit.sink l.sights l.notes (Sl.of (toC (l.sights.xs.length - 1) j)) hr (by rw [Sl.xs_of, toC_length]; show l.sights.xs.length - 1 + 1 = l.sights.xs.length; omega) (by rw [Sl.xs_of]; exact toC_kinds _ _)
      rw [Sl.xs_of] at this
      exact this
    have hknd : ∀ H (j : Nat), j < 100000 → doCall (calleeOf G (n + 7)) H (.pure (.func 57 [])) [.pure (.agg l.cells), .pure (.int .i64 (j : Nat))] = some (.val (.pure ((Sl.of (toC (l.sights.xs.length - 1) j)).pv intF 1))) := fun H j hj => d57 (n + 6) H l.habit.step l.habit.place l.habit.sink l.sights l.notes j h1 h9 hj
    have hj3 := pow_le_of (m := l.sights.xs.length - 1) (by omega)
    obtain ⟨N, hN0⟩ : ∃ N, N = 3 ^ (l.sights.xs.length - 1) := ⟨_, rfl⟩
    have hcnt : ∀ H, doCall (calleeOf G (n + 7)) H (.pure (.func 56 [])) [.pure (.agg l.cells)] = some (.val (.pure (.int .i64 (N : Nat)))) := fun H => d56 (n + 6) H l.habit.step l.habit.place l.habit.sink l.sights l.notes N hN0 h1 h9
    simp only [Life.cells] at hcnt hcan hknd
    rw [← hN0] at hj3 ⊢
    obtain ⟨m, hm0⟩ : ∃ m, m = l.sights.xs.length - 1 := ⟨_, rfl⟩
    rw [← hm0] at hw hcan hknd ⊢
    have hm1 : m * 8 ≤ maxCells := by unfold maxCells; omega
    have hm2 : m ≤ maxCells := by unfold maxCells; omega
    have hm8 : m ≤ 8 := by omega
    have hm : Hide _ := ⟨hm0⟩
    have hN : Hide _ := ⟨hN0⟩
    clear hm0 hN0
    have hlen3 : ∀ j, (toC m j).length < 1000 := fun j => by rw [toC_length]; omega
    (repeat' first | simp [*, initEnv, c21] | (refine wpIf_two (fun _ h => ?_) (fun _ h => ?_) <;> try simp [-Nat.le_zero_eq] at h) | (apply wpE_appendV; (focus (first | assumption | (repeat' first | assumption | with_reducible apply GrowV.setNew | with_reducible apply GrowV.alloc | with_reducible apply GrowV.set | (with_reducible show ¬ Names _ _; simp [*]; done)))); (focus (exact fun _ => rfl)); (focus decide); (focus (intro a; first | rfl | simp)); (focus (simp [maxCells] <;> omega))) | (refine after_intro fun v2 H2 hv2 hnx2 hget2 hnew2 hone2 hcel2 => ?_))
    refine wp_loopF [(5, 10), (22, 68)] (fun (j : Nat) env H1 => env 6 = .pure (.int .i64 j) ∧ j ≤ N ∧ env 5 = .pure (.bool (kindsTo (canS l) m j).2) ∧ H1.get 0 = .cells true [.pure .nils, .pure (.int .i64 0)] ∧ H1.get 1 = .cells true (rowOf intF (kindsTo (canS l) m j).1)) (fun j => N - j) 0 ?_ ?_ ?_ ?_
    · decide
    · refine ⟨by simp, Nat.zero_le _, by simp [kindsTo], by simp, ?_⟩
      simp [kindsTo, rowOf_zeros]
    · simp only [loopFuel]; omega
    rintro j env H1 ⟨h6, hj, h5, g0, g1⟩
    have hfit : j < 9223372036854775807 := by omega
    have hj9 : j < 100000 := by omega
    have hBl := kindsTo_length (canS l) m j
    have hBb := kindsTo_le (canS l) m j
    have hst : Hide (kindsTo (canS l) m (j + 1) = if canS l (toC m j) = true then ((kindsTo (canS l) m j).1.zipWith addBit (toC m j), true) else kindsTo (canS l) m j) := ⟨by rw [kindsTo]⟩
    have hpair : Hide (kindsTo (canS l) m j = ((kindsTo (canS l) m j).1, (kindsTo (canS l) m j).2)) := ⟨rfl⟩
    have hn0 := nx_of_get g0
    have hn1 := nx_of_get g1
    have g1' : (H1.set 0 (.cells true [.row 1 1 0 m, .pure (.int .i64 0)])).get 1 = .cells true (rowOf intF (kindsTo (canS l) m j).1) := by rw [get_set_ne (by decide)]; exact g1
    have fa : Hide (FrzK (H1.set 0 (.cells true [.row 1 1 0 m, .pure (.int .i64 0)])) false depthF (aggV [.row 1 1 0 m, .pure (.int .i64 0)]) (.agg [(Sl.mk false (kindsTo (canS l) m j).1).pv intF 1, .int .i64 0])) :=
      ⟨FrzK.aggV (n := 11) (.cons (row_res (f := intF) (sz := 1) (n := 9) (fun _ => rfl) g1' hBl) (.cons (.pure _) .nil))⟩
    clear g1'
    (repeat' first | simp [*, initEnv] | (refine wpIf_two (fun _ h => ?_) (fun _ h => ?_) <;> try simp [-Nat.le_zero_eq] at h) | (apply wpE_appendV; (focus (first | assumption | (repeat' first | assumption | with_reducible apply GrowV.setNew | with_reducible apply GrowV.alloc | with_reducible apply GrowV.set | (with_reducible show ¬ Names _ _; simp [*]; done)))); (focus (exact fun _ => rfl)); (focus decide); (focus (intro a; first | rfl | simp)); (focus (simp [maxCells] <;> omega))) | (refine after_intro fun v2 H2 hv2 hnx2 hget2 hnew2 hone2 hcel2 => ?_))
    · have hjN : j < N := by assumption
      have hcn : canS l (toC m j) = true := by assumption
      rw [if_pos hcn] at hst
      have hcl := toC_length m j
      have hck := toC_kinds m j
      have hB2 : (kindsTo (canS l) m (j + 1)).1 = (kindsTo (canS l) m j).1.zipWith addBit (toC m j) := by rw [hst.h]
      have hS2 : (kindsTo (canS l) m (j + 1)).2 = true := by rw [hst.h]
      generalize (kindsTo (canS l) m j).1 = B at *
      generalize toC m j = C at *
      clear hpair hst fa
      have hZl : (B.zipWith addBit C).length = B.length := by simp; omega
      refine wp_loopF [(9, 10), (36, 68)] (fun (i : Nat) env H3 => env 9 = .pure (.int .i64 i) ∧ i ≤ m ∧ H3.get 0 = .cells true [.pure .nils, .pure (.int .i64 0)] ∧ H3.get 1 = .cells true (rowOf intF (mixT (B.zipWith addBit C) B i))) (fun i => m - i) 0 ?_ ?_ ?_ ?_
      · decide
      · refine ⟨by simp, by omega, g0, by simpa [mixT] using g1⟩
      · simp only [loopFuel]; omega
      rintro i env H3 ⟨h9', hi, k0, k1⟩
      have hfit : i < 9223372036854775807 := by omega
      have hXl := mixT_length (Z := B.zipWith addBit C) (B := B) (i := i) hZl (by omega)
      rw [hBl] at hXl
      have n1 := nx_of_get k1
      have n0 := nx_of_get k0
      by_cases him : i < m
      · have p1 := mixT_get (Z := B.zipWith addBit C) (B := B) (i := i) hZl (by omega) (by omega)
        have p2 := mixT_set (Z := B.zipWith addBit C) (B := B) (i := i) hZl (by omega)
        have hZi : (B.zipWith addBit C)[i]'(by omega) = addBit (B[i]'(by omega)) (C[i]'(by omega)) := by simp
        rw [hZi] at p2
        obtain ⟨b1, b2, b3, b4, b5⟩ := bit_cases (hBb _ (List.getElem_mem (l := B) (n := i) (by omega))) (hck _ (List.getElem_mem (l := C) (n := i) (by omega)))
        have hset : ∀ X : List Int, X.length = m → (∀ h, X[i]'h = B[i]'(by omega)) → X.set i (B[i]'(by omega)) = X := fun X hX hXi => by
          rw [← hXi (by omega), List.set_getElem_self]
        obtain ⟨X, q1, q2, q3, q4⟩ : ∃ X : List Int, H3.get 1 = .cells true (rowOf intF X) ∧ X.length = m ∧ (∀ h, X[i]'h = B[i]'(by omega)) ∧ X.set i (addBit (B[i]'(by omega)) (C[i]'(by omega))) = mixT (B.zipWith addBit C) B (i + 1) := ⟨_, k1, hXl, fun _ => p1, p2⟩
        clear p1 p2 hZi b1 b2 b3 b4 b5 k1
        have hset2 := hset X q2 q3
        have hXg' := q3 (by omega)
        have hXs' : Hide _ := ⟨q4⟩
        have hCk := hck _ (List.getElem_mem (l := C) (n := i) (by omega))
        clear q4 q3 hset hcan hknd hcnt
        have h3 : C[i]'(by omega) = 0 ∨ C[i]'(by omega) = 1 ∨ C[i]'(by omega) = 2 := by omega
        have hBk := hBb _ (List.getElem_mem (l := B) (n := i) (by omega))
        have h7 : B[i]'(by omega) = 0 ∨ B[i]'(by omega) = 1 ∨ B[i]'(by omega) = 2 ∨ B[i]'(by omega) = 3 ∨ B[i]'(by omega) = 4 ∨ B[i]'(by omega) = 5 ∨ B[i]'(by omega) = 6 ∨ B[i]'(by omega) = 7 := by omega
        have hwl : ∀ x : Int, 0 ≤ x → x ≤ 11 → IntKind.i64.wrap x = x := fun x h1 h2 => wrap64 (by omega) (by omega)
        have hcl' : C.length = m := hcl
        have hBl' : Hide _ := ⟨hBl⟩
        clear hBk hCk h5 hB2 hS2
        rcases h3 with h3 | h3 | h3 <;> rcases h7 with h7 | h7 | h7 | h7 | h7 | h7 | h7 | h7
        all_goals
          have hs2 := hset2
          rw [h7] at hs2
          have hs3 : Hide _ := ⟨hs2⟩
          clear hset2 hs2
          (repeat' first | simp [*, initEnv] | (refine wpIf_two (fun _ h => ?_) (fun _ h => ?_) <;> try simp [-Nat.le_zero_eq] at h) | (apply wpE_appendV; (focus (first | assumption | (repeat' first | assumption | with_reducible apply GrowV.setNew | with_reducible apply GrowV.alloc | with_reducible apply GrowV.set | (with_reducible show ¬ Names _ _; simp [*]; done)))); (focus (exact fun _ => rfl)); (focus decide); (focus (intro a; first | rfl | simp)); (focus (simp [maxCells] <;> omega))) | (refine after_intro fun v2 H2 hv2 hnx2 hget2 hnew2 hone2 hcel2 => ?_))
          refine ⟨i + 1, by omega, by simp, by omega, ?_⟩
          rw [← hXs'.h, h7, h3]
          first
            | rfl
            | exact (congrArg (rowOf intF) hs3.h).symm
      · have hie : i = m := by omega
        have hXe := mixT_end (Z := B.zipWith addBit C) (B := B) (i := i) hZl (by omega)
        rw [hXe] at k1
        (repeat' first | simp [*, initEnv] | (refine wpIf_two (fun _ h => ?_) (fun _ h => ?_) <;> try simp [-Nat.le_zero_eq] at h) | (apply wpE_appendV; (focus (first | assumption | (repeat' first | assumption | with_reducible apply GrowV.setNew | with_reducible apply GrowV.alloc | with_reducible apply GrowV.set | (with_reducible show ¬ Names _ _; simp [*]; done)))); (focus (exact fun _ => rfl)); (focus decide); (focus (intro a; first | rfl | simp)); (focus (simp [maxCells] <;> omega))) | (refine after_intro fun v2 H2 hv2 hnx2 hget2 hnew2 hone2 hcel2 => ?_))
        exact ⟨j + 1, by omega, by simp, by omega, hS2, by rw [hB2]⟩
    · have e : kindsTo (canS l) m (j + 1) = kindsTo (canS l) m j := by rw [hst.h, if_neg (by simp [*])]
      exact ⟨j + 1, by omega, by simp, by omega, by rw [e], by rw [e]⟩
    · have hje : j = N := by omega
      have hS : (kindsTo (canS l) m j).2 = true := by assumption
      have hf := fa.h
      rw [hje] at hf hS
      rw [if_pos hS]
      exact hf
    · have hje : j = N := by omega
      have hS : (kindsTo (canS l) m j).2 = false := by assumption
      rw [hje] at hS
      first | exact hS | simp [hS]
  · (repeat' first | simp [*, initEnv, c21] | (refine wpIf_two (fun _ h => ?_) (fun _ h => ?_) <;> try simp [-Nat.le_zero_eq] at h) | (apply wpE_appendV; (focus (first | assumption | (repeat' first | assumption | with_reducible apply GrowV.setNew | with_reducible apply GrowV.alloc | with_reducible apply GrowV.set | (with_reducible show ¬ Names _ _; simp [*]; done)))); (focus (exact fun _ => rfl)); (focus decide); (focus (intro a; first | rfl | simp)); (focus (simp [maxCells] <;> omega))) | (refine after_intro fun v2 H2 hv2 hnx2 hget2 hnew2 hone2 hcel2 => ?_))
@[simp] theorem d21 (n : Nat) (H : Heap) (l_habit_step : Int) (l_habit_place : Int) (l_habit_sink : Int) (l_sights : Sl Sight) (l_notes : Sl Note) (hs : (fun (l : Life) => shortS l) (⟨⟨l_habit_step, l_habit_place, l_habit_sink⟩, l_sights, l_notes⟩ : Life)) : doCall (calleeOf G (n + 8)) H (.pure (.func 21 [])) [.pure (.agg [.int .i64 l_habit_step, .int .i64 l_habit_place, .int .i64 l_habit_sink, (l_sights).pv Sight.cells 9, (l_notes).pv Note.cells 4])] = some (.val (.pure ((fun (l : Life) => .agg (if checkS l = 0 then (if (kindsTo (canS l) (l.sights.xs.length - 1) (3 ^ (l.sights.xs.length - 1))).2 = true then [(Sl.mk false (kindsTo (canS l) (l.sights.xs.length - 1) (3 ^ (l.sights.xs.length - 1))).1).pv intF 1, .int .i64 0] else [.nils, .int .i64 9]) else [.nils, .int .i64 (checkS l)])) (⟨⟨l_habit_step, l_habit_place, l_habit_sink⟩, l_sights, l_notes⟩ : Life)))) :=
  call_pureC (ps := [_]) (caps := []) sh21 (e21 n (⟨⟨l_habit_step, l_habit_place, l_habit_sink⟩, l_sights, l_notes⟩ : Life) hs)
end Go.Proofs.YtjjkgamklbgnlaaGreat.Vm
