/- What the functions of courses compute: the program's, and the specification's. -/
import Derived.Test.YtjjkgamklbgnlaaGreatLifeWalk
namespace Go.Proofs.YtjjkgamklbgnlaaGreat.Vm
open Go
set_option linter.unusedSimpArgs false
set_option linter.unusedVariables false
set_option maxHeartbeats 4000000

/-! ### Kinds of a course, notes -/
/-- No kind of a gap. -/
def gapB (k : Int) : Bool := !(decide (0 ≤ k) && decide (k ≤ 2))
def gapAt (c : List Int) (i : Nat) : Bool := gapB c[i]!
def kindsS (l : Life) (c : List Int) : Bool := decide ((c.length : Int) = l.sights.xs.length - 1) && !c.any gapB
theorem sh106 : G.shared 106 = false := by decide
theorem e106 (n : Nat) (k : Int) : callP G (n + 2) 106 [.int .i64 k] = some (.bool (gapB k)) := by
  refine callP_of (ext_none _) rfl g106 rfl ?_
  (repeat' first | simp [*, initEnv, c106, gapB] | (refine wpIf_two (fun _ h => ?_) (fun _ h => ?_) <;> try simp [-Nat.le_zero_eq] at h) | (apply wpE_appendV; (focus (first | assumption | (repeat' first | assumption | with_reducible apply GrowV.setNew | with_reducible apply GrowV.alloc | with_reducible apply GrowV.set | (with_reducible show ¬ Names _ _; simp [*]; done)))); (focus (exact fun _ => rfl)); (focus decide); (focus (intro a; first | rfl | simp)); (focus (simp [maxCells] <;> omega))) | (refine after_intro fun v2 H2 hv2 hnx2 hget2 hnew2 hone2 hcel2 => ?_))
@[simp] theorem d106 (n : Nat) (H : Heap) (k : Int) : doCall (calleeOf G (n + 2)) H (.pure (.func 106 [])) [.pure (.int .i64 k)] = some (.val (.pure (.bool (gapB k)))) :=
  call_pureC (ps := [_]) (caps := []) sh106 (e106 n k)
theorem sh105 : G.shared 105 = false := by decide
theorem e105 (n : Nat) (c : Sl Int) (hc : c.xs.length < 1000) : callP G (n + 4) 105 [c.pv intF 1, .func 106 []] = some (.bool (c.xs.any gapB)) := by
  refine callP_of (ext_none _) rfl g105 rfl ?_
  have h := indexFunc_call (n := n + 2) (f := intF) (sz := 1) (g := false) (p := .func 106 []) (q := gapB) (s := c) (ext_none 131) (fun _ _ => rfl) g131 (fun _ => rfl) (by omega) (fun H a ha => ⟨.pure (.int .i64 a), rfl, d106 n H a⟩)
  have hd : ∀ H, doCall (calleeOf G (n + 3)) H (.pure (.func 131 [])) [.pure (c.pv intF 1), .pure (.func 106 [])] = some (.val (.pure (.int .i64 (idxL gapB c.xs 0)))) := fun H => call_pure (ps := [_, _]) (by decide) h
  have ha := idxL_any gapB c.xs 0
  (repeat' first | simp [*, initEnv, c105, ha] | (refine wpIf_two (fun _ h => ?_) (fun _ h => ?_) <;> try simp [-Nat.le_zero_eq] at h) | (apply wpE_appendV; (focus (first | assumption | (repeat' first | assumption | with_reducible apply GrowV.setNew | with_reducible apply GrowV.alloc | with_reducible apply GrowV.set | (with_reducible show ¬ Names _ _; simp [*]; done)))); (focus (exact fun _ => rfl)); (focus decide); (focus (intro a; first | rfl | simp)); (focus (simp [maxCells] <;> omega))) | (refine after_intro fun v2 H2 hv2 hnx2 hget2 hnew2 hone2 hcel2 => ?_))
@[simp] theorem d105 (n : Nat) (H : Heap) (c : Sl Int) (hc : c.xs.length < 1000) : doCall (calleeOf G (n + 4)) H (.pure (.func 105 [])) [.pure (c.pv intF 1), .pure (.func 106 [])] = some (.val (.pure (.bool (c.xs.any gapB)))) :=
  call_pureC (ps := [_, _]) (caps := []) sh105 (e105 n c hc)
theorem sh79 : G.shared 79 = false := by decide
theorem e79 (n : Nat) (l : Life) (c : Sl Int) (hc : c.xs.length < 1000) (hl : l.sights.xs.length < 1000) : callP G (n + 5) 79 [.agg l.cells, c.pv intF 1] = some (.bool (kindsS l c.xs)) := by
  refine callP_of (ext_none _) rfl g79 rfl ?_
  have hw : IntKind.i64.wrap ((l.sights.xs.length : Int) - 1) = (l.sights.xs.length : Int) - 1 := wrap64 (by omega) (by omega)
  (repeat' first | simp [*, initEnv, c79, kindsS] | (refine wpIf_two (fun _ h => ?_) (fun _ h => ?_) <;> try simp [-Nat.le_zero_eq] at h) | (apply wpE_appendV; (focus (first | assumption | (repeat' first | assumption | with_reducible apply GrowV.setNew | with_reducible apply GrowV.alloc | with_reducible apply GrowV.set | (with_reducible show ¬ Names _ _; simp [*]; done)))); (focus (exact fun _ => rfl)); (focus decide); (focus (intro a; first | rfl | simp)); (focus (simp [maxCells] <;> omega))) | (refine after_intro fun v2 H2 hv2 hnx2 hget2 hnew2 hone2 hcel2 => ?_))
@[simp] theorem d79 (n : Nat) (H : Heap) (l_habit_step : Int) (l_habit_place : Int) (l_habit_sink : Int) (l_sights : Sl Sight) (l_notes : Sl Note) (c : Sl Int) (hc : c.xs.length < 1000) (hl : (fun (l : Life) => l.sights.xs.length < 1000) (⟨⟨l_habit_step, l_habit_place, l_habit_sink⟩, l_sights, l_notes⟩ : Life)) : doCall (calleeOf G (n + 5)) H (.pure (.func 79 [])) [.pure (.agg [.int .i64 l_habit_step, .int .i64 l_habit_place, .int .i64 l_habit_sink, (l_sights).pv Sight.cells 9, (l_notes).pv Note.cells 4]), .pure (c.pv intF 1)] = some (.val (.pure ((fun (l : Life) => .bool (kindsS l c.xs)) (⟨⟨l_habit_step, l_habit_place, l_habit_sink⟩, l_sights, l_notes⟩ : Life)))) :=
  call_pureC (ps := [_, _]) (caps := []) sh79 (e79 n (⟨⟨l_habit_step, l_habit_place, l_habit_sink⟩, l_sights, l_notes⟩ : Life) c hc hl)
theorem sh90 : G.shared 90 = false := by decide
theorem e90 (n : Nat) (l : Life) (c : Sl Int) (hc : c.xs.length < 1000) (hl : l.sights.xs.length < 1000) : callP G (n + 1) 90 [.agg l.cells, c.pv intF 1] = some (.int .i64 (if kindsS l c.xs = true then 0 else 50)) := by
  refine callP_of (ext_none _) rfl g90 rfl ?_
  have hw : IntKind.i64.wrap ((l.sights.xs.length : Int) - 1) = (l.sights.xs.length : Int) - 1 := wrap64 (by omega) (by omega)
  (repeat' first | simp [*, initEnv, c90] | (refine wpIf_two (fun _ h => ?_) (fun _ h => ?_) <;> try simp [-Nat.le_zero_eq] at h) | (apply wpE_appendV; (focus (first | assumption | (repeat' first | assumption | with_reducible apply GrowV.setNew | with_reducible apply GrowV.alloc | with_reducible apply GrowV.set | (with_reducible show ¬ Names _ _; simp [*]; done)))); (focus (exact fun _ => rfl)); (focus decide); (focus (intro a; first | rfl | simp)); (focus (simp [maxCells] <;> omega))) | (refine after_intro fun v2 H2 hv2 hnx2 hget2 hnew2 hone2 hcel2 => ?_))
  all_goals try (simp [kindsS, *]; done)
  have hk : (c.xs.length : Int) = l.sights.xs.length - 1 := by assumption
  have hP : Hide ((if kindsS l c.xs = true then (0 : Int) else 50) = if anyTo (gapAt c.xs) c.xs.length = true then 50 else 0) := by
    constructor
    have : anyTo (gapAt c.xs) c.xs.length = c.xs.any gapB := by
      rw [Bool.eq_iff_iff, anyTo_iff, List.any_eq_true]
      constructor
      · rintro ⟨i, h1, h2⟩
        unfold gapAt at h2
        rw [getElem!_pos c.xs i h1] at h2
        exact ⟨_, List.getElem_mem h1, h2⟩
      · rintro ⟨x, h1, h2⟩
        obtain ⟨i, h3, rfl⟩ := List.getElem_of_mem h1
        exact ⟨i, h3, by unfold gapAt; rw [getElem!_pos c.xs i h3]; exact h2⟩
    rw [this]
    have hk2 : kindsS l c.xs = !c.xs.any gapB := by simp only [kindsS, decide_eq_true hk, Bool.true_and]
    simp only [hk2]
    cases c.xs.any gapB <;> rfl
  generalize (if kindsS l c.xs = true then (0 : Int) else 50) = P at *
  rename decide ((c.xs.length : Int) = (l.sights.xs.length : Int) - 1) = true => hz1
  clear hk
  rename (c.xs.length : Int) = (l.sights.xs.length : Int) - 1 => hz2
  clear hz1 hz2
  refine wp_loopF [(4, 5), (13, 30)] (fun (i : Nat) env H => env 5 = .pure (.int .i64 i) ∧ i ≤ c.xs.length ∧ Hide (anyTo (gapAt c.xs) i = false)) (fun i => c.xs.length - i) 0 ?_ ?_ ?_ ?_
  · decide
  · simp; exact ⟨rfl⟩
  · simp only [loopFuel]; omega
  rintro i env H ⟨h5, hi, hn⟩
  have hfit : i < 9223372036854775807 := by omega
  have bad : ∀ h : i < c.xs.length, gapB c.xs[i] = true → Hide (P = 50) := fun h h1 => ⟨by
    rw [hP.h, anyTo_of h]; rfl
    show gapB c.xs[i]! = true
    rw [getElem!_pos c.xs i h]; exact h1⟩
  have good : ∀ h : i < c.xs.length, gapB c.xs[i] = false → Hide (anyTo (gapAt c.xs) (i + 1) = false) := fun h h1 => ⟨by
    rw [anyTo, hn.h, gapAt, getElem!_pos c.xs i h, h1]; rfl⟩
  (repeat' first | simp [*, initEnv] | (refine wpIf_two (fun _ h => ?_) (fun _ h => ?_) <;> try simp [-Nat.le_zero_eq] at h) | (apply wpE_appendV; (focus (first | assumption | (repeat' first | assumption | with_reducible apply GrowV.setNew | with_reducible apply GrowV.alloc | with_reducible apply GrowV.set | (with_reducible show ¬ Names _ _; simp [*]; done)))); (focus (exact fun _ => rfl)); (focus decide); (focus (intro a; first | rfl | simp)); (focus (simp [maxCells] <;> omega))) | (refine after_intro fun v2 H2 hv2 hnx2 hget2 hnew2 hone2 hcel2 => ?_))
  all_goals try (exact (bad (by assumption) (by first | (simp [gapB, *]; done) | (simp [gapB, *]; omega))).h.symm)
  all_goals try (exact ⟨i + 1, by omega, by simp, by omega, good (by assumption) (by first | (simp [gapB, *]; done) | (simp [gapB, *]; omega))⟩)
  have : i = c.xs.length := by omega
  subst this
  rw [hP.h, hn.h]; rfl
@[simp] theorem d90 (n : Nat) (H : Heap) (l_habit_step : Int) (l_habit_place : Int) (l_habit_sink : Int) (l_sights : Sl Sight) (l_notes : Sl Note) (c : Sl Int) (hc : c.xs.length < 1000) (hl : (fun (l : Life) => l.sights.xs.length < 1000) (⟨⟨l_habit_step, l_habit_place, l_habit_sink⟩, l_sights, l_notes⟩ : Life)) : doCall (calleeOf G (n + 1)) H (.pure (.func 90 [])) [.pure (.agg [.int .i64 l_habit_step, .int .i64 l_habit_place, .int .i64 l_habit_sink, (l_sights).pv Sight.cells 9, (l_notes).pv Note.cells 4]), .pure (c.pv intF 1)] = some (.val (.pure ((fun (l : Life) => .int .i64 (if kindsS l c.xs = true then 0 else 50)) (⟨⟨l_habit_step, l_habit_place, l_habit_sink⟩, l_sights, l_notes⟩ : Life)))) :=
  call_pureC (ps := [_, _]) (caps := []) sh90 (e90 n (⟨⟨l_habit_step, l_habit_place, l_habit_sink⟩, l_sights, l_notes⟩ : Life) c hc hl)

def badN (l : List Sight) (n : Note) (c : List Int) (k : Nat) : Bool := decide (n.kind = 0) && decide (n.fr ≤ l[k]!.year) && decide (l[k+1]!.year ≤ n.to) && !decide (c[k]! = 0)
def hitN (l : List Sight) (n : Note) (c : List Int) (k : Nat) : Bool := decide (l[k]!.year ≤ n.to) && decide (n.fr ≤ l[k+1]!.year) && decide (c[k]! = n.kind)
def notedS (l : List Sight) (n : Note) (c : List Int) : Bool := !anyTo (badN l n c) c.length && (anyTo (hitN l n c) c.length || decide (n.kind = 0))
theorem badN_at {l : List Sight} {n : Note} {c : List Int} {k : Nat} (h : k < c.length) (h1 : k + 1 < l.length) : badN l n c k = (decide (n.kind = 0) && decide (n.fr ≤ l[k].year) && decide (l[k+1].year ≤ n.to) && !decide (c[k] = 0)) := by
  simp only [badN, getElem!_pos c k h, getElem!_pos l k (by omega), getElem!_pos l (k+1) h1]
theorem hitN_at {l : List Sight} {n : Note} {c : List Int} {k : Nat} (h : k < c.length) (h1 : k + 1 < l.length) : hitN l n c k = (decide (l[k].year ≤ n.to) && decide (n.fr ≤ l[k+1].year) && decide (c[k] = n.kind)) := by
  simp only [hitN, getElem!_pos c k h, getElem!_pos l k (by omega), getElem!_pos l (k+1) h1]

theorem sh80 : G.shared 80 = false := by decide
theorem e80 (n : Nat) (l : Life) (m : Note) (c : Sl Int) (hc : c.xs.length + 1 ≤ l.sights.xs.length) (hl : l.sights.xs.length < 1000) : callP G (n + 1) 80 [.agg l.cells, .agg m.cells, c.pv intF 1] = some (.bool (notedS l.sights.xs m c.xs)) := by
  refine callP_of (ext_none _) rfl g80 rfl ?_
  (repeat' first | simp [*, initEnv, c80] | (refine wpIf_two (fun _ h => ?_) (fun _ h => ?_) <;> try simp [-Nat.le_zero_eq] at h) | (apply wpE_appendV; (focus (first | assumption | (repeat' first | assumption | with_reducible apply GrowV.setNew | with_reducible apply GrowV.alloc | with_reducible apply GrowV.set | (with_reducible show ¬ Names _ _; simp [*]; done)))); (focus (exact fun _ => rfl)); (focus decide); (focus (intro a; first | rfl | simp)); (focus (simp [maxCells] <;> omega))) | (refine after_intro fun v2 H2 hv2 hnx2 hget2 hnew2 hone2 hcel2 => ?_))
  have hP : Hide (notedS l.sights.xs m c.xs = (!anyTo (badN l.sights.xs m c.xs) c.xs.length && (anyTo (hitN l.sights.xs m c.xs) c.xs.length || decide (m.kind = 0)))) := ⟨rfl⟩
  generalize notedS l.sights.xs m c.xs = P at *
  refine wp_loopF [(6, 11), (14, 70)] (fun (i : Nat) env H => env 14 = .pure (.int .i64 i) ∧ i ≤ c.xs.length ∧ env 7 = .pure (.bool (anyTo (hitN l.sights.xs m c.xs) i)) ∧ Hide (anyTo (badN l.sights.xs m c.xs) i = false)) (fun i => c.xs.length - i) 0 ?_ ?_ ?_ ?_
  · decide
  · simp [anyTo]
  · simp only [loopFuel]; omega
  rintro i env H ⟨h14, hi, h7, hn⟩
  have hfit : i < 9223372036854775807 := by omega
  have hi1 : i < c.xs.length → i + 1 < l.sights.xs.length := fun h => by omega
  have hi0 : i < c.xs.length → i < l.sights.xs.length := fun h => by omega
  have bad : ∀ h : i < c.xs.length, badN l.sights.xs m c.xs i = true → Hide (P = false) := fun h h1 => ⟨by rw [hP.h, anyTo_of h h1]; rfl⟩
  have good : ∀ h : i < c.xs.length, badN l.sights.xs m c.xs i = false → Hide (anyTo (badN l.sights.xs m c.xs) (i + 1) = false) := fun h h1 => ⟨by rw [anyTo, hn.h, h1]; rfl⟩
  have hst : ∀ h : i < c.xs.length, anyTo (hitN l.sights.xs m c.xs) (i + 1) = (anyTo (hitN l.sights.xs m c.xs) i || hitN l.sights.xs m c.xs i) := fun h => rfl
  generalize hsm : anyTo (hitN l.sights.xs m c.xs) i = sm at *
  (repeat' first | simp [*, initEnv] | (refine wpIf_two (fun _ h => ?_) (fun _ h => ?_) <;> try simp [-Nat.le_zero_eq] at h) | (apply wpE_appendV; (focus (first | assumption | (repeat' first | assumption | with_reducible apply GrowV.setNew | with_reducible apply GrowV.alloc | with_reducible apply GrowV.set | (with_reducible show ¬ Names _ _; simp [*]; done)))); (focus (exact fun _ => rfl)); (focus decide); (focus (intro a; first | rfl | simp)); (focus (simp [maxCells] <;> omega))) | (refine after_intro fun v2 H2 hv2 hnx2 hget2 hnew2 hone2 hcel2 => ?_))
  all_goals try (exact (bad (by assumption) (by first | (simp [badN_at, *]; done) | (simp [badN_at, *]; omega))).h)
  all_goals try (exact ⟨i + 1, by omega, by simp, by omega, by first | (rw [hst (by assumption)]; simp [hitN_at, *]; done) | (rw [hst (by assumption)]; simp [hitN_at, *]; omega), good (by assumption) (by first | (simp [badN_at, *]; done) | (simp [badN_at, *]; omega))⟩)
  all_goals
    have : i = c.xs.length := by omega
    subst this
    rw [hP.h, hn.h, hsm]
    simp [*]
@[simp] theorem d80 (n : Nat) (H : Heap) (l_habit_step : Int) (l_habit_place : Int) (l_habit_sink : Int) (l_sights : Sl Sight) (l_notes : Sl Note) (m_id : Int) (m_kind : Int) (m_fr : Int) (m_to : Int) (c : Sl Int) (hc : (fun (l : Life) => c.xs.length + 1 ≤ l.sights.xs.length) (⟨⟨l_habit_step, l_habit_place, l_habit_sink⟩, l_sights, l_notes⟩ : Life)) (hl : (fun (l : Life) => l.sights.xs.length < 1000) (⟨⟨l_habit_step, l_habit_place, l_habit_sink⟩, l_sights, l_notes⟩ : Life)) : doCall (calleeOf G (n + 1)) H (.pure (.func 80 [])) [.pure (.agg [.int .i64 l_habit_step, .int .i64 l_habit_place, .int .i64 l_habit_sink, (l_sights).pv Sight.cells 9, (l_notes).pv Note.cells 4]), .pure (.agg [.int .i64 m_id, .int .i64 m_kind, .int .i64 m_fr, .int .i64 m_to]), .pure (c.pv intF 1)] = some (.val (.pure ((fun (l : Life) => (fun (m : Note) => .bool (notedS l.sights.xs m c.xs)) (⟨m_id, m_kind, m_fr, m_to⟩ : Note)) (⟨⟨l_habit_step, l_habit_place, l_habit_sink⟩, l_sights, l_notes⟩ : Life)))) :=
  call_pureC (ps := [_, _, _]) (caps := []) sh80 (e80 n (⟨⟨l_habit_step, l_habit_place, l_habit_sink⟩, l_sights, l_notes⟩ : Life) (⟨m_id, m_kind, m_fr, m_to⟩ : Note) c hc hl)
theorem sh91 : G.shared 91 = false := by decide
theorem e91 (n : Nat) (l : Life) (c : Sl Int) (m : Note) (hc : c.xs.length + 1 ≤ l.sights.xs.length) (hl : l.sights.xs.length < 1000) : callP G (n + 1) 91 [.agg l.cells, c.pv intF 1, .agg m.cells] = some (.bool (notedS l.sights.xs m c.xs)) := by
  refine callP_of (ext_none _) rfl g91 rfl ?_
  (repeat' first | simp [*, initEnv, c91] | (refine wpIf_two (fun _ h => ?_) (fun _ h => ?_) <;> try simp [-Nat.le_zero_eq] at h) | (apply wpE_appendV; (focus (first | assumption | (repeat' first | assumption | with_reducible apply GrowV.setNew | with_reducible apply GrowV.alloc | with_reducible apply GrowV.set | (with_reducible show ¬ Names _ _; simp [*]; done)))); (focus (exact fun _ => rfl)); (focus decide); (focus (intro a; first | rfl | simp)); (focus (simp [maxCells] <;> omega))) | (refine after_intro fun v2 H2 hv2 hnx2 hget2 hnew2 hone2 hcel2 => ?_))
  have hP : Hide (notedS l.sights.xs m c.xs = (!anyTo (badN l.sights.xs m c.xs) c.xs.length && (anyTo (hitN l.sights.xs m c.xs) c.xs.length || decide (m.kind = 0)))) := ⟨rfl⟩
  generalize notedS l.sights.xs m c.xs = P at *
  refine wp_loopF [(6, 73)] (fun (i : Nat) env H => env 8 = .pure (.int .i64 i) ∧ i ≤ c.xs.length ∧ env 7 = .pure (.bool (anyTo (hitN l.sights.xs m c.xs) i)) ∧ Hide (anyTo (badN l.sights.xs m c.xs) i = false)) (fun i => c.xs.length - i) 0 ?_ ?_ ?_ ?_
  · decide
  · simp [anyTo]
  · simp only [loopFuel]; omega
  rintro i env H ⟨h8, hi, h7, hn⟩
  have hfit : i < 9223372036854775807 := by omega
  have hi1 : i < c.xs.length → i + 1 < l.sights.xs.length := fun h => by omega
  have hi0 : i < c.xs.length → i < l.sights.xs.length := fun h => by omega
  have bad : ∀ h : i < c.xs.length, badN l.sights.xs m c.xs i = true → Hide (P = false) := fun h h1 => ⟨by rw [hP.h, anyTo_of h h1]; rfl⟩
  have good : ∀ h : i < c.xs.length, badN l.sights.xs m c.xs i = false → Hide (anyTo (badN l.sights.xs m c.xs) (i + 1) = false) := fun h h1 => ⟨by rw [anyTo, hn.h, h1]; rfl⟩
  have hst : ∀ h : i < c.xs.length, anyTo (hitN l.sights.xs m c.xs) (i + 1) = (anyTo (hitN l.sights.xs m c.xs) i || hitN l.sights.xs m c.xs i) := fun h => rfl
  generalize hsm : anyTo (hitN l.sights.xs m c.xs) i = sm at *
  (repeat' first | simp [*, initEnv] | (refine wpIf_two (fun _ h => ?_) (fun _ h => ?_) <;> try simp [-Nat.le_zero_eq] at h) | (apply wpE_appendV; (focus (first | assumption | (repeat' first | assumption | with_reducible apply GrowV.setNew | with_reducible apply GrowV.alloc | with_reducible apply GrowV.set | (with_reducible show ¬ Names _ _; simp [*]; done)))); (focus (exact fun _ => rfl)); (focus decide); (focus (intro a; first | rfl | simp)); (focus (simp [maxCells] <;> omega))) | (refine after_intro fun v2 H2 hv2 hnx2 hget2 hnew2 hone2 hcel2 => ?_))
  all_goals try (exact (bad (by assumption) (by first | (simp [badN_at, *]; done) | (simp [badN_at, *]; omega))).h)
  all_goals try (exact ⟨i + 1, by omega, by simp, by omega, by first | (rw [hst (by assumption)]; simp [hitN_at, *]; done) | (rw [hst (by assumption)]; simp [hitN_at, *]; omega), good (by assumption) (by first | (simp [badN_at, *]; done) | (simp [badN_at, *]; omega))⟩)
  all_goals
    have : i = c.xs.length := by omega
    subst this
    rw [hP.h, hn.h, hsm]
    simp [*]
@[simp] theorem d91 (n : Nat) (H : Heap) (l_habit_step : Int) (l_habit_place : Int) (l_habit_sink : Int) (l_sights : Sl Sight) (l_notes : Sl Note) (c : Sl Int) (m_id : Int) (m_kind : Int) (m_fr : Int) (m_to : Int) (hc : (fun (l : Life) => c.xs.length + 1 ≤ l.sights.xs.length) (⟨⟨l_habit_step, l_habit_place, l_habit_sink⟩, l_sights, l_notes⟩ : Life)) (hl : (fun (l : Life) => l.sights.xs.length < 1000) (⟨⟨l_habit_step, l_habit_place, l_habit_sink⟩, l_sights, l_notes⟩ : Life)) : doCall (calleeOf G (n + 1)) H (.pure (.func 91 [])) [.pure (.agg [.int .i64 l_habit_step, .int .i64 l_habit_place, .int .i64 l_habit_sink, (l_sights).pv Sight.cells 9, (l_notes).pv Note.cells 4]), .pure (c.pv intF 1), .pure (.agg [.int .i64 m_id, .int .i64 m_kind, .int .i64 m_fr, .int .i64 m_to])] = some (.val (.pure ((fun (l : Life) => (fun (m : Note) => .bool (notedS l.sights.xs m c.xs)) (⟨m_id, m_kind, m_fr, m_to⟩ : Note)) (⟨⟨l_habit_step, l_habit_place, l_habit_sink⟩, l_sights, l_notes⟩ : Life)))) :=
  call_pureC (ps := [_, _, _]) (caps := []) sh91 (e91 n (⟨⟨l_habit_step, l_habit_place, l_habit_sink⟩, l_sights, l_notes⟩ : Life) c (⟨m_id, m_kind, m_fr, m_to⟩ : Note) hc hl)
end Go.Proofs.YtjjkgamklbgnlaaGreat.Vm
