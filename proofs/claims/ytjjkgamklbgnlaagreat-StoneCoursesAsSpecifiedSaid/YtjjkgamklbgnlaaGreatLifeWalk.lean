/- What the functions that check lives compute: the program's, and the specification's. -/
import Derived.Test.YtjjkgamklbgnlaaGreatPatWalk
import Derived.Test.YtjjkgamklbgnlaaGreatVmLib
namespace Go.Proofs.YtjjkgamklbgnlaaGreat.Vm
open Go
set_option linter.unusedSimpArgs false
set_option linter.unusedVariables false
set_option maxHeartbeats 400000

structure Habit where
  step : Int
  place : Int
  sink : Int
  deriving Inhabited
@[simp] def Habit.cells (s : Habit) : List PV := [.int .i64 s.step, .int .i64 s.place, .int .i64 s.sink]
@[simp] theorem Habit.eta (s : Habit) : (⟨s.step, s.place, s.sink⟩ : Habit) = s := rfl
@[simp] theorem asF_Habit (x0 : Int) (x1 : Int) (x2 : Int) (P : Habit → Prop) {u} : asF Habit.cells [.pure (.int .i64 x0), .pure (.int .i64 x1), .pure (.int .i64 x2)] P u ↔ P ⟨x0, x1, x2⟩ := by
  constructor
  · rintro ⟨a, h, hp⟩
    simp [Habit.cells] at h
    obtain ⟨rfl, rfl, rfl⟩ := h
    exact hp
  · intro h; exact ⟨_, rfl, h⟩
@[simp] theorem putIn_Habit {l : List Habit} {i : Nat} (x0 : Int) (x1 : Int) (x2 : Int) (h : i < l.length) : putIn (.cells true (rowOf Habit.cells l)) 3 (i * 3) [.pure (.int .i64 x0), .pure (.int .i64 x1), .pure (.int .i64 x2)] = some (.cells true (rowOf Habit.cells (l.set i ⟨x0, x1, x2⟩))) := putIn_rowG (f := Habit.cells) (a := ⟨x0, x1, x2⟩) (fun _ => rfl) (fun _ => by first | rfl | simp) (by decide) h
structure Note where
  id : Int
  kind : Int
  fr : Int
  to : Int
  deriving Inhabited
@[simp] def Note.cells (s : Note) : List PV := [.int .i64 s.id, .int .i64 s.kind, .int .i64 s.fr, .int .i64 s.to]
@[simp] theorem Note.eta (s : Note) : (⟨s.id, s.kind, s.fr, s.to⟩ : Note) = s := rfl
@[simp] theorem asF_Note (x0 : Int) (x1 : Int) (x2 : Int) (x3 : Int) (P : Note → Prop) {u} : asF Note.cells [.pure (.int .i64 x0), .pure (.int .i64 x1), .pure (.int .i64 x2), .pure (.int .i64 x3)] P u ↔ P ⟨x0, x1, x2, x3⟩ := by
  constructor
  · rintro ⟨a, h, hp⟩
    simp [Note.cells] at h
    obtain ⟨rfl, rfl, rfl, rfl⟩ := h
    exact hp
  · intro h; exact ⟨_, rfl, h⟩
@[simp] theorem putIn_Note {l : List Note} {i : Nat} (x0 : Int) (x1 : Int) (x2 : Int) (x3 : Int) (h : i < l.length) : putIn (.cells true (rowOf Note.cells l)) 4 (i * 4) [.pure (.int .i64 x0), .pure (.int .i64 x1), .pure (.int .i64 x2), .pure (.int .i64 x3)] = some (.cells true (rowOf Note.cells (l.set i ⟨x0, x1, x2, x3⟩))) := putIn_rowG (f := Note.cells) (a := ⟨x0, x1, x2, x3⟩) (fun _ => rfl) (fun _ => by first | rfl | simp) (by decide) h
structure Life where
  habit : Habit
  sights : Sl Sight
  notes : Sl Note
  deriving Inhabited
@[simp] def Life.cells (s : Life) : List PV := [.int .i64 s.habit.step, .int .i64 s.habit.place, .int .i64 s.habit.sink, (s.sights).pv Sight.cells 9, (s.notes).pv Note.cells 4]
@[simp] theorem Life.eta (s : Life) : (⟨s.habit, s.sights, s.notes⟩ : Life) = s := rfl
@[simp] theorem putIn_Life {l : List Life} {i : Nat} (x0 : Int) (x1 : Int) (x2 : Int) (x3 : Sl Sight) (x4 : Sl Note) (h : i < l.length) : putIn (.cells true (rowOf Life.cells l)) 5 (i * 5) [.pure (.int .i64 x0), .pure (.int .i64 x1), .pure (.int .i64 x2), .pure ((x3).pv Sight.cells 9), .pure ((x4).pv Note.cells 4)] = some (.cells true (rowOf Life.cells (l.set i ⟨⟨x0, x1, x2⟩, x3, x4⟩))) := putIn_rowG (f := Life.cells) (a := ⟨⟨x0, x1, x2⟩, x3, x4⟩) (fun _ => rfl) (fun _ => by first | rfl | simp) (by decide) h

def inB (a b c : Int) : Bool := decide (b ≤ a) && decide (a ≤ c)
def habitS (h : Habit) : Bool := inB h.step 0 10000 && inB h.place 0 10000 && inB h.sink 0 20
theorem sh48 : G.shared 48 = false := by decide
theorem e48 (n : Nat) (h : Habit) : callP G (n + 2) 48 [.agg h.cells] = some (.bool (habitS h)) := by
  refine callP_of (ext_none _) rfl g48 rfl ?_
  (repeat' first | simp [*, initEnv, c48, Habit.cells, habitS, inB] | (refine wpIf_two (fun _ h => ?_) (fun _ h => ?_) <;> try simp [-Nat.le_zero_eq] at h) | (apply wpE_appendV; (focus (first | assumption | (repeat' first | assumption | with_reducible apply GrowV.setNew | with_reducible apply GrowV.alloc | with_reducible apply GrowV.set | (with_reducible show ¬ Names _ _; simp [*]; done)))); (focus (exact fun _ => rfl)); (focus decide); (focus (intro a; first | rfl | simp)); (focus (simp [maxCells] <;> omega))) | (refine after_intro fun v2 H2 hv2 hnx2 hget2 hnew2 hone2 hcel2 => ?_))
@[simp] theorem d48 (n : Nat) (H : Heap) (h_step : Int) (h_place : Int) (h_sink : Int) : doCall (calleeOf G (n + 2)) H (.pure (.func 48 [])) [.pure (.agg [.int .i64 h_step, .int .i64 h_place, .int .i64 h_sink])] = some (.val (.pure ((fun (h : Habit) => .bool (habitS h)) (⟨h_step, h_place, h_sink⟩ : Habit)))) :=
  call_pureC (ps := [_]) (caps := []) sh48 (e48 n (⟨h_step, h_place, h_sink⟩ : Habit))
theorem sh53 : G.shared 53 = false := by decide
theorem e53 (n : Nat) (h : Habit) : callP G (n + 2) 53 [.agg h.cells] = some (.bool (habitS h)) := by
  refine callP_of (ext_none _) rfl g53 rfl ?_
  (repeat' first | simp [*, initEnv, c53, Habit.cells, habitS, inB] | (refine wpIf_two (fun _ h => ?_) (fun _ h => ?_) <;> try simp [-Nat.le_zero_eq] at h) | (apply wpE_appendV; (focus (first | assumption | (repeat' first | assumption | with_reducible apply GrowV.setNew | with_reducible apply GrowV.alloc | with_reducible apply GrowV.set | (with_reducible show ¬ Names _ _; simp [*]; done)))); (focus (exact fun _ => rfl)); (focus decide); (focus (intro a; first | rfl | simp)); (focus (simp [maxCells] <;> omega))) | (refine after_intro fun v2 H2 hv2 hnx2 hget2 hnew2 hone2 hcel2 => ?_))
@[simp] theorem d53 (n : Nat) (H : Heap) (h_step : Int) (h_place : Int) (h_sink : Int) : doCall (calleeOf G (n + 2)) H (.pure (.func 53 [])) [.pure (.agg [.int .i64 h_step, .int .i64 h_place, .int .i64 h_sink])] = some (.val (.pure ((fun (h : Habit) => .bool (habitS h)) (⟨h_step, h_place, h_sink⟩ : Habit)))) :=
  call_pureC (ps := [_]) (caps := []) sh53 (e53 n (⟨h_step, h_place, h_sink⟩ : Habit))
def noteS (n : Note) : Bool := inB n.id 1 1099511627776 && inB n.kind 0 2 && decide (0 ≤ n.fr) && decide (n.fr ≤ n.to) && decide (n.to ≤ 4000)
/-- Are sights right, and their years increasing? -/
def sightsOk (l : List Sight) (i : Nat) : Bool := sightR l[i]! && (decide (i = 0) || decide (l[i-1]!.year < l[i]!.year))
theorem sightsOk_at {l : List Sight} {i : Nat} (h : i < l.length) : sightsOk l i = (sightR l[i] && (decide (i = 0) || decide ((l[i-1]'(by omega)).year < l[i].year))) := by
  simp only [sightsOk, getElem!_pos l i h, getElem!_pos l (i - 1) (by omega)]
def Life.ids (l : Life) : List Int := l.sights.xs.map (·.id) ++ l.notes.xs.map (·.id)
def allL {α : Type} (p : α → Bool) : List α → Bool
  | [] => true
  | a :: l => p a && allL p l
theorem allL_drop {α : Type} {p : α → Bool} {l : List α} {i : Nat} (h : i < l.length) : allL p (l.drop i) = (p l[i] && allL p (l.drop (i + 1))) := by
  rw [List.drop_eq_getElem_cons h, allL]
theorem allL_end {α : Type} {p : α → Bool} {l : List α} {i : Nat} (h : l.length ≤ i) : allL p (l.drop i) = true := by
  rw [List.drop_eq_nil_of_le h, allL]
def checkS (l : Life) : Int := if habitS l.habit = false then 1 else if (l.sights.xs.length : Int) < 1 ∨ 9 < (l.sights.xs.length : Int) ∨ 20 < (l.notes.xs.length : Int) then 2 else
  if allFrom (sightsOk l.sights.xs) l.sights.xs.length l.sights.xs.length = false then 1 else if allL noteS l.notes.xs = false then 1 else if l.ids.Nodup then 0 else 6

/-- Two numbers of a list are different. -/
def differ (ids : List Int) (i j : Nat) : Prop := ids[j]! ≠ ids[i]!
theorem sh16 : G.shared 16 = false := by decide
theorem e16 (n : Nat) (l : Life) (hl : l.sights.xs.length ≤ 9 → l.notes.xs.length ≤ 20 → ∀ s ∈ l.sights.xs, s.letters.length ≤ 20) : callP G (n + 5) 16 [.agg l.cells] = some (.int .i64 (checkS l)) := by
  refine callP_of (ext_none _) rfl g16 rfl ?_
  (repeat' first | simp [*, initEnv, c16] | (refine wpIf_two (fun _ h => ?_) (fun _ h => ?_) <;> try simp [-Nat.le_zero_eq] at h) | (apply wpE_appendV; (focus (first | assumption | (repeat' first | assumption | with_reducible apply GrowV.setNew | with_reducible apply GrowV.alloc | with_reducible apply GrowV.set | (with_reducible show ¬ Names _ _; simp [*]; done)))); (focus (exact fun _ => rfl)); (focus decide); (focus (intro a; first | rfl | simp)); (focus (simp [maxCells] <;> omega))) | (refine after_intro fun v2 H2 hv2 hnx2 hget2 hnew2 hone2 hcel2 => ?_))
  all_goals try first
    | (simp [checkS, *]; done)
    | (simp [checkS, *]; omega)
  have hP : Hide (checkS l = if allFrom (sightsOk l.sights.xs) l.sights.xs.length l.sights.xs.length = false then 1 else if allL noteS l.notes.xs = false then 1 else if l.ids.Nodup then 0 else 6) := by
    constructor
    rw [checkS, if_neg (by simp [*])]
    split
    · omega
    · rfl
  generalize checkS l = P at *
  refine wp_loopF [(2, 2), (4, 6), (34, 77)] (fun (i : Nat) env H => env 5 = .pure (.int .i64 i) ∧ i ≤ l.sights.xs.length ∧ GrowV intF 1 H (env 4) ((l.sights.xs.take i).map (·.id)) ∧
      Hide (allFrom (sightsOk l.sights.xs) l.sights.xs.length l.sights.xs.length = allFrom (sightsOk l.sights.xs) l.sights.xs.length (l.sights.xs.length - i))) (fun i => l.sights.xs.length - i) 0 ?_ ?_ ?_ ?_
  · decide
  · simp [GrowV.nil]
  · simp only [loopFuel]; omega
  rintro i env H ⟨h5, hi, hg, hall⟩
  have hl2 : ∀ (h : i < l.sights.xs.length), l.sights.xs[i].letters.length < 1152921504606846975 := fun h => by have := hl (by omega) (by omega) _ (List.getElem_mem h); omega
  have hfit : i < 9223372036854775807 := by omega
  have hp1 : i - 1 < l.sights.xs.length := by omega
  have bad : ∀ h : i < l.sights.xs.length, sightsOk l.sights.xs i = false → Hide (P = 1) := fun h h1 => ⟨by rw [hP.h, hall.h, allFrom_step h, h1]; simp⟩
  have good : ∀ h : i < l.sights.xs.length, sightsOk l.sights.xs i = true → Hide (allFrom (sightsOk l.sights.xs) l.sights.xs.length l.sights.xs.length = allFrom (sightsOk l.sights.xs) l.sights.xs.length (l.sights.xs.length - (i + 1))) := fun h h1 => ⟨by rw [hall.h, allFrom_step h, h1]; simp⟩
  (repeat' first | simp [*, initEnv] | (refine wpIf_two (fun _ h => ?_) (fun _ h => ?_) <;> try simp [-Nat.le_zero_eq] at h) | (apply wpE_appendV; (focus (first | assumption | (repeat' first | assumption | with_reducible apply GrowV.setNew | with_reducible apply GrowV.alloc | with_reducible apply GrowV.set | (with_reducible show ¬ Names _ _; simp [*]; done)))); (focus (exact fun _ => rfl)); (focus decide); (focus (intro a; first | rfl | simp)); (focus (simp [maxCells] <;> omega))) | (refine after_intro fun v2 H2 hv2 hnx2 hget2 hnew2 hone2 hcel2 => ?_))
  all_goals try (exact (bad (by assumption) (by first | (simp [sightsOk_at, *]; done) | (simp [sightsOk_at, *]; omega))).h.symm)
  all_goals try (refine ⟨i + 1, by omega, by simp, by omega, ?_, good (by assumption) (by first | (simp [sightsOk_at, *]; done) | (simp [sightsOk_at, *]; omega))⟩; refine hv2.cast ?_; simp [List.take_add_one, *]; done)
  have hn : i = l.sights.xs.length := by omega
  subst hn
  clear bad good h5 hl2 hp1 hi hfit
  rw [List.take_length] at hg
  have hP2 : Hide (P = if allL noteS l.notes.xs = false then 1 else if l.ids.Nodup then 0 else 6) := ⟨by rw [hP.h, hall.h, allFrom_end (Nat.le_refl _)]; rfl⟩
  clear hP hall
  refine wp_loopF [(2, 2), (4, 4), (7, 10), (78, 123)] (fun (i : Nat) env H => env 7 = .pure (.int .i64 i) ∧ i ≤ l.notes.xs.length ∧ GrowV intF 1 H (env 4) (l.sights.xs.map (·.id) ++ (l.notes.xs.take i).map (·.id)) ∧
      Hide (allL noteS l.notes.xs = allL noteS (l.notes.xs.drop i))) (fun i => l.notes.xs.length - i) 0 ?_ ?_ ?_ ?_
  · decide
  · simp [hg]
  · simp only [loopFuel]; omega
  rintro i env H ⟨h5, hi, hg, hall⟩
  have hfit : i < 9223372036854775807 := by omega
  have bad : ∀ h : i < l.notes.xs.length, noteS l.notes.xs[i] = false → Hide (P = 1) := fun h h1 => ⟨by rw [hP2.h, hall.h, allL_drop h, h1]; simp⟩
  have good : ∀ h : i < l.notes.xs.length, noteS l.notes.xs[i] = true → Hide (allL noteS l.notes.xs = allL noteS (l.notes.xs.drop (i + 1))) := fun h h1 => ⟨by rw [hall.h, allL_drop h, h1]; simp⟩
  (repeat' first | simp [*, initEnv] | (refine wpIf_two (fun _ h => ?_) (fun _ h => ?_) <;> try simp [-Nat.le_zero_eq] at h) | (apply wpE_appendV; (focus (first | assumption | (repeat' first | assumption | with_reducible apply GrowV.setNew | with_reducible apply GrowV.alloc | with_reducible apply GrowV.set | (with_reducible show ¬ Names _ _; simp [*]; done)))); (focus (exact fun _ => rfl)); (focus decide); (focus (intro a; first | rfl | simp)); (focus (simp [maxCells] <;> omega))) | (refine after_intro fun v2 H2 hv2 hnx2 hget2 hnew2 hone2 hcel2 => ?_))
  all_goals try (exact (bad (by assumption) (by first | (simp [noteS, inB, *]; done) | (simp [noteS, inB, *]; omega))).h.symm)
  all_goals try (refine ⟨i + 1, by omega, by simp, by omega, ?_, good (by assumption) (by first | (simp [noteS, inB, *]; done) | (simp [noteS, inB, *]; omega))⟩; refine hv2.cast ?_; simp [List.take_add_one, *]; done)
  have hn : i = l.notes.xs.length := by omega
  subst hn
  have hP3 : Hide (P = if l.ids.Nodup then 0 else 6) := ⟨by rw [hP2.h, hall.h, allL_end (Nat.le_refl _)]; rfl⟩
  have hids : l.sights.xs.map (·.id) ++ (l.notes.xs.take l.notes.xs.length).map (·.id) = l.ids := by rw [List.take_length]; rfl
  rw [hids] at hg
  have hlen : l.ids.length < 100 := by simp [Life.ids]; omega
  have hne : l.ids ≠ [] := by
    intro h0
    have h1 : l.ids.length = 0 := by rw [h0]; rfl
    have h2 : l.ids.length = l.sights.xs.length + l.notes.xs.length := by simp [Life.ids]
    omega
  clear bad good hfit hP2 hall hi h5 hids
  generalize l.ids = ids at *
  obtain ⟨id, hrow, hget⟩ := hg.1.row hne
  refine wp_loopF [(2, 2), (11, 12), (124, 143)] (fun (i : Nat) env H => env 11 = .pure (.int .i64 i) ∧ i ≤ ids.length ∧ H.get id = .cells true (rowOf intF ids) ∧ Hide ((ids.take i).Nodup)) (fun i => ids.length - i) 0 ?_ ?_ ?_ ?_
  · decide
  · simp [hget]
  · simp only [loopFuel]; omega
  rintro i env H ⟨h5, hi, hget, hnd⟩
  have hfit : i < 9223372036854775807 := by omega
  have hstep : ∀ h : i < ids.length, (∀ j, j < i → differ ids i j) → Hide ((ids.take (i + 1)).Nodup) := fun h hj => ⟨by
    rw [← take_succ' h, List.nodup_append]
    refine ⟨hnd.h, by simp, fun a ha b hb e => ?_⟩
    simp at hb
    subst hb
    obtain ⟨j, hj1, hj2⟩ := List.getElem_of_mem ha
    simp at hj1 hj2
    refine hj j (by omega) ?_
    rw [getElem!_pos ids j (by omega), getElem!_pos ids i h, hj2, e]⟩
  (repeat' first | simp [*, initEnv] | (refine wpIf_two (fun _ h => ?_) (fun _ h => ?_) <;> try simp [-Nat.le_zero_eq] at h) | (apply wpE_appendV; (focus (first | assumption | (repeat' first | assumption | with_reducible apply GrowV.setNew | with_reducible apply GrowV.alloc | with_reducible apply GrowV.set | (with_reducible show ¬ Names _ _; simp [*]; done)))); (focus (exact fun _ => rfl)); (focus decide); (focus (intro a; first | rfl | simp)); (focus (simp [maxCells] <;> omega))) | (refine after_intro fun v2 H2 hv2 hnx2 hget2 hnew2 hone2 hcel2 => ?_))
  · have hi1 : i < ids.length := by assumption
    refine wp_loopF [(2, 2), (12, 12), (130, 143)] (fun (k : Nat) env H => env 12 = .pure (.int .i64 k) ∧ k ≤ i ∧ H.get id = .cells true (rowOf intF ids) ∧ Hide (∀ j, j < k → differ ids i j)) (fun k => i - k) 0 ?_ ?_ ?_ ?_
    · decide
    · simp [hget]
    · simp only [loopFuel]; omega
    rintro k env H ⟨h5, hi, hget, hne⟩
    have hk1 : k < i → k < ids.length := fun h => by omega
    have hfit : k < 9223372036854775807 := by omega
    (repeat' first | simp [*, initEnv] | (refine wpIf_two (fun _ h => ?_) (fun _ h => ?_) <;> try simp [-Nat.le_zero_eq] at h) | (apply wpE_appendV; (focus (first | assumption | (repeat' first | assumption | with_reducible apply GrowV.setNew | with_reducible apply GrowV.alloc | with_reducible apply GrowV.set | (with_reducible show ¬ Names _ _; simp [*]; done)))); (focus (exact fun _ => rfl)); (focus decide); (focus (intro a; first | rfl | simp)); (focus (simp [maxCells] <;> omega))) | (refine after_intro fun v2 H2 hv2 hnx2 hget2 hnew2 hone2 hcel2 => ?_))
    · have hk : k < i := by assumption
      have he : ids[i] = ids[k]'(by omega) := by assumption
      rw [hP3.h, if_neg]
      intro hN
      exact (List.pairwise_iff_getElem.1 hN) k i (by omega) hi1 hk he.symm
    · have hk : k < i := by assumption
      have he : ¬ ids[i] = ids[k]'(by omega) := by assumption
      refine ⟨k + 1, by omega, by simp, by omega, ⟨fun j hj => ?_⟩⟩
      by_cases hjk : j < k
      · exact hne.h j hjk
      · have : j = k := by omega
        subst this
        unfold differ
        rw [getElem!_pos ids j (by omega), getElem!_pos ids i hi1]
        exact fun e => he e.symm
    · have hk : k = i := by omega
      subst hk
      exact ⟨k + 1, by omega, by simp, by omega, hstep hi1 hne.h⟩
  · have : i = ids.length := by omega
    subst this
    have h9 := hnd.h
    rw [List.take_length] at h9
    rw [hP3.h, if_pos h9]
@[simp] theorem d16 (n : Nat) (H : Heap) (l_habit_step : Int) (l_habit_place : Int) (l_habit_sink : Int) (l_sights : Sl Sight) (l_notes : Sl Note) (hl : (fun (l : Life) => l.sights.xs.length ≤ 9 → l.notes.xs.length ≤ 20 → ∀ s ∈ l.sights.xs, s.letters.length ≤ 20) (⟨⟨l_habit_step, l_habit_place, l_habit_sink⟩, l_sights, l_notes⟩ : Life)) : doCall (calleeOf G (n + 5)) H (.pure (.func 16 [])) [.pure (.agg [.int .i64 l_habit_step, .int .i64 l_habit_place, .int .i64 l_habit_sink, (l_sights).pv Sight.cells 9, (l_notes).pv Note.cells 4])] = some (.val (.pure ((fun (l : Life) => .int .i64 (checkS l)) (⟨⟨l_habit_step, l_habit_place, l_habit_sink⟩, l_sights, l_notes⟩ : Life)))) :=
  call_pureC (ps := [_]) (caps := []) sh16 (e16 n (⟨⟨l_habit_step, l_habit_place, l_habit_sink⟩, l_sights, l_notes⟩ : Life) hl)

theorem nodup_len (l : List Int) : (compactL (isort l)).length < l.length ↔ ¬ l.Nodup := by
  have hs : ∀ (l : List Int) (o : Option Int), l.Pairwise (· ≤ ·) → (∀ x, o = some x → ∀ y ∈ l, x ≤ y) → ((goC o l).length < l.length ↔ ¬ (l.Nodup ∧ ∀ x, o = some x → x ∉ l)) := by
    intro l
    induction l with
    | nil => intro o _ _; simp [goC]
    | cons a r ih =>
      intro o hp ho
      rw [List.pairwise_cons] at hp
      simp only [goC]
      split
      · rename_i h
        have := goC_le r o
        constructor
        · intro _ ⟨_, h2⟩; exact h2 a h (by simp)
        · intro _; simp; omega
      · rename_i h
        rw [List.length_cons, List.length_cons, Nat.add_lt_add_iff_right, ih (some a) hp.2 (fun x hx y hy => by simp at hx; subst hx; exact hp.1 y hy)]
        rw [not_congr]
        rw [List.nodup_cons]
        constructor
        · rintro ⟨h1, h2⟩
          refine ⟨⟨h2 a rfl, h1⟩, fun x hx hm => ?_⟩
          rcases List.mem_cons.1 hm with rfl | hm
          · exact h hx
          · have h3 := ho x hx a (by simp)
            have h4 := hp.1 x hm
            have : x = a := by omega
            subst this
            exact h hx
        · rintro ⟨⟨h1, h2⟩, h3⟩
          exact ⟨h2, fun x hx => by simp at hx; subst hx; exact h1⟩
  have := hs (isort l) none (isort_sorted l) (fun x hx => by simp at hx)
  rw [isort_length] at this
  rw [compactL, this, (isort_perm l).nodup_iff]
  simp

theorem runSort (n : Nat) (args : List AV) (H : Heap) (r : AV × Heap) (h : sortRun args H = some r) : Vm.call G (n + 1) (.fn 50) args H = some r := by
  rw [call_fn]
  have : G.extRun 50 args H = sortRun args H := rfl
  rw [this, h]
theorem sh_sort : G.shared 50 = true := by decide
theorem sh_clone : G.shared 52 = true := by decide
theorem sh_compact : G.shared 51 = true := by decide

theorem sh15 : G.shared 15 = false := by decide
theorem e15 (n : Nat) (l : Life) (hl : l.sights.xs.length ≤ 9 → l.notes.xs.length ≤ 20 → ∀ s ∈ l.sights.xs, s.letters.length ≤ 20) : callP G (n + 5) 15 [.agg l.cells] = some (.int .i64 (checkS l)) := by
  refine callP_of (ext_none _) rfl g15 rfl ?_
  (repeat' first | simp [*, initEnv, c15] | (refine wpIf_two (fun _ h => ?_) (fun _ h => ?_) <;> try simp [-Nat.le_zero_eq] at h) | (apply wpE_appendV; (focus (first | assumption | (repeat' first | assumption | with_reducible apply GrowV.setNew | with_reducible apply GrowV.alloc | with_reducible apply GrowV.set | (with_reducible show ¬ Names _ _; simp [*]; done)))); (focus (exact fun _ => rfl)); (focus decide); (focus (intro a; first | rfl | simp)); (focus (simp [maxCells] <;> omega))) | (refine after_intro fun v2 H2 hv2 hnx2 hget2 hnew2 hone2 hcel2 => ?_))
  all_goals try first
    | (simp [checkS, *]; done)
    | (simp [checkS, *]; omega)
  have hP : Hide (checkS l = if allFrom (sightsOk l.sights.xs) l.sights.xs.length l.sights.xs.length = false then 1 else if allL noteS l.notes.xs = false then 1 else if l.ids.Nodup then 0 else 6) := by
    constructor
    rw [checkS, if_neg (by simp [*])]
    split
    · omega
    · rfl
  generalize checkS l = P at *
  refine wp_loopF [(2, 6), (29, 58)] (fun (i : Nat) env H => env 29 = .pure (.int .i64 i) ∧ i ≤ l.sights.xs.length ∧ GrowV intF 1 H (env 3) ((l.sights.xs.take i).map (·.id)) ∧
      Hide (allFrom (sightsOk l.sights.xs) l.sights.xs.length l.sights.xs.length = allFrom (sightsOk l.sights.xs) l.sights.xs.length (l.sights.xs.length - i))) (fun i => l.sights.xs.length - i) 0 ?_ ?_ ?_ ?_
  · decide
  · simp [GrowV.nil]
  · simp only [loopFuel]; omega
  rintro i env H ⟨h5, hi, hg, hall⟩
  have hfit : i < 9223372036854775807 := by omega
  have hp1 : i - 1 < l.sights.xs.length := by omega
  have bad : ∀ h : i < l.sights.xs.length, sightsOk l.sights.xs i = false → Hide (P = 1) := fun h h1 => ⟨by rw [hP.h, hall.h, allFrom_step h, h1]; simp⟩
  have good : ∀ h : i < l.sights.xs.length, sightsOk l.sights.xs i = true → Hide (allFrom (sightsOk l.sights.xs) l.sights.xs.length l.sights.xs.length = allFrom (sightsOk l.sights.xs) l.sights.xs.length (l.sights.xs.length - (i + 1))) := fun h h1 => ⟨by rw [hall.h, allFrom_step h, h1]; simp⟩
  (repeat' first | simp [*, initEnv, sightS_sightR] | (refine wpIf_two (fun _ h => ?_) (fun _ h => ?_) <;> try simp [-Nat.le_zero_eq] at h) | (apply wpE_appendV; (focus (first | assumption | (repeat' first | assumption | with_reducible apply GrowV.setNew | with_reducible apply GrowV.alloc | with_reducible apply GrowV.set | (with_reducible show ¬ Names _ _; simp [*]; done)))); (focus (exact fun _ => rfl)); (focus decide); (focus (intro a; first | rfl | simp)); (focus (simp [maxCells] <;> omega))) | (refine after_intro fun v2 H2 hv2 hnx2 hget2 hnew2 hone2 hcel2 => ?_))
  all_goals try (exact (bad (by assumption) (by first | (simp [sightsOk_at, *]; done) | (simp [sightsOk_at, *]; omega))).h.symm)
  all_goals try (refine ⟨i + 1, by omega, by simp, by omega, ?_, good (by assumption) (by first | (simp [sightsOk_at, *]; done) | (simp [sightsOk_at, *]; omega))⟩; refine hv2.cast ?_; simp [List.take_add_one, *]; done)
  have hn : i = l.sights.xs.length := by omega
  subst hn
  clear bad good h5 hp1 hi hfit
  rw [List.take_length] at hg
  have hP2 : Hide (P = if allL noteS l.notes.xs = false then 1 else if l.ids.Nodup then 0 else 6) := ⟨by rw [hP.h, hall.h, allFrom_end (Nat.le_refl _)]; rfl⟩
  clear hP hall
  refine wp_loopF [(2, 3), (8, 8), (62, 98)] (fun (i : Nat) env H => env 62 = .pure (.int .i64 i) ∧ i ≤ l.notes.xs.length ∧ GrowV intF 1 H (env 3) (l.sights.xs.map (·.id) ++ (l.notes.xs.take i).map (·.id)) ∧
      Hide (allL noteS l.notes.xs = allL noteS (l.notes.xs.drop i))) (fun i => l.notes.xs.length - i) 0 ?_ ?_ ?_ ?_
  · decide
  · simp [hg]
  · simp only [loopFuel]; omega
  rintro i env H ⟨h5, hi, hg, hall⟩
  have hfit : i < 9223372036854775807 := by omega
  have bad : ∀ h : i < l.notes.xs.length, noteS l.notes.xs[i] = false → Hide (P = 1) := fun h h1 => ⟨by rw [hP2.h, hall.h, allL_drop h, h1]; simp⟩
  have good : ∀ h : i < l.notes.xs.length, noteS l.notes.xs[i] = true → Hide (allL noteS l.notes.xs = allL noteS (l.notes.xs.drop (i + 1))) := fun h h1 => ⟨by rw [hall.h, allL_drop h, h1]; simp⟩
  (repeat' first | simp [*, initEnv] | (refine wpIf_two (fun _ h => ?_) (fun _ h => ?_) <;> try simp [-Nat.le_zero_eq] at h) | (apply wpE_appendV; (focus (first | assumption | (repeat' first | assumption | with_reducible apply GrowV.setNew | with_reducible apply GrowV.alloc | with_reducible apply GrowV.set | (with_reducible show ¬ Names _ _; simp [*]; done)))); (focus (exact fun _ => rfl)); (focus decide); (focus (intro a; first | rfl | simp)); (focus (simp [maxCells] <;> omega))) | (refine after_intro fun v2 H2 hv2 hnx2 hget2 hnew2 hone2 hcel2 => ?_))
  all_goals try (exact (bad (by assumption) (by first | (simp [noteS, inB, *]; done) | (simp [noteS, inB, *]; omega))).h.symm)
  all_goals try (refine ⟨i + 1, by omega, by simp, by omega, ?_, good (by assumption) (by first | (simp [noteS, inB, *]; done) | (simp [noteS, inB, *]; omega))⟩; refine hv2.cast ?_; simp [List.take_add_one, *]; done)
  have hn : i = l.notes.xs.length := by omega
  subst hn
  have hP3 : Hide (P = if l.ids.Nodup then 0 else 6) := ⟨by rw [hP2.h, hall.h, allL_end (Nat.le_refl _)]; rfl⟩
  have hids : l.sights.xs.map (·.id) ++ (l.notes.xs.take l.notes.xs.length).map (·.id) = l.ids := by rw [List.take_length]; rfl
  rw [hids] at hg
  have hlen : l.ids.length < 100 := by simp [Life.ids]; omega
  have hne : l.ids ≠ [] := by
    intro h0
    have h1 : l.ids.length = 0 := by rw [h0]; rfl
    have h2 : l.ids.length = l.sights.xs.length + l.notes.xs.length := by simp [Life.ids]
    omega
  clear bad good hfit hP2 hall hi h5 hids
  generalize l.ids = ids at *
  obtain ⟨id, hrow, hget⟩ := hg.1.row hne
  obtain ⟨H1, hs1, hs2, hs3, hs4, hs5⟩ := sortRun_own (v := env 3) (l := ids) ⟨id, [], hrow, by rw [List.append_nil]; exact hget⟩ (by simp [maxCells]; omega)
  rw [hrow] at hs5
  have hget1 := hs5 id rfl hget
  clear hs2 hs5
  refine wpE_run (caps := []) sh_sort ⟨_, _, runSort _ _ _ _ hs1, ?_⟩
  (repeat' first | simp [*, initEnv] | (refine wpIf_two (fun _ h => ?_) (fun _ h => ?_) <;> try simp [-Nat.le_zero_eq] at h) | (apply wpE_appendV; (focus (first | assumption | (repeat' first | assumption | with_reducible apply GrowV.setNew | with_reducible apply GrowV.alloc | with_reducible apply GrowV.set | (with_reducible show ¬ Names _ _; simp [*]; done)))); (focus (exact fun _ => rfl)); (focus decide); (focus (intro a; first | rfl | simp)); (focus (simp [maxCells] <;> omega))) | (refine after_intro fun v2 H2 hv2 hnx2 hget2 hnew2 hone2 hcel2 => ?_))
  have il := isort_length ids
  refine wpE_run (caps := []) sh_clone ?_
  have hsc : sliceCells H1 1 (.row id 1 0 ids.length) = some (rowOf intF (isort ids), (isort ids).length) := by
    rw [sliceCells_row, hget1]
    have := rowOf_length (f := intF) (sz := 1) (fun _ => rfl) (isort ids)
    simp only [rowCells]
    rw [if_pos (by omega), Nat.zero_mul, List.drop_zero, List.take_of_length_le (by omega), il]
  refine clone_call (b := false) (fun _ => rfl) g52 hsc rfl (fun h => by cases h) (fun _ => rfl) (by decide) (fun _ => rfl) (by simp [maxCells]; omega) ?_
  intro v2 H2 hv2 hnil hnx hget2 hnew
  obtain ⟨id2, hrow2, hget3⟩ := hv2.row (by intro h; rw [h] at il; simp at il; exact hne (List.eq_nil_of_length_eq_zero il.symm))
  subst hrow2
  (repeat' first | simp [*, initEnv] | (refine wpIf_two (fun _ h => ?_) (fun _ h => ?_) <;> try simp [-Nat.le_zero_eq] at h) | (apply wpE_appendV; (focus (first | assumption | (repeat' first | assumption | with_reducible apply GrowV.setNew | with_reducible apply GrowV.alloc | with_reducible apply GrowV.set | (with_reducible show ¬ Names _ _; simp [*]; done)))); (focus (exact fun _ => rfl)); (focus decide); (focus (intro a; first | rfl | simp)); (focus (simp [maxCells] <;> omega))) | (refine after_intro fun v2 H2 hv2 hnx2 hget2 hnew2 hone2 hcel2 => ?_))
  refine wpE_run (caps := []) sh_compact ?_
  refine compact_call (fun _ _ => rfl) g51 hget3 (by omega) il.symm ?_
  rintro v3 H3 ⟨id3, rest, hrow3, hg3⟩ hnx3 hoth3 hnam3
  subst hrow3
  have hnl : Hide _ := ⟨nodup_len ids⟩
  (repeat' first | simp [*, initEnv] | (refine wpIf_two (fun _ h => ?_) (fun _ h => ?_) <;> try simp [-Nat.le_zero_eq] at h) | (apply wpE_appendV; (focus (first | assumption | (repeat' first | assumption | with_reducible apply GrowV.setNew | with_reducible apply GrowV.alloc | with_reducible apply GrowV.set | (with_reducible show ¬ Names _ _; simp [*]; done)))); (focus (exact fun _ => rfl)); (focus decide); (focus (intro a; first | rfl | simp)); (focus (simp [maxCells] <;> omega))) | (refine after_intro fun v2 H2 hv2 hnx2 hget2 hnew2 hone2 hcel2 => ?_))
  · have hc : (compactL (isort ids)).length < ids.length := by assumption
    rw [hP3.h, if_neg (hnl.h.1 hc)]
  · have hc : ¬ (compactL (isort ids)).length < ids.length := by omega
    rw [hP3.h, if_pos (Classical.byContradiction fun h => hc (hnl.h.2 h))]
@[simp] theorem d15 (n : Nat) (H : Heap) (l_habit_step : Int) (l_habit_place : Int) (l_habit_sink : Int) (l_sights : Sl Sight) (l_notes : Sl Note) (hl : (fun (l : Life) => l.sights.xs.length ≤ 9 → l.notes.xs.length ≤ 20 → ∀ s ∈ l.sights.xs, s.letters.length ≤ 20) (⟨⟨l_habit_step, l_habit_place, l_habit_sink⟩, l_sights, l_notes⟩ : Life)) : doCall (calleeOf G (n + 5)) H (.pure (.func 15 [])) [.pure (.agg [.int .i64 l_habit_step, .int .i64 l_habit_place, .int .i64 l_habit_sink, (l_sights).pv Sight.cells 9, (l_notes).pv Note.cells 4])] = some (.val (.pure ((fun (l : Life) => .int .i64 (checkS l)) (⟨⟨l_habit_step, l_habit_place, l_habit_sink⟩, l_sights, l_notes⟩ : Life)))) :=
  call_pureC (ps := [_]) (caps := []) sh15 (e15 n (⟨⟨l_habit_step, l_habit_place, l_habit_sink⟩, l_sights, l_notes⟩ : Life) hl)

end Go.Proofs.YtjjkgamklbgnlaaGreat.Vm
