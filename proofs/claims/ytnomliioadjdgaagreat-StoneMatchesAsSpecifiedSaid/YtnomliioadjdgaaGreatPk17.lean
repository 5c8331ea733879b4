/- What the functions that check lives compute: the program's, and the specification's. What the functions of courses compute: the program's, and the specification's. What the functions of spans and letters compute: the program's, and the specification's. What the functions of letters compute: the program's, and the specification's. What a course tells of a life: the program's function tell. What the specification's spans compute. What the specification's Can, Fits and Tell compute. Once forth and once back is what narrowing again and again comes to: plain Lean. -/
import Derived.Test.YtnomliioadjdgaaGreatPk15
import Derived.Test.YtnomliioadjdgaaGreatPk16
namespace Go.Proofs.YtnomliioadjdgaaGreat.Vm
open Go
set_option linter.unusedSimpArgs false
set_option linter.unusedVariables false
set_option maxHeartbeats 400000

structure Habit where
  step : Int
  place : Int
  sink : Int
  deriving Inhabited
@[simp] def Habit.cells (s : Habit) : List PV := [.int .i64 s.step, .int .i64 s.place, .int .i64 s.sink]
@[simp] theorem Habit.eta (s : Habit) : (⟨s.step, s.place, s.sink⟩ : Habit) = s := rfl
@[simp] theorem asF_Habit (x0 : Int) (x1 : Int) (x2 : Int) (P : Habit → Prop) {u} : asF Habit.cells [.pure (.int .i64 x0), .pure (.int .i64 x1), .pure (.int .i64 x2)] P u ↔ P ⟨x0, x1, x2⟩ := by
  constructor
  · rintro ⟨a, h, hp⟩
    simp [Habit.cells] at h
    obtain ⟨rfl, rfl, rfl⟩ := h
    exact hp
  · intro h; exact ⟨_, rfl, h⟩
@[simp] theorem putIn_Habit {l : List Habit} {i : Nat} (x0 : Int) (x1 : Int) (x2 : Int) (h : i < l.length) : putIn (.cells true (rowOf Habit.cells l)) 3 (i * 3) [.pure (.int .i64 x0), .pure (.int .i64 x1), .pure (.int .i64 x2)] = some (.cells true (rowOf Habit.cells (l.set i ⟨x0, x1, x2⟩))) := putIn_rowG (f := Habit.cells) (a := ⟨x0, x1, x2⟩) (fun _ => rfl) (fun _ => by first | rfl | simp) (by decide) h
structure Note where
  id : Int
  kind : Int
  fr : Int
  to : Int
  deriving Inhabited
@[simp] def Note.cells (s : Note) : List PV := [.int .i64 s.id, .int .i64 s.kind, .int .i64 s.fr, .int .i64 s.to]
@[simp] theorem Note.eta (s : Note) : (⟨s.id, s.kind, s.fr, s.to⟩ : Note) = s := rfl
@[simp] theorem asF_Note (x0 : Int) (x1 : Int) (x2 : Int) (x3 : Int) (P : Note → Prop) {u} : asF Note.cells [.pure (.int .i64 x0), .pure (.int .i64 x1), .pure (.int .i64 x2), .pure (.int .i64 x3)] P u ↔ P ⟨x0, x1, x2, x3⟩ := by
  constructor
  · rintro ⟨a, h, hp⟩
    simp [Note.cells] at h
    obtain ⟨rfl, rfl, rfl, rfl⟩ := h
    exact hp
  · intro h; exact ⟨_, rfl, h⟩
@[simp] theorem putIn_Note {l : List Note} {i : Nat} (x0 : Int) (x1 : Int) (x2 : Int) (x3 : Int) (h : i < l.length) : putIn (.cells true (rowOf Note.cells l)) 4 (i * 4) [.pure (.int .i64 x0), .pure (.int .i64 x1), .pure (.int .i64 x2), .pure (.int .i64 x3)] = some (.cells true (rowOf Note.cells (l.set i ⟨x0, x1, x2, x3⟩))) := putIn_rowG (f := Note.cells) (a := ⟨x0, x1, x2, x3⟩) (fun _ => rfl) (fun _ => by first | rfl | simp) (by decide) h
structure Life where
  habit : Habit
  sights : Sl Sight
  notes : Sl Note
  deriving Inhabited
@[simp] def Life.cells (s : Life) : List PV := [.int .i64 s.habit.step, .int .i64 s.habit.place, .int .i64 s.habit.sink, (s.sights).pv Sight.cells 9, (s.notes).pv Note.cells 4]
@[simp] theorem Life.eta (s : Life) : (⟨s.habit, s.sights, s.notes⟩ : Life) = s := rfl
@[simp] theorem putIn_Life {l : List Life} {i : Nat} (x0 : Int) (x1 : Int) (x2 : Int) (x3 : Sl Sight) (x4 : Sl Note) (h : i < l.length) : putIn (.cells true (rowOf Life.cells l)) 5 (i * 5) [.pure (.int .i64 x0), .pure (.int .i64 x1), .pure (.int .i64 x2), .pure ((x3).pv Sight.cells 9), .pure ((x4).pv Note.cells 4)] = some (.cells true (rowOf Life.cells (l.set i ⟨⟨x0, x1, x2⟩, x3, x4⟩))) := putIn_rowG (f := Life.cells) (a := ⟨⟨x0, x1, x2⟩, x3, x4⟩) (fun _ => rfl) (fun _ => by first | rfl | simp) (by decide) h

def inB (a b c : Int) : Bool := decide (b ≤ a) && decide (a ≤ c)
def habitS (h : Habit) : Bool := inB h.step 0 10000 && inB h.place 0 10000 && inB h.sink 0 20
theorem sh85 : G.shared 85 = false := by decide
theorem e85 (n : Nat) (h : Habit) : callP G (n + 2) 85 [.agg h.cells] = some (.bool (habitS h)) := by
  refine callP_of (ext_none _) rfl g85 rfl ?_
  (repeat' first | simp [*, initEnv, c85, Habit.cells, habitS, inB] | (refine wpIf_two (fun _ h => ?_) (fun _ h => ?_) <;> try simp [-Nat.le_zero_eq] at h))
@[simp] theorem d85 (n : Nat) (H : Heap) (h_step : Int) (h_place : Int) (h_sink : Int) : doCall (calleeOf G (n + 2)) H (.pure (.func 85 [])) [.pure (.agg [.int .i64 h_step, .int .i64 h_place, .int .i64 h_sink])] = some (.val (.pure ((fun (h : Habit) => .bool (habitS h)) (⟨h_step, h_place, h_sink⟩ : Habit)))) :=
  call_pureC (ps := [_]) (caps := []) sh85 (e85 n (⟨h_step, h_place, h_sink⟩ : Habit))
theorem sh90 : G.shared 90 = false := by decide
theorem e90 (n : Nat) (h : Habit) : callP G (n + 2) 90 [.agg h.cells] = some (.bool (habitS h)) := by
  refine callP_of (ext_none _) rfl g90 rfl ?_
  (repeat' first | simp [*, initEnv, c90, Habit.cells, habitS, inB] | (refine wpIf_two (fun _ h => ?_) (fun _ h => ?_) <;> try simp [-Nat.le_zero_eq] at h))
@[simp] theorem d90 (n : Nat) (H : Heap) (h_step : Int) (h_place : Int) (h_sink : Int) : doCall (calleeOf G (n + 2)) H (.pure (.func 90 [])) [.pure (.agg [.int .i64 h_step, .int .i64 h_place, .int .i64 h_sink])] = some (.val (.pure ((fun (h : Habit) => .bool (habitS h)) (⟨h_step, h_place, h_sink⟩ : Habit)))) :=
  call_pureC (ps := [_]) (caps := []) sh90 (e90 n (⟨h_step, h_place, h_sink⟩ : Habit))
def noteS (n : Note) : Bool := inB n.id 1 1099511627776 && inB n.kind 0 2 && decide (0 ≤ n.fr) && decide (n.fr ≤ n.to) && decide (n.to ≤ 4000)
/-- Are sights right, and their years increasing? -/
def sightsOk (l : List Sight) (i : Nat) : Bool := sightR l[i]! && (decide (i = 0) || decide (l[i-1]!.year < l[i]!.year))
theorem sightsOk_at {l : List Sight} {i : Nat} (h : i < l.length) : sightsOk l i = (sightR l[i] && (decide (i = 0) || decide ((l[i-1]'(by omega)).year < l[i].year))) := by
  simp only [sightsOk, getElem!_pos l i h, getElem!_pos l (i - 1) (by omega)]
def Life.ids (l : Life) : List Int := l.sights.xs.map (·.id) ++ l.notes.xs.map (·.id)
def allL {α : Type} (p : α → Bool) : List α → Bool
  | [] => true
  | a :: l => p a && allL p l
theorem allL_drop {α : Type} {p : α → Bool} {l : List α} {i : Nat} (h : i < l.length) : allL p (l.drop i) = (p l[i] && allL p (l.drop (i + 1))) := by
  rw [List.drop_eq_getElem_cons h, allL]
theorem allL_end {α : Type} {p : α → Bool} {l : List α} {i : Nat} (h : l.length ≤ i) : allL p (l.drop i) = true := by
  rw [List.drop_eq_nil_of_le h, allL]
def checkS (l : Life) : Int := if habitS l.habit = false then 1 else if (l.sights.xs.length : Int) < 1 ∨ 9 < (l.sights.xs.length : Int) ∨ 20 < (l.notes.xs.length : Int) then 2 else
  if allFrom (sightsOk l.sights.xs) l.sights.xs.length l.sights.xs.length = false then 1 else if allL noteS l.notes.xs = false then 1 else if l.ids.Nodup then 0 else 6

/-- Two numbers of a list are different. -/
def differ (ids : List Int) (i j : Nat) : Prop := ids[j]! ≠ ids[i]!
theorem sh43 : G.shared 43 = false := by decide
theorem e43 (n : Nat) (l : Life) (hl : l.sights.xs.length ≤ 9 → l.notes.xs.length ≤ 20 → ∀ s ∈ l.sights.xs, s.letters.length ≤ 20) : callP G (n + 5) 43 [.agg l.cells] = some (.int .i64 (checkS l)) := by
  refine callP_of (ext_none _) rfl g43 rfl ?_
  (repeat' first | simp [*, initEnv, c43] | (refine wpIf_two (fun _ h => ?_) (fun _ h => ?_) <;> try simp [-Nat.le_zero_eq] at h) | (apply wpE_appendV; (focus (first | assumption | (repeat' first | assumption | with_reducible apply GrowV.setNew | with_reducible apply GrowV.alloc | with_reducible apply GrowV.set | (with_reducible show ¬ Names _ _; simp [*]; done)))); (focus (exact fun _ => rfl)); (focus decide); (focus (intro a; first | rfl | simp)); (focus (simp [maxCells] <;> omega))) | (refine after_intro fun v2 H2 hv2 hnx2 hget2 hnew2 hone2 hcel2 => ?_))
  all_goals try first
    | (simp [checkS, *]; done)
    | (simp [checkS, *]; omega)
  have hP : Hide (checkS l = if allFrom (sightsOk l.sights.xs) l.sights.xs.length l.sights.xs.length = false then 1 else if allL noteS l.notes.xs = false then 1 else if l.ids.Nodup then 0 else 6) := by
    constructor
    rw [checkS, if_neg (by simp [*])]
    split
    · omega
    · rfl
  generalize checkS l = P at *
  refine wp_loopF [(2, 2), (4, 6), (34, 77)] (fun (i : Nat) env H => env 5 = .pure (.int .i64 i) ∧ i ≤ l.sights.xs.length ∧ GrowV intF 1 H (env 4) ((l.sights.xs.take i).map (·.id)) ∧
      Hide (allFrom (sightsOk l.sights.xs) l.sights.xs.length l.sights.xs.length = allFrom (sightsOk l.sights.xs) l.sights.xs.length (l.sights.xs.length - i))) (fun i => l.sights.xs.length - i) 0 ?_ ?_ ?_ ?_
  · decide
  · simp [GrowV.nil]
  · simp only [loopFuel]; omega
  rintro i env H ⟨h5, hi, hg, hall⟩
  have hl2 : ∀ (h : i < l.sights.xs.length), l.sights.xs[i].letters.length < 1152921504606846975 := fun h => by have := hl (by omega) (by omega) _ (List.getElem_mem h); omega
  have hfit : i < 9223372036854775807 := by omega
  have hp1 : i - 1 < l.sights.xs.length := by omega
  have bad : ∀ h : i < l.sights.xs.length, sightsOk l.sights.xs i = false → Hide (P = 1) := fun h h1 => ⟨by rw [hP.h, hall.h, allFrom_step h, h1]; simp⟩
  have good : ∀ h : i < l.sights.xs.length, sightsOk l.sights.xs i = true → Hide (allFrom (sightsOk l.sights.xs) l.sights.xs.length l.sights.xs.length = allFrom (sightsOk l.sights.xs) l.sights.xs.length (l.sights.xs.length - (i + 1))) := fun h h1 => ⟨by rw [hall.h, allFrom_step h, h1]; simp⟩
  (repeat' first | simp [*, initEnv] | (refine wpIf_two (fun _ h => ?_) (fun _ h => ?_) <;> try simp [-Nat.le_zero_eq] at h) | (apply wpE_appendV; (focus (first | assumption | (repeat' first | assumption | with_reducible apply GrowV.setNew | with_reducible apply GrowV.alloc | with_reducible apply GrowV.set | (with_reducible show ¬ Names _ _; simp [*]; done)))); (focus (exact fun _ => rfl)); (focus decide); (focus (intro a; first | rfl | simp)); (focus (simp [maxCells] <;> omega))) | (refine after_intro fun v2 H2 hv2 hnx2 hget2 hnew2 hone2 hcel2 => ?_))
  all_goals try (exact (bad (by assumption) (by first | (simp [sightsOk_at, *]; done) | (simp [sightsOk_at, *]; omega))).h.symm)
  all_goals try (refine ⟨i + 1, by omega, by simp, by omega, ?_, good (by assumption) (by first | (simp [sightsOk_at, *]; done) | (simp [sightsOk_at, *]; omega))⟩; refine hv2.cast ?_; simp [List.take_add_one, *]; done)
  have hn : i = l.sights.xs.length := by omega
  subst hn
  clear bad good h5 hl2 hp1 hi hfit
  rw [List.take_length] at hg
  have hP2 : Hide (P = if allL noteS l.notes.xs = false then 1 else if l.ids.Nodup then 0 else 6) := ⟨by rw [hP.h, hall.h, allFrom_end (Nat.le_refl _)]; rfl⟩
  clear hP hall
  refine wp_loopF [(2, 2), (4, 4), (7, 10), (78, 123)] (fun (i : Nat) env H => env 7 = .pure (.int .i64 i) ∧ i ≤ l.notes.xs.length ∧ GrowV intF 1 H (env 4) (l.sights.xs.map (·.id) ++ (l.notes.xs.take i).map (·.id)) ∧
      Hide (allL noteS l.notes.xs = allL noteS (l.notes.xs.drop i))) (fun i => l.notes.xs.length - i) 0 ?_ ?_ ?_ ?_
  · decide
  · simp [hg]
  · simp only [loopFuel]; omega
  rintro i env H ⟨h5, hi, hg, hall⟩
  have hfit : i < 9223372036854775807 := by omega
  have bad : ∀ h : i < l.notes.xs.length, noteS l.notes.xs[i] = false → Hide (P = 1) := fun h h1 => ⟨by rw [hP2.h, hall.h, allL_drop h, h1]; simp⟩
  have good : ∀ h : i < l.notes.xs.length, noteS l.notes.xs[i] = true → Hide (allL noteS l.notes.xs = allL noteS (l.notes.xs.drop (i + 1))) := fun h h1 => ⟨by rw [hall.h, allL_drop h, h1]; simp⟩
  (repeat' first | simp [*, initEnv] | (refine wpIf_two (fun _ h => ?_) (fun _ h => ?_) <;> try simp [-Nat.le_zero_eq] at h) | (apply wpE_appendV; (focus (first | assumption | (repeat' first | assumption | with_reducible apply GrowV.setNew | with_reducible apply GrowV.alloc | with_reducible apply GrowV.set | (with_reducible show ¬ Names _ _; simp [*]; done)))); (focus (exact fun _ => rfl)); (focus decide); (focus (intro a; first | rfl | simp)); (focus (simp [maxCells] <;> omega))) | (refine after_intro fun v2 H2 hv2 hnx2 hget2 hnew2 hone2 hcel2 => ?_))
  all_goals try (exact (bad (by assumption) (by first | (simp [noteS, inB, *]; done) | (simp [noteS, inB, *]; omega))).h.symm)
  all_goals try (refine ⟨i + 1, by omega, by simp, by omega, ?_, good (by assumption) (by first | (simp [noteS, inB, *]; done) | (simp [noteS, inB, *]; omega))⟩; refine hv2.cast ?_; simp [List.take_add_one, *]; done)
  have hn : i = l.notes.xs.length := by omega
  subst hn
  have hP3 : Hide (P = if l.ids.Nodup then 0 else 6) := ⟨by rw [hP2.h, hall.h, allL_end (Nat.le_refl _)]; rfl⟩
  have hids : l.sights.xs.map (·.id) ++ (l.notes.xs.take l.notes.xs.length).map (·.id) = l.ids := by rw [List.take_length]; rfl
  rw [hids] at hg
  have hlen : l.ids.length < 100 := by simp [Life.ids]; omega
  have hne : l.ids ≠ [] := by
    intro h0
    have h1 : l.ids.length = 0 := by rw [h0]; rfl
    have h2 : l.ids.length = l.sights.xs.length + l.notes.xs.length := by simp [Life.ids]
    omega
  clear bad good hfit hP2 hall hi h5 hids
  generalize l.ids = ids at *
  obtain ⟨id, hrow, hget⟩ := hg.1.row hne
  refine wp_loopF [(2, 2), (11, 12), (124, 143)] (fun (i : Nat) env H => env 11 = .pure (.int .i64 i) ∧ i ≤ ids.length ∧ H.get id = .cells true (rowOf intF ids) ∧ Hide ((ids.take i).Nodup)) (fun i => ids.length - i) 0 ?_ ?_ ?_ ?_
  · decide
  · simp [hget]
  · simp only [loopFuel]; omega
  rintro i env H ⟨h5, hi, hget, hnd⟩
  have hfit : i < 9223372036854775807 := by omega
  have hstep : ∀ h : i < ids.length, (∀ j, j < i → differ ids i j) → Hide ((ids.take (i + 1)).Nodup) := fun h hj => ⟨by
    rw [← take_succ' h, List.nodup_append]
    refine ⟨hnd.h, by simp, fun a ha b hb e => ?_⟩
    simp at hb
    subst hb
    obtain ⟨j, hj1, hj2⟩ := List.getElem_of_mem ha
    simp at hj1 hj2
    refine hj j (by omega) ?_
    rw [getElem!_pos ids j (by omega), getElem!_pos ids i h, hj2, e]⟩
  (repeat' first | simp [*, initEnv] | (refine wpIf_two (fun _ h => ?_) (fun _ h => ?_) <;> try simp [-Nat.le_zero_eq] at h) | (apply wpE_appendV; (focus (first | assumption | (repeat' first | assumption | with_reducible apply GrowV.setNew | with_reducible apply GrowV.alloc | with_reducible apply GrowV.set | (with_reducible show ¬ Names _ _; simp [*]; done)))); (focus (exact fun _ => rfl)); (focus decide); (focus (intro a; first | rfl | simp)); (focus (simp [maxCells] <;> omega))) | (refine after_intro fun v2 H2 hv2 hnx2 hget2 hnew2 hone2 hcel2 => ?_))
  · have hi1 : i < ids.length := by assumption
    refine wp_loopF [(2, 2), (12, 12), (130, 143)] (fun (k : Nat) env H => env 12 = .pure (.int .i64 k) ∧ k ≤ i ∧ H.get id = .cells true (rowOf intF ids) ∧ Hide (∀ j, j < k → differ ids i j)) (fun k => i - k) 0 ?_ ?_ ?_ ?_
    · decide
    · simp [hget]
    · simp only [loopFuel]; omega
    rintro k env H ⟨h5, hi, hget, hne⟩
    have hk1 : k < i → k < ids.length := fun h => by omega
    have hfit : k < 9223372036854775807 := by omega
    (repeat' first | simp [*, initEnv] | (refine wpIf_two (fun _ h => ?_) (fun _ h => ?_) <;> try simp [-Nat.le_zero_eq] at h) | (apply wpE_appendV; (focus (first | assumption | (repeat' first | assumption | with_reducible apply GrowV.setNew | with_reducible apply GrowV.alloc | with_reducible apply GrowV.set | (with_reducible show ¬ Names _ _; simp [*]; done)))); (focus (exact fun _ => rfl)); (focus decide); (focus (intro a; first | rfl | simp)); (focus (simp [maxCells] <;> omega))) | (refine after_intro fun v2 H2 hv2 hnx2 hget2 hnew2 hone2 hcel2 => ?_))
    · have hk : k < i := by assumption
      have he : ids[i] = ids[k]'(by omega) := by assumption
      rw [hP3.h, if_neg]
      intro hN
      exact (List.pairwise_iff_getElem.1 hN) k i (by omega) hi1 hk he.symm
    · have hk : k < i := by assumption
      have he : ¬ ids[i] = ids[k]'(by omega) := by assumption
      refine ⟨k + 1, by omega, by simp, by omega, ⟨fun j hj => ?_⟩⟩
      by_cases hjk : j < k
      · exact hne.h j hjk
      · have : j = k := by omega
        subst this
        unfold differ
        rw [getElem!_pos ids j (by omega), getElem!_pos ids i hi1]
        exact fun e => he e.symm
    · have hk : k = i := by omega
      subst hk
      exact ⟨k + 1, by omega, by simp, by omega, hstep hi1 hne.h⟩
  · have : i = ids.length := by omega
    subst this
    have h9 := hnd.h
    rw [List.take_length] at h9
    rw [hP3.h, if_pos h9]
@[simp] theorem d43 (n : Nat) (H : Heap) (l_habit_step : Int) (l_habit_place : Int) (l_habit_sink : Int) (l_sights : Sl Sight) (l_notes : Sl Note) (hl : (fun (l : Life) => l.sights.xs.length ≤ 9 → l.notes.xs.length ≤ 20 → ∀ s ∈ l.sights.xs, s.letters.length ≤ 20) (⟨⟨l_habit_step, l_habit_place, l_habit_sink⟩, l_sights, l_notes⟩ : Life)) : doCall (calleeOf G (n + 5)) H (.pure (.func 43 [])) [.pure (.agg [.int .i64 l_habit_step, .int .i64 l_habit_place, .int .i64 l_habit_sink, (l_sights).pv Sight.cells 9, (l_notes).pv Note.cells 4])] = some (.val (.pure ((fun (l : Life) => .int .i64 (checkS l)) (⟨⟨l_habit_step, l_habit_place, l_habit_sink⟩, l_sights, l_notes⟩ : Life)))) :=
  call_pureC (ps := [_]) (caps := []) sh43 (e43 n (⟨⟨l_habit_step, l_habit_place, l_habit_sink⟩, l_sights, l_notes⟩ : Life) hl)

theorem nodup_len (l : List Int) : (compactL (isort l)).length < l.length ↔ ¬ l.Nodup := by
  have hs : ∀ (l : List Int) (o : Option Int), l.Pairwise (· ≤ ·) → (∀ x, o = some x → ∀ y ∈ l, x ≤ y) → ((goC o l).length < l.length ↔ ¬ (l.Nodup ∧ ∀ x, o = some x → x ∉ l)) := by
    intro l
    induction l with
    | nil => intro o _ _; simp [goC]
    | cons a r ih =>
      intro o hp ho
      rw [List.pairwise_cons] at hp
      simp only [goC]
      split
      · rename_i h
        have := goC_le r o
        constructor
        · intro _ ⟨_, h2⟩; exact h2 a h (by simp)
        · intro _; simp; omega
      · rename_i h
        rw [List.length_cons, List.length_cons, Nat.add_lt_add_iff_right, ih (some a) hp.2 (fun x hx y hy => by simp at hx; subst hx; exact hp.1 y hy)]
        rw [not_congr]
        rw [List.nodup_cons]
        constructor
        · rintro ⟨h1, h2⟩
          refine ⟨⟨h2 a rfl, h1⟩, fun x hx hm => ?_⟩
          rcases List.mem_cons.1 hm with rfl | hm
          · exact h hx
          · have h3 := ho x hx a (by simp)
            have h4 := hp.1 x hm
            have : x = a := by omega
            subst this
            exact h hx
        · rintro ⟨⟨h1, h2⟩, h3⟩
          exact ⟨h2, fun x hx => by simp at hx; subst hx; exact h1⟩
  have := hs (isort l) none (isort_sorted l) (fun x hx => by simp at hx)
  rw [isort_length] at this
  rw [compactL, this, (isort_perm l).nodup_iff]
  simp

theorem runSort (n : Nat) (args : List AV) (H : Heap) (r : AV × Heap) (h : sortRun args H = some r) : Vm.call G (n + 1) (.fn 83) args H = some r := by
  rw [call_fn]
  have : G.extRun 83 args H = sortRun args H := rfl
  rw [this, h]
theorem sh_sort : G.shared 83 = true := by decide
theorem sh_clone : G.shared 88 = true := by decide
theorem sh_compact : G.shared 87 = true := by decide

theorem sh41 : G.shared 41 = false := by decide
theorem e41 (n : Nat) (l : Life) (hl : l.sights.xs.length ≤ 9 → l.notes.xs.length ≤ 20 → ∀ s ∈ l.sights.xs, s.letters.length ≤ 20) : callP G (n + 5) 41 [.agg l.cells] = some (.int .i64 (checkS l)) := by
  refine callP_of (ext_none _) rfl g41 rfl ?_
  (repeat' first | simp [*, initEnv, c41] | (refine wpIf_two (fun _ h => ?_) (fun _ h => ?_) <;> try simp [-Nat.le_zero_eq] at h) | (apply wpE_appendV; (focus (first | assumption | (repeat' first | assumption | with_reducible apply GrowV.setNew | with_reducible apply GrowV.alloc | with_reducible apply GrowV.set | (with_reducible show ¬ Names _ _; simp [*]; done)))); (focus (exact fun _ => rfl)); (focus decide); (focus (intro a; first | rfl | simp)); (focus (simp [maxCells] <;> omega))) | (refine after_intro fun v2 H2 hv2 hnx2 hget2 hnew2 hone2 hcel2 => ?_))
  all_goals try first
    | (simp [checkS, *]; done)
    | (simp [checkS, *]; omega)
  have hP : Hide (checkS l = if allFrom (sightsOk l.sights.xs) l.sights.xs.length l.sights.xs.length = false then 1 else if allL noteS l.notes.xs = false then 1 else if l.ids.Nodup then 0 else 6) := by
    constructor
    rw [checkS, if_neg (by simp [*])]
    split
    · omega
    · rfl
  generalize checkS l = P at *
  refine wp_loopF [(2, 6), (29, 58)] (fun (i : Nat) env H => env 29 = .pure (.int .i64 i) ∧ i ≤ l.sights.xs.length ∧ GrowV intF 1 H (env 3) ((l.sights.xs.take i).map (·.id)) ∧
      Hide (allFrom (sightsOk l.sights.xs) l.sights.xs.length l.sights.xs.length = allFrom (sightsOk l.sights.xs) l.sights.xs.length (l.sights.xs.length - i))) (fun i => l.sights.xs.length - i) 0 ?_ ?_ ?_ ?_
  · decide
  · simp [GrowV.nil]
  · simp only [loopFuel]; omega
  rintro i env H ⟨h5, hi, hg, hall⟩
  have hfit : i < 9223372036854775807 := by omega
  have hp1 : i - 1 < l.sights.xs.length := by omega
  have bad : ∀ h : i < l.sights.xs.length, sightsOk l.sights.xs i = false → Hide (P = 1) := fun h h1 => ⟨by rw [hP.h, hall.h, allFrom_step h, h1]; simp⟩
  have good : ∀ h : i < l.sights.xs.length, sightsOk l.sights.xs i = true → Hide (allFrom (sightsOk l.sights.xs) l.sights.xs.length l.sights.xs.length = allFrom (sightsOk l.sights.xs) l.sights.xs.length (l.sights.xs.length - (i + 1))) := fun h h1 => ⟨by rw [hall.h, allFrom_step h, h1]; simp⟩
  (repeat' first | simp [*, initEnv, sightS_sightR] | (refine wpIf_two (fun _ h => ?_) (fun _ h => ?_) <;> try simp [-Nat.le_zero_eq] at h) | (apply wpE_appendV; (focus (first | assumption | (repeat' first | assumption | with_reducible apply GrowV.setNew | with_reducible apply GrowV.alloc | with_reducible apply GrowV.set | (with_reducible show ¬ Names _ _; simp [*]; done)))); (focus (exact fun _ => rfl)); (focus decide); (focus (intro a; first | rfl | simp)); (focus (simp [maxCells] <;> omega))) | (refine after_intro fun v2 H2 hv2 hnx2 hget2 hnew2 hone2 hcel2 => ?_))
  all_goals try (exact (bad (by assumption) (by first | (simp [sightsOk_at, *]; done) | (simp [sightsOk_at, *]; omega))).h.symm)
  all_goals try (refine ⟨i + 1, by omega, by simp, by omega, ?_, good (by assumption) (by first | (simp [sightsOk_at, *]; done) | (simp [sightsOk_at, *]; omega))⟩; refine hv2.cast ?_; simp [List.take_add_one, *]; done)
  have hn : i = l.sights.xs.length := by omega
  subst hn
  clear bad good h5 hp1 hi hfit
  rw [List.take_length] at hg
  have hP2 : Hide (P = if allL noteS l.notes.xs = false then 1 else if l.ids.Nodup then 0 else 6) := ⟨by rw [hP.h, hall.h, allFrom_end (Nat.le_refl _)]; rfl⟩
  clear hP hall
  refine wp_loopF [(2, 3), (8, 8), (62, 98)] (fun (i : Nat) env H => env 62 = .pure (.int .i64 i) ∧ i ≤ l.notes.xs.length ∧ GrowV intF 1 H (env 3) (l.sights.xs.map (·.id) ++ (l.notes.xs.take i).map (·.id)) ∧
      Hide (allL noteS l.notes.xs = allL noteS (l.notes.xs.drop i))) (fun i => l.notes.xs.length - i) 0 ?_ ?_ ?_ ?_
  · decide
  · simp [hg]
  · simp only [loopFuel]; omega
  rintro i env H ⟨h5, hi, hg, hall⟩
  have hfit : i < 9223372036854775807 := by omega
  have bad : ∀ h : i < l.notes.xs.length, noteS l.notes.xs[i] = false → Hide (P = 1) := fun h h1 => ⟨by rw [hP2.h, hall.h, allL_drop h, h1]; simp⟩
  have good : ∀ h : i < l.notes.xs.length, noteS l.notes.xs[i] = true → Hide (allL noteS l.notes.xs = allL noteS (l.notes.xs.drop (i + 1))) := fun h h1 => ⟨by rw [hall.h, allL_drop h, h1]; simp⟩
  (repeat' first | simp [*, initEnv] | (refine wpIf_two (fun _ h => ?_) (fun _ h => ?_) <;> try simp [-Nat.le_zero_eq] at h) | (apply wpE_appendV; (focus (first | assumption | (repeat' first | assumption | with_reducible apply GrowV.setNew | with_reducible apply GrowV.alloc | with_reducible apply GrowV.set | (with_reducible show ¬ Names _ _; simp [*]; done)))); (focus (exact fun _ => rfl)); (focus decide); (focus (intro a; first | rfl | simp)); (focus (simp [maxCells] <;> omega))) | (refine after_intro fun v2 H2 hv2 hnx2 hget2 hnew2 hone2 hcel2 => ?_))
  all_goals try (exact (bad (by assumption) (by first | (simp [noteS, inB, *]; done) | (simp [noteS, inB, *]; omega))).h.symm)
  all_goals try (refine ⟨i + 1, by omega, by simp, by omega, ?_, good (by assumption) (by first | (simp [noteS, inB, *]; done) | (simp [noteS, inB, *]; omega))⟩; refine hv2.cast ?_; simp [List.take_add_one, *]; done)
  have hn : i = l.notes.xs.length := by omega
  subst hn
  have hP3 : Hide (P = if l.ids.Nodup then 0 else 6) := ⟨by rw [hP2.h, hall.h, allL_end (Nat.le_refl _)]; rfl⟩
  have hids : l.sights.xs.map (·.id) ++ (l.notes.xs.take l.notes.xs.length).map (·.id) = l.ids := by rw [List.take_length]; rfl
  rw [hids] at hg
  have hlen : l.ids.length < 100 := by simp [Life.ids]; omega
  have hne : l.ids ≠ [] := by
    intro h0
    have h1 : l.ids.length = 0 := by rw [h0]; rfl
    have h2 : l.ids.length = l.sights.xs.length + l.notes.xs.length := by simp [Life.ids]
    omega
  clear bad good hfit hP2 hall hi h5 hids
  generalize l.ids = ids at *
  obtain ⟨id, hrow, hget⟩ := hg.1.row hne
  obtain ⟨H1, hs1, hs2, hs3, hs4, hs5⟩ := sortRun_own (v := env 3) (l := ids) ⟨id, [], hrow, by rw [List.append_nil]; exact hget⟩ (by simp [maxCells]; omega)
  rw [hrow] at hs5
  have hget1 := hs5 id rfl hget
  clear hs2 hs5
  refine wpE_run (caps := []) sh_sort ⟨_, _, runSort _ _ _ _ hs1, ?_⟩
  (repeat' first | simp [*, initEnv] | (refine wpIf_two (fun _ h => ?_) (fun _ h => ?_) <;> try simp [-Nat.le_zero_eq] at h) | (apply wpE_appendV; (focus (first | assumption | (repeat' first | assumption | with_reducible apply GrowV.setNew | with_reducible apply GrowV.alloc | with_reducible apply GrowV.set | (with_reducible show ¬ Names _ _; simp [*]; done)))); (focus (exact fun _ => rfl)); (focus decide); (focus (intro a; first | rfl | simp)); (focus (simp [maxCells] <;> omega))) | (refine after_intro fun v2 H2 hv2 hnx2 hget2 hnew2 hone2 hcel2 => ?_))
  have il := isort_length ids
  refine wpE_run (caps := []) sh_clone ?_
  have hsc : sliceCells H1 1 (.row id 1 0 ids.length) = some (rowOf intF (isort ids), (isort ids).length) := by
    rw [sliceCells_row, hget1]
    have := rowOf_length (f := intF) (sz := 1) (fun _ => rfl) (isort ids)
    simp only [rowCells]
    rw [if_pos (by omega), Nat.zero_mul, List.drop_zero, List.take_of_length_le (by omega), il]
  refine clone_call (b := false) (fun _ => rfl) g88 hsc rfl (fun h => by cases h) (fun _ => rfl) (by decide) (fun _ => rfl) (by simp [maxCells]; omega) ?_
  intro v2 H2 hv2 hnil hnx hget2 hnew
  obtain ⟨id2, hrow2, hget3⟩ := hv2.row (by intro h; rw [h] at il; simp at il; exact hne (List.eq_nil_of_length_eq_zero il.symm))
  subst hrow2
  (repeat' first | simp [*, initEnv] | (refine wpIf_two (fun _ h => ?_) (fun _ h => ?_) <;> try simp [-Nat.le_zero_eq] at h) | (apply wpE_appendV; (focus (first | assumption | (repeat' first | assumption | with_reducible apply GrowV.setNew | with_reducible apply GrowV.alloc | with_reducible apply GrowV.set | (with_reducible show ¬ Names _ _; simp [*]; done)))); (focus (exact fun _ => rfl)); (focus decide); (focus (intro a; first | rfl | simp)); (focus (simp [maxCells] <;> omega))) | (refine after_intro fun v2 H2 hv2 hnx2 hget2 hnew2 hone2 hcel2 => ?_))
  refine wpE_run (caps := []) sh_compact ?_
  refine compact_call (fun _ _ => rfl) g87 hget3 (by omega) il.symm ?_
  rintro v3 H3 ⟨id3, rest, hrow3, hg3⟩ hnx3 hoth3 hnam3
  subst hrow3
  have hnl : Hide _ := ⟨nodup_len ids⟩
  (repeat' first | simp [*, initEnv] | (refine wpIf_two (fun _ h => ?_) (fun _ h => ?_) <;> try simp [-Nat.le_zero_eq] at h) | (apply wpE_appendV; (focus (first | assumption | (repeat' first | assumption | with_reducible apply GrowV.setNew | with_reducible apply GrowV.alloc | with_reducible apply GrowV.set | (with_reducible show ¬ Names _ _; simp [*]; done)))); (focus (exact fun _ => rfl)); (focus decide); (focus (intro a; first | rfl | simp)); (focus (simp [maxCells] <;> omega))) | (refine after_intro fun v2 H2 hv2 hnx2 hget2 hnew2 hone2 hcel2 => ?_))
  · have hc : (compactL (isort ids)).length < ids.length := by assumption
    rw [hP3.h, if_neg (hnl.h.1 hc)]
  · have hc : ¬ (compactL (isort ids)).length < ids.length := by omega
    rw [hP3.h, if_pos (Classical.byContradiction fun h => hc (hnl.h.2 h))]
@[simp] theorem d41 (n : Nat) (H : Heap) (l_habit_step : Int) (l_habit_place : Int) (l_habit_sink : Int) (l_sights : Sl Sight) (l_notes : Sl Note) (hl : (fun (l : Life) => l.sights.xs.length ≤ 9 → l.notes.xs.length ≤ 20 → ∀ s ∈ l.sights.xs, s.letters.length ≤ 20) (⟨⟨l_habit_step, l_habit_place, l_habit_sink⟩, l_sights, l_notes⟩ : Life)) : doCall (calleeOf G (n + 5)) H (.pure (.func 41 [])) [.pure (.agg [.int .i64 l_habit_step, .int .i64 l_habit_place, .int .i64 l_habit_sink, (l_sights).pv Sight.cells 9, (l_notes).pv Note.cells 4])] = some (.val (.pure ((fun (l : Life) => .int .i64 (checkS l)) (⟨⟨l_habit_step, l_habit_place, l_habit_sink⟩, l_sights, l_notes⟩ : Life)))) :=
  call_pureC (ps := [_]) (caps := []) sh41 (e41 n (⟨⟨l_habit_step, l_habit_place, l_habit_sink⟩, l_sights, l_notes⟩ : Life) hl)

end Go.Proofs.YtnomliioadjdgaaGreat.Vm

namespace Go.Proofs.YtnomliioadjdgaaGreat.Vm
open Go
set_option linter.unusedSimpArgs false
set_option linter.unusedVariables false
set_option maxHeartbeats 4000000

/-! ### Kinds of a course, notes -/
/-- No kind of a gap. -/
def gapB (k : Int) : Bool := !(decide (0 ≤ k) && decide (k ≤ 2))
def gapAt (c : List Int) (i : Nat) : Bool := gapB c[i]!
def kindsS (l : Life) (c : List Int) : Bool := decide ((c.length : Int) = l.sights.xs.length - 1) && !c.any gapB
theorem sh129 : G.shared 129 = false := by decide
theorem e129 (n : Nat) (k : Int) : callP G (n + 2) 129 [.int .i64 k] = some (.bool (gapB k)) := by
  refine callP_of (ext_none _) rfl g129 rfl ?_
  (repeat' first | simp [*, initEnv, c129, gapB] | (refine wpIf_two (fun _ h => ?_) (fun _ h => ?_) <;> try simp [-Nat.le_zero_eq] at h))
@[simp] theorem d129 (n : Nat) (H : Heap) (k : Int) : doCall (calleeOf G (n + 2)) H (.pure (.func 129 [])) [.pure (.int .i64 k)] = some (.val (.pure (.bool (gapB k)))) :=
  call_pureC (ps := [_]) (caps := []) sh129 (e129 n k)
theorem sh128 : G.shared 128 = false := by decide
theorem e128 (n : Nat) (c : Sl Int) (hc : c.xs.length < 1000) : callP G (n + 4) 128 [c.pv intF 1, .func 129 []] = some (.bool (c.xs.any gapB)) := by
  refine callP_of (ext_none _) rfl g128 rfl ?_
  have h := indexFunc_call (n := n + 2) (f := intF) (sz := 1) (g := false) (p := .func 129 []) (q := gapB) (s := c) (ext_none 156) (fun _ _ => rfl) g156 (fun _ => rfl) (by omega) (fun H a ha => ⟨.pure (.int .i64 a), rfl, d129 n H a⟩)
  have hd : ∀ H, doCall (calleeOf G (n + 3)) H (.pure (.func 156 [])) [.pure (c.pv intF 1), .pure (.func 129 [])] = some (.val (.pure (.int .i64 (idxL gapB c.xs 0)))) := fun H => call_pure (ps := [_, _]) (by decide) h
  have ha := idxL_any gapB c.xs 0
  (repeat' first | simp [*, initEnv, c128, ha] | (refine wpIf_two (fun _ h => ?_) (fun _ h => ?_) <;> try simp [-Nat.le_zero_eq] at h))
@[simp] theorem d128 (n : Nat) (H : Heap) (c : Sl Int) (hc : c.xs.length < 1000) : doCall (calleeOf G (n + 4)) H (.pure (.func 128 [])) [.pure (c.pv intF 1), .pure (.func 129 [])] = some (.val (.pure (.bool (c.xs.any gapB)))) :=
  call_pureC (ps := [_, _]) (caps := []) sh128 (e128 n c hc)
theorem sh97 : G.shared 97 = false := by decide
theorem e97 (n : Nat) (l : Life) (c : Sl Int) (hc : c.xs.length < 1000) (hl : l.sights.xs.length < 1000) : callP G (n + 5) 97 [.agg l.cells, c.pv intF 1] = some (.bool (kindsS l c.xs)) := by
  refine callP_of (ext_none _) rfl g97 rfl ?_
  have hw : IntKind.i64.wrap ((l.sights.xs.length : Int) - 1) = (l.sights.xs.length : Int) - 1 := wrap64 (by omega) (by omega)
  (repeat' first | simp [*, initEnv, c97, kindsS] | (refine wpIf_two (fun _ h => ?_) (fun _ h => ?_) <;> try simp [-Nat.le_zero_eq] at h))
@[simp] theorem d97 (n : Nat) (H : Heap) (l_habit_step : Int) (l_habit_place : Int) (l_habit_sink : Int) (l_sights : Sl Sight) (l_notes : Sl Note) (c : Sl Int) (hc : c.xs.length < 1000) (hl : (fun (l : Life) => l.sights.xs.length < 1000) (⟨⟨l_habit_step, l_habit_place, l_habit_sink⟩, l_sights, l_notes⟩ : Life)) : doCall (calleeOf G (n + 5)) H (.pure (.func 97 [])) [.pure (.agg [.int .i64 l_habit_step, .int .i64 l_habit_place, .int .i64 l_habit_sink, (l_sights).pv Sight.cells 9, (l_notes).pv Note.cells 4]), .pure (c.pv intF 1)] = some (.val (.pure ((fun (l : Life) => .bool (kindsS l c.xs)) (⟨⟨l_habit_step, l_habit_place, l_habit_sink⟩, l_sights, l_notes⟩ : Life)))) :=
  call_pureC (ps := [_, _]) (caps := []) sh97 (e97 n (⟨⟨l_habit_step, l_habit_place, l_habit_sink⟩, l_sights, l_notes⟩ : Life) c hc hl)
theorem sh99 : G.shared 99 = false := by decide
theorem e99 (n : Nat) (l : Life) (c : Sl Int) (hc : c.xs.length < 1000) (hl : l.sights.xs.length < 1000) : callP G (n + 1) 99 [.agg l.cells, c.pv intF 1] = some (.int .i64 (if kindsS l c.xs = true then 0 else 50)) := by
  refine callP_of (ext_none _) rfl g99 rfl ?_
  have hw : IntKind.i64.wrap ((l.sights.xs.length : Int) - 1) = (l.sights.xs.length : Int) - 1 := wrap64 (by omega) (by omega)
  (repeat' first | simp [*, initEnv, c99] | (refine wpIf_two (fun _ h => ?_) (fun _ h => ?_) <;> try simp [-Nat.le_zero_eq] at h))
  all_goals try (simp [kindsS, *]; done)
  have hk : (c.xs.length : Int) = l.sights.xs.length - 1 := by assumption
  have hP : Hide ((if kindsS l c.xs = true then (0 : Int) else 50) = if anyTo (gapAt c.xs) c.xs.length = true then 50 else 0) := by
    constructor
    have : anyTo (gapAt c.xs) c.xs.length = c.xs.any gapB := by
      rw [Bool.eq_iff_iff, anyTo_iff, List.any_eq_true]
      constructor
      · rintro ⟨i, h1, h2⟩
        unfold gapAt at h2
        rw [getElem!_pos c.xs i h1] at h2
        exact ⟨_, List.getElem_mem h1, h2⟩
      · rintro ⟨x, h1, h2⟩
        obtain ⟨i, h3, rfl⟩ := List.getElem_of_mem h1
        exact ⟨i, h3, by unfold gapAt; rw [getElem!_pos c.xs i h3]; exact h2⟩
    rw [this]
    have hk2 : kindsS l c.xs = !c.xs.any gapB := by simp only [kindsS, decide_eq_true hk, Bool.true_and]
    simp only [hk2]
    cases c.xs.any gapB <;> rfl
  generalize (if kindsS l c.xs = true then (0 : Int) else 50) = P at *
  rename decide ((c.xs.length : Int) = (l.sights.xs.length : Int) - 1) = true => hz1
  clear hk
  rename (c.xs.length : Int) = (l.sights.xs.length : Int) - 1 => hz2
  clear hz1 hz2
  refine wp_loopF [(4, 5), (13, 30)] (fun (i : Nat) env H => env 5 = .pure (.int .i64 i) ∧ i ≤ c.xs.length ∧ Hide (anyTo (gapAt c.xs) i = false)) (fun i => c.xs.length - i) 0 ?_ ?_ ?_ ?_
  · decide
  · simp; exact ⟨rfl⟩
  · simp only [loopFuel]; omega
  rintro i env H ⟨h5, hi, hn⟩
  have hfit : i < 9223372036854775807 := by omega
  have bad : ∀ h : i < c.xs.length, gapB c.xs[i] = true → Hide (P = 50) := fun h h1 => ⟨by
    rw [hP.h, anyTo_of h]; rfl
    show gapB c.xs[i]! = true
    rw [getElem!_pos c.xs i h]; exact h1⟩
  have good : ∀ h : i < c.xs.length, gapB c.xs[i] = false → Hide (anyTo (gapAt c.xs) (i + 1) = false) := fun h h1 => ⟨by
    rw [anyTo, hn.h, gapAt, getElem!_pos c.xs i h, h1]; rfl⟩
  (repeat' first | simp [*, initEnv] | (refine wpIf_two (fun _ h => ?_) (fun _ h => ?_) <;> try simp [-Nat.le_zero_eq] at h))
  all_goals try (exact (bad (by assumption) (by first | (simp [gapB, *]; done) | (simp [gapB, *]; omega))).h.symm)
  all_goals try (exact ⟨i + 1, by omega, by simp, by omega, good (by assumption) (by first | (simp [gapB, *]; done) | (simp [gapB, *]; omega))⟩)
  have : i = c.xs.length := by omega
  subst this
  rw [hP.h, hn.h]; rfl
@[simp] theorem d99 (n : Nat) (H : Heap) (l_habit_step : Int) (l_habit_place : Int) (l_habit_sink : Int) (l_sights : Sl Sight) (l_notes : Sl Note) (c : Sl Int) (hc : c.xs.length < 1000) (hl : (fun (l : Life) => l.sights.xs.length < 1000) (⟨⟨l_habit_step, l_habit_place, l_habit_sink⟩, l_sights, l_notes⟩ : Life)) : doCall (calleeOf G (n + 1)) H (.pure (.func 99 [])) [.pure (.agg [.int .i64 l_habit_step, .int .i64 l_habit_place, .int .i64 l_habit_sink, (l_sights).pv Sight.cells 9, (l_notes).pv Note.cells 4]), .pure (c.pv intF 1)] = some (.val (.pure ((fun (l : Life) => .int .i64 (if kindsS l c.xs = true then 0 else 50)) (⟨⟨l_habit_step, l_habit_place, l_habit_sink⟩, l_sights, l_notes⟩ : Life)))) :=
  call_pureC (ps := [_, _]) (caps := []) sh99 (e99 n (⟨⟨l_habit_step, l_habit_place, l_habit_sink⟩, l_sights, l_notes⟩ : Life) c hc hl)

def badN (l : List Sight) (n : Note) (c : List Int) (k : Nat) : Bool := decide (n.kind = 0) && decide (n.fr ≤ l[k]!.year) && decide (l[k+1]!.year ≤ n.to) && !decide (c[k]! = 0)
def hitN (l : List Sight) (n : Note) (c : List Int) (k : Nat) : Bool := decide (l[k]!.year ≤ n.to) && decide (n.fr ≤ l[k+1]!.year) && decide (c[k]! = n.kind)
def notedS (l : List Sight) (n : Note) (c : List Int) : Bool := !anyTo (badN l n c) c.length && (anyTo (hitN l n c) c.length || decide (n.kind = 0))
theorem badN_at {l : List Sight} {n : Note} {c : List Int} {k : Nat} (h : k < c.length) (h1 : k + 1 < l.length) : badN l n c k = (decide (n.kind = 0) && decide (n.fr ≤ l[k].year) && decide (l[k+1].year ≤ n.to) && !decide (c[k] = 0)) := by
  simp only [badN, getElem!_pos c k h, getElem!_pos l k (by omega), getElem!_pos l (k+1) h1]
theorem hitN_at {l : List Sight} {n : Note} {c : List Int} {k : Nat} (h : k < c.length) (h1 : k + 1 < l.length) : hitN l n c k = (decide (l[k].year ≤ n.to) && decide (n.fr ≤ l[k+1].year) && decide (c[k] = n.kind)) := by
  simp only [hitN, getElem!_pos c k h, getElem!_pos l k (by omega), getElem!_pos l (k+1) h1]

theorem sh53 : G.shared 53 = false := by decide
theorem e53 (n : Nat) (l : Life) (m : Note) (c : Sl Int) (hc : c.xs.length + 1 ≤ l.sights.xs.length) (hl : l.sights.xs.length < 1000) : callP G (n + 1) 53 [.agg l.cells, .agg m.cells, c.pv intF 1] = some (.bool (notedS l.sights.xs m c.xs)) := by
  refine callP_of (ext_none _) rfl g53 rfl ?_
  (repeat' first | simp [*, initEnv, c53] | (refine wpIf_two (fun _ h => ?_) (fun _ h => ?_) <;> try simp [-Nat.le_zero_eq] at h))
  have hP : Hide (notedS l.sights.xs m c.xs = (!anyTo (badN l.sights.xs m c.xs) c.xs.length && (anyTo (hitN l.sights.xs m c.xs) c.xs.length || decide (m.kind = 0)))) := ⟨rfl⟩
  generalize notedS l.sights.xs m c.xs = P at *
  refine wp_loopF [(6, 11), (14, 70)] (fun (i : Nat) env H => env 14 = .pure (.int .i64 i) ∧ i ≤ c.xs.length ∧ env 7 = .pure (.bool (anyTo (hitN l.sights.xs m c.xs) i)) ∧ Hide (anyTo (badN l.sights.xs m c.xs) i = false)) (fun i => c.xs.length - i) 0 ?_ ?_ ?_ ?_
  · decide
  · simp [anyTo]
  · simp only [loopFuel]; omega
  rintro i env H ⟨h14, hi, h7, hn⟩
  have hfit : i < 9223372036854775807 := by omega
  have hi1 : i < c.xs.length → i + 1 < l.sights.xs.length := fun h => by omega
  have hi0 : i < c.xs.length → i < l.sights.xs.length := fun h => by omega
  have bad : ∀ h : i < c.xs.length, badN l.sights.xs m c.xs i = true → Hide (P = false) := fun h h1 => ⟨by rw [hP.h, anyTo_of h h1]; rfl⟩
  have good : ∀ h : i < c.xs.length, badN l.sights.xs m c.xs i = false → Hide (anyTo (badN l.sights.xs m c.xs) (i + 1) = false) := fun h h1 => ⟨by rw [anyTo, hn.h, h1]; rfl⟩
  have hst : ∀ h : i < c.xs.length, anyTo (hitN l.sights.xs m c.xs) (i + 1) = (anyTo (hitN l.sights.xs m c.xs) i || hitN l.sights.xs m c.xs i) := fun h => rfl
  generalize hsm : anyTo (hitN l.sights.xs m c.xs) i = sm at *
  (repeat' first | simp [*, initEnv] | (refine wpIf_two (fun _ h => ?_) (fun _ h => ?_) <;> try simp [-Nat.le_zero_eq] at h))
  all_goals try (exact (bad (by assumption) (by first | (simp [badN_at, *]; done) | (simp [badN_at, *]; omega))).h)
  all_goals try (exact ⟨i + 1, by omega, by simp, by omega, by first | (rw [hst (by assumption)]; simp [hitN_at, *]; done) | (rw [hst (by assumption)]; simp [hitN_at, *]; omega), good (by assumption) (by first | (simp [badN_at, *]; done) | (simp [badN_at, *]; omega))⟩)
  all_goals
    have : i = c.xs.length := by omega
    subst this
    rw [hP.h, hn.h, hsm]
    simp [*]
@[simp] theorem d53 (n : Nat) (H : Heap) (l_habit_step : Int) (l_habit_place : Int) (l_habit_sink : Int) (l_sights : Sl Sight) (l_notes : Sl Note) (m_id : Int) (m_kind : Int) (m_fr : Int) (m_to : Int) (c : Sl Int) (hc : (fun (l : Life) => c.xs.length + 1 ≤ l.sights.xs.length) (⟨⟨l_habit_step, l_habit_place, l_habit_sink⟩, l_sights, l_notes⟩ : Life)) (hl : (fun (l : Life) => l.sights.xs.length < 1000) (⟨⟨l_habit_step, l_habit_place, l_habit_sink⟩, l_sights, l_notes⟩ : Life)) : doCall (calleeOf G (n + 1)) H (.pure (.func 53 [])) [.pure (.agg [.int .i64 l_habit_step, .int .i64 l_habit_place, .int .i64 l_habit_sink, (l_sights).pv Sight.cells 9, (l_notes).pv Note.cells 4]), .pure (.agg [.int .i64 m_id, .int .i64 m_kind, .int .i64 m_fr, .int .i64 m_to]), .pure (c.pv intF 1)] = some (.val (.pure ((fun (l : Life) => (fun (m : Note) => .bool (notedS l.sights.xs m c.xs)) (⟨m_id, m_kind, m_fr, m_to⟩ : Note)) (⟨⟨l_habit_step, l_habit_place, l_habit_sink⟩, l_sights, l_notes⟩ : Life)))) :=
  call_pureC (ps := [_, _, _]) (caps := []) sh53 (e53 n (⟨⟨l_habit_step, l_habit_place, l_habit_sink⟩, l_sights, l_notes⟩ : Life) (⟨m_id, m_kind, m_fr, m_to⟩ : Note) c hc hl)
theorem sh59 : G.shared 59 = false := by decide
theorem e59 (n : Nat) (l : Life) (c : Sl Int) (m : Note) (hc : c.xs.length + 1 ≤ l.sights.xs.length) (hl : l.sights.xs.length < 1000) : callP G (n + 1) 59 [.agg l.cells, c.pv intF 1, .agg m.cells] = some (.bool (notedS l.sights.xs m c.xs)) := by
  refine callP_of (ext_none _) rfl g59 rfl ?_
  (repeat' first | simp [*, initEnv, c59] | (refine wpIf_two (fun _ h => ?_) (fun _ h => ?_) <;> try simp [-Nat.le_zero_eq] at h))
  have hP : Hide (notedS l.sights.xs m c.xs = (!anyTo (badN l.sights.xs m c.xs) c.xs.length && (anyTo (hitN l.sights.xs m c.xs) c.xs.length || decide (m.kind = 0)))) := ⟨rfl⟩
  generalize notedS l.sights.xs m c.xs = P at *
  refine wp_loopF [(6, 73)] (fun (i : Nat) env H => env 8 = .pure (.int .i64 i) ∧ i ≤ c.xs.length ∧ env 7 = .pure (.bool (anyTo (hitN l.sights.xs m c.xs) i)) ∧ Hide (anyTo (badN l.sights.xs m c.xs) i = false)) (fun i => c.xs.length - i) 0 ?_ ?_ ?_ ?_
  · decide
  · simp [anyTo]
  · simp only [loopFuel]; omega
  rintro i env H ⟨h8, hi, h7, hn⟩
  have hfit : i < 9223372036854775807 := by omega
  have hi1 : i < c.xs.length → i + 1 < l.sights.xs.length := fun h => by omega
  have hi0 : i < c.xs.length → i < l.sights.xs.length := fun h => by omega
  have bad : ∀ h : i < c.xs.length, badN l.sights.xs m c.xs i = true → Hide (P = false) := fun h h1 => ⟨by rw [hP.h, anyTo_of h h1]; rfl⟩
  have good : ∀ h : i < c.xs.length, badN l.sights.xs m c.xs i = false → Hide (anyTo (badN l.sights.xs m c.xs) (i + 1) = false) := fun h h1 => ⟨by rw [anyTo, hn.h, h1]; rfl⟩
  have hst : ∀ h : i < c.xs.length, anyTo (hitN l.sights.xs m c.xs) (i + 1) = (anyTo (hitN l.sights.xs m c.xs) i || hitN l.sights.xs m c.xs i) := fun h => rfl
  generalize hsm : anyTo (hitN l.sights.xs m c.xs) i = sm at *
  (repeat' first | simp [*, initEnv] | (refine wpIf_two (fun _ h => ?_) (fun _ h => ?_) <;> try simp [-Nat.le_zero_eq] at h))
  all_goals try (exact (bad (by assumption) (by first | (simp [badN_at, *]; done) | (simp [badN_at, *]; omega))).h)
  all_goals try (exact ⟨i + 1, by omega, by simp, by omega, by first | (rw [hst (by assumption)]; simp [hitN_at, *]; done) | (rw [hst (by assumption)]; simp [hitN_at, *]; omega), good (by assumption) (by first | (simp [badN_at, *]; done) | (simp [badN_at, *]; omega))⟩)
  all_goals
    have : i = c.xs.length := by omega
    subst this
    rw [hP.h, hn.h, hsm]
    simp [*]
@[simp] theorem d59 (n : Nat) (H : Heap) (l_habit_step : Int) (l_habit_place : Int) (l_habit_sink : Int) (l_sights : Sl Sight) (l_notes : Sl Note) (c : Sl Int) (m_id : Int) (m_kind : Int) (m_fr : Int) (m_to : Int) (hc : (fun (l : Life) => c.xs.length + 1 ≤ l.sights.xs.length) (⟨⟨l_habit_step, l_habit_place, l_habit_sink⟩, l_sights, l_notes⟩ : Life)) (hl : (fun (l : Life) => l.sights.xs.length < 1000) (⟨⟨l_habit_step, l_habit_place, l_habit_sink⟩, l_sights, l_notes⟩ : Life)) : doCall (calleeOf G (n + 1)) H (.pure (.func 59 [])) [.pure (.agg [.int .i64 l_habit_step, .int .i64 l_habit_place, .int .i64 l_habit_sink, (l_sights).pv Sight.cells 9, (l_notes).pv Note.cells 4]), .pure (c.pv intF 1), .pure (.agg [.int .i64 m_id, .int .i64 m_kind, .int .i64 m_fr, .int .i64 m_to])] = some (.val (.pure ((fun (l : Life) => (fun (m : Note) => .bool (notedS l.sights.xs m c.xs)) (⟨m_id, m_kind, m_fr, m_to⟩ : Note)) (⟨⟨l_habit_step, l_habit_place, l_habit_sink⟩, l_sights, l_notes⟩ : Life)))) :=
  call_pureC (ps := [_, _, _]) (caps := []) sh59 (e59 n (⟨⟨l_habit_step, l_habit_place, l_habit_sink⟩, l_sights, l_notes⟩ : Life) c (⟨m_id, m_kind, m_fr, m_to⟩ : Note) hc hl)
end Go.Proofs.YtnomliioadjdgaaGreat.Vm

namespace Go.Proofs.YtnomliioadjdgaaGreat.Vm
open Go
set_option linter.unusedSimpArgs false
set_option linter.unusedVariables false
set_option maxHeartbeats 4000000

def meetS (a b : Span) : Span := ⟨max a.lo b.lo, min a.hi b.hi⟩
def onD (d : Int) (s : Span) : Span := ⟨s.lo - d, s.hi + d⟩
def okSp (s : Span) : Prop := -1048576 ≤ s.lo ∧ s.lo ≤ 1048576 ∧ -1048576 ≤ s.hi ∧ s.hi ≤ 1048576
theorem sh133 : G.shared 133 = false := by decide
theorem e133 (n : Nat) (a b : Span) : callP G (n + 1) 133 [.agg a.cells, .agg b.cells] = some (.agg (meetS a b).cells) := by
  refine callP_of (ext_none _) rfl g133 rfl ?_
  (repeat' first | simp [*, initEnv, c133, meetS] | (refine wpIf_two (fun _ h => ?_) (fun _ h => ?_) <;> try simp [-Nat.le_zero_eq] at h))
@[simp] theorem d133 (n : Nat) (H : Heap) (a_lo : Int) (a_hi : Int) (b_lo : Int) (b_hi : Int) : doCall (calleeOf G (n + 1)) H (.pure (.func 133 [])) [.pure (.agg [.int .i64 a_lo, .int .i64 a_hi]), .pure (.agg [.int .i64 b_lo, .int .i64 b_hi])] = some (.val (.pure ((fun (a : Span) => (fun (b : Span) => .agg (meetS a b).cells) (⟨b_lo, b_hi⟩ : Span)) (⟨a_lo, a_hi⟩ : Span)))) :=
  call_pureC (ps := [_, _]) (caps := []) sh133 (e133 n (⟨a_lo, a_hi⟩ : Span) (⟨b_lo, b_hi⟩ : Span))
theorem sh134 : G.shared 134 = false := by decide
theorem e134 (n : Nat) (s : Span) : callP G (n + 1) 134 [.agg s.cells] = some (.bool (decide (s.hi < s.lo))) := by
  refine callP_of (ext_none _) rfl g134 rfl ?_
  (repeat' first | simp [*, initEnv, c134] | (refine wpIf_two (fun _ h => ?_) (fun _ h => ?_) <;> try simp [-Nat.le_zero_eq] at h))
@[simp] theorem d134 (n : Nat) (H : Heap) (s_lo : Int) (s_hi : Int) : doCall (calleeOf G (n + 1)) H (.pure (.func 134 [])) [.pure (.agg [.int .i64 s_lo, .int .i64 s_hi])] = some (.val (.pure ((fun (s : Span) => .bool (decide (s.hi < s.lo))) (⟨s_lo, s_hi⟩ : Span)))) :=
  call_pureC (ps := [_]) (caps := []) sh134 (e134 n (⟨s_lo, s_hi⟩ : Span))
theorem sh164 : G.shared 164 = false := by decide
theorem e164 (n : Nat) (s : Span) (y d : Int) (hs : okSp s) (hd : 0 ≤ d ∧ d ≤ 1000000) : callP G (n + 1) 164 [.agg s.cells, .int .i64 y, .ptr false [.int .i64 d] 0] = some (.agg (onD d s).cells) := by
  refine callP_of (ext_none _) rfl g164 rfl ?_
  have h1 : IntKind.i64.wrap (s.lo - d) = s.lo - d := by unfold okSp at hs; exact wrap64 (by omega) (by omega)
  have h2 : IntKind.i64.wrap (s.hi + d) = s.hi + d := by unfold okSp at hs; exact wrap64 (by omega) (by omega)
  (repeat' first | simp [*, initEnv, c164, onD] | (refine wpIf_two (fun _ h => ?_) (fun _ h => ?_) <;> try simp [-Nat.le_zero_eq] at h))
@[simp] theorem d164 (n : Nat) (H : Heap) (s_lo : Int) (s_hi : Int) (y : Int) (d : Int) (hs : (fun (s : Span) => okSp s) (⟨s_lo, s_hi⟩ : Span)) (hd : 0 ≤ d ∧ d ≤ 1000000) : doCall (calleeOf G (n + 1)) H (.pure (.func 164 [.ptr false [.int .i64 d] 0])) [.pure (.agg [.int .i64 s_lo, .int .i64 s_hi]), .pure (.int .i64 y)] = some (.val (.pure ((fun (s : Span) => .agg (onD d s).cells) (⟨s_lo, s_hi⟩ : Span)))) :=
  call_pureC (ps := [_, _]) (caps := [_]) sh164 (e164 n (⟨s_lo, s_hi⟩ : Span) y d hs hd)
@[simp] def reachD (d : Int) : List PV := [.func 164 [.ptr false [.int .i64 d] 0], .func 164 [.ptr false [.int .i64 d] 0]]
theorem sh157 : G.shared 157 = false := by decide
theorem e157 (n : Nat) (d : Int) : callP G (n + 1) 157 [.int .i64 d] = some (.agg (reachD d)) := by
  refine callP_of (ext_none _) rfl g157 rfl ?_
  (repeat' first | simp [*, initEnv, c157, reachD] | (refine wpIf_two (fun _ h => ?_) (fun _ h => ?_) <;> try simp [-Nat.le_zero_eq] at h))
@[simp] theorem d157 (n : Nat) (H : Heap) (d : Int) : doCall (calleeOf G (n + 1)) H (.pure (.func 157 [])) [.pure (.int .i64 d)] = some (.val (.pure (.agg (reachD d)))) :=
  call_pureC (ps := [_]) (caps := []) sh157 (e157 n d)
theorem sh130 : G.shared 130 = false := by decide
theorem e130 (n : Nat) (h : Habit) : callP G (n + 2) 130 [.agg h.cells] = some (.agg (reachD 0)) := by
  refine callP_of (ext_none _) rfl g130 rfl ?_
  (repeat' first | simp [*, initEnv, c130] | (refine wpIf_two (fun _ h => ?_) (fun _ h => ?_) <;> try simp [-Nat.le_zero_eq] at h))
@[simp] theorem d130 (n : Nat) (H : Heap) (h_step : Int) (h_place : Int) (h_sink : Int) : doCall (calleeOf G (n + 2)) H (.pure (.func 130 [])) [.pure (.agg [.int .i64 h_step, .int .i64 h_place, .int .i64 h_sink])] = some (.val (.pure (.agg (reachD 0)))) :=
  call_pureC (ps := [_]) (caps := []) sh130 (e130 n (⟨h_step, h_place, h_sink⟩ : Habit))
theorem sh131 : G.shared 131 = false := by decide
theorem e131 (n : Nat) (h : Habit) : callP G (n + 2) 131 [.agg h.cells] = some (.agg (reachD h.step)) := by
  refine callP_of (ext_none _) rfl g131 rfl ?_
  (repeat' first | simp [*, initEnv, c131] | (refine wpIf_two (fun _ h => ?_) (fun _ h => ?_) <;> try simp [-Nat.le_zero_eq] at h))
@[simp] theorem d131 (n : Nat) (H : Heap) (h_step : Int) (h_place : Int) (h_sink : Int) : doCall (calleeOf G (n + 2)) H (.pure (.func 131 [])) [.pure (.agg [.int .i64 h_step, .int .i64 h_place, .int .i64 h_sink])] = some (.val (.pure ((fun (h : Habit) => .agg (reachD h.step)) (⟨h_step, h_place, h_sink⟩ : Habit)))) :=
  call_pureC (ps := [_]) (caps := []) sh131 (e131 n (⟨h_step, h_place, h_sink⟩ : Habit))
theorem sh132 : G.shared 132 = false := by decide
theorem e132 (n : Nat) (h : Habit) : callP G (n + 2) 132 [.agg h.cells] = some (.agg (reachD h.place)) := by
  refine callP_of (ext_none _) rfl g132 rfl ?_
  (repeat' first | simp [*, initEnv, c132] | (refine wpIf_two (fun _ h => ?_) (fun _ h => ?_) <;> try simp [-Nat.le_zero_eq] at h))
@[simp] theorem d132 (n : Nat) (H : Heap) (h_step : Int) (h_place : Int) (h_sink : Int) : doCall (calleeOf G (n + 2)) H (.pure (.func 132 [])) [.pure (.agg [.int .i64 h_step, .int .i64 h_place, .int .i64 h_sink])] = some (.val (.pure ((fun (h : Habit) => .agg (reachD h.place)) (⟨h_step, h_place, h_sink⟩ : Habit)))) :=
  call_pureC (ps := [_]) (caps := []) sh132 (e132 n (⟨h_step, h_place, h_sink⟩ : Habit))
theorem sh104 : G.shared 104 = false := by decide
theorem e104 (n : Nat)  : callP G (n + 1) 104 [] = some (.agg [.func 130 [], .func 131 [], .func 132 []]) := by
  refine callP_of (ext_none _) rfl g104 rfl ?_
  (repeat' first | simp [*, initEnv, c104] | (refine wpIf_two (fun _ h => ?_) (fun _ h => ?_) <;> try simp [-Nat.le_zero_eq] at h))
@[simp] theorem d104 (n : Nat) (H : Heap)  : doCall (calleeOf G (n + 1)) H (.pure (.func 104 [])) [] = some (.val (.pure (.agg [.func 130 [], .func 131 [], .func 132 []]))) :=
  call_pureC (ps := []) (caps := []) sh104 (e104 n )
def farD (h : Habit) (k : Int) : Int := if k = 1 then h.step else if k = 2 then h.place else 0
theorem sh102 : G.shared 102 = false := by decide
theorem e102 (n : Nat) (l : Life) (k : Int) : callP G (n + 1) 102 [.agg l.cells, .int .i64 k] = some (.int .i64 (farD l.habit k)) := by
  refine callP_of (ext_none _) rfl g102 rfl ?_
  (repeat' first | simp [*, initEnv, c102, farD] | (refine wpIf_two (fun _ h => ?_) (fun _ h => ?_) <;> try simp [-Nat.le_zero_eq] at h))
@[simp] theorem d102 (n : Nat) (H : Heap) (l_habit_step : Int) (l_habit_place : Int) (l_habit_sink : Int) (l_sights : Sl Sight) (l_notes : Sl Note) (k : Int) : doCall (calleeOf G (n + 1)) H (.pure (.func 102 [])) [.pure (.agg [.int .i64 l_habit_step, .int .i64 l_habit_place, .int .i64 l_habit_sink, (l_sights).pv Sight.cells 9, (l_notes).pv Note.cells 4]), .pure (.int .i64 k)] = some (.val (.pure ((fun (l : Life) => .int .i64 (farD l.habit k)) (⟨⟨l_habit_step, l_habit_place, l_habit_sink⟩, l_sights, l_notes⟩ : Life)))) :=
  call_pureC (ps := [_, _]) (caps := []) sh102 (e102 n (⟨⟨l_habit_step, l_habit_place, l_habit_sink⟩, l_sights, l_notes⟩ : Life) k)
theorem sh155 : G.shared 155 = false := by decide
theorem e155 (n : Nat) (s t : Span) (d : Int) (hs : okSp t) (hd : 0 ≤ d ∧ d ≤ 1000000) : callP G (n + 1) 155 [.agg s.cells, .agg t.cells, .int .i64 d] = some (.agg (meetS s (onD d t)).cells) := by
  refine callP_of (ext_none _) rfl g155 rfl ?_
  have h1 : IntKind.i64.wrap (t.lo - d) = t.lo - d := by unfold okSp at hs; exact wrap64 (by omega) (by omega)
  have h2 : IntKind.i64.wrap (t.hi + d) = t.hi + d := by unfold okSp at hs; exact wrap64 (by omega) (by omega)
  (repeat' first | simp [*, initEnv, c155, onD, meetS] | (refine wpIf_two (fun _ h => ?_) (fun _ h => ?_) <;> try simp [-Nat.le_zero_eq] at h))
@[simp] theorem d155 (n : Nat) (H : Heap) (s_lo : Int) (s_hi : Int) (t_lo : Int) (t_hi : Int) (d : Int) (hs : (fun (t : Span) => okSp t) (⟨t_lo, t_hi⟩ : Span)) (hd : 0 ≤ d ∧ d ≤ 1000000) : doCall (calleeOf G (n + 1)) H (.pure (.func 155 [])) [.pure (.agg [.int .i64 s_lo, .int .i64 s_hi]), .pure (.agg [.int .i64 t_lo, .int .i64 t_hi]), .pure (.int .i64 d)] = some (.val (.pure ((fun (s : Span) => (fun (t : Span) => .agg (meetS s (onD d t)).cells) (⟨t_lo, t_hi⟩ : Span)) (⟨s_lo, s_hi⟩ : Span)))) :=
  call_pureC (ps := [_, _, _]) (caps := []) sh155 (e155 n (⟨s_lo, s_hi⟩ : Span) (⟨t_lo, t_hi⟩ : Span) d hs hd)
theorem sh103 : G.shared 103 = false := by decide
theorem e103 (n : Nat) (l : Life) (c : Sl Int) (k : Nat) (hk : k < c.xs.length) (h0 : 0 ≤ c.xs[k]! ∧ c.xs[k]! ≤ 2) : callP G (n + 3) 103 [.int .i64 (k : Nat), .ptr false [c.pv intF 1] 0, .ptr false l.cells 0] = some (.agg (reachD (farD l.habit c.xs[k]!))) := by
  refine callP_of (ext_none _) rfl g103 rfl ?_
  rw [getElem!_pos c.xs k hk] at h0 ⊢
  have h3 : c.xs[k] = 0 ∨ c.xs[k] = 1 ∨ c.xs[k] = 2 := by omega
  rcases h3 with h3 | h3 | h3
  · (repeat' first | simp [*, initEnv, c103, farD] | (refine wpIf_two (fun _ h => ?_) (fun _ h => ?_) <;> try simp [-Nat.le_zero_eq] at h))
  · (repeat' first | simp [*, initEnv, c103, farD] | (refine wpIf_two (fun _ h => ?_) (fun _ h => ?_) <;> try simp [-Nat.le_zero_eq] at h))
  · (repeat' first | simp [*, initEnv, c103, farD] | (refine wpIf_two (fun _ h => ?_) (fun _ h => ?_) <;> try simp [-Nat.le_zero_eq] at h))
@[simp] theorem d103 (n : Nat) (H : Heap) (l_habit_step : Int) (l_habit_place : Int) (l_habit_sink : Int) (l_sights : Sl Sight) (l_notes : Sl Note) (c : Sl Int) (k : Nat) (hk : k < c.xs.length) (h0 : 0 ≤ c.xs[k]! ∧ c.xs[k]! ≤ 2) : doCall (calleeOf G (n + 3)) H (.pure (.func 103 [.ptr false [c.pv intF 1] 0, .ptr false [.int .i64 l_habit_step, .int .i64 l_habit_place, .int .i64 l_habit_sink, (l_sights).pv Sight.cells 9, (l_notes).pv Note.cells 4] 0])) [.pure (.int .i64 (k : Nat))] = some (.val (.pure ((fun (l : Life) => .agg (reachD (farD l.habit c.xs[k]!))) (⟨⟨l_habit_step, l_habit_place, l_habit_sink⟩, l_sights, l_notes⟩ : Life)))) :=
  call_pureC (ps := [_]) (caps := [_, _]) sh103 (e103 n (⟨⟨l_habit_step, l_habit_place, l_habit_sink⟩, l_sights, l_notes⟩ : Life) c k hk h0)
theorem sh106 : G.shared 106 = false := by decide
theorem e106 (n : Nat) (s : Sight) : callP G (n + 1) 106 [.agg s.cells] = some (.agg s.box.x.cells) := by
  refine callP_of (ext_none _) rfl g106 rfl ?_
  (repeat' first | simp [*, initEnv, c106] | (refine wpIf_two (fun _ h => ?_) (fun _ h => ?_) <;> try simp [-Nat.le_zero_eq] at h))
@[simp] theorem d106 (n : Nat) (H : Heap) (s_id : Int) (s_year : Int) (s_box_x_lo : Int) (s_box_x_hi : Int) (s_box_y_lo : Int) (s_box_y_hi : Int) (s_letters : List UInt8) (s_height_lo : Int) (s_height_hi : Int) : doCall (calleeOf G (n + 1)) H (.pure (.func 106 [])) [.pure (.agg [.int .i64 s_id, .int .i64 s_year, .int .i64 s_box_x_lo, .int .i64 s_box_x_hi, .int .i64 s_box_y_lo, .int .i64 s_box_y_hi, .str ⟨(s_letters).toArray⟩, .int .i64 s_height_lo, .int .i64 s_height_hi])] = some (.val (.pure ((fun (s : Sight) => .agg s.box.x.cells) (⟨s_id, s_year, ⟨⟨s_box_x_lo, s_box_x_hi⟩, ⟨s_box_y_lo, s_box_y_hi⟩⟩, s_letters, ⟨s_height_lo, s_height_hi⟩⟩ : Sight)))) :=
  call_pureC (ps := [_]) (caps := []) sh106 (e106 n (⟨s_id, s_year, ⟨⟨s_box_x_lo, s_box_x_hi⟩, ⟨s_box_y_lo, s_box_y_hi⟩⟩, s_letters, ⟨s_height_lo, s_height_hi⟩⟩ : Sight))
theorem sh107 : G.shared 107 = false := by decide
theorem e107 (n : Nat) (s : Sight) : callP G (n + 1) 107 [.agg s.cells] = some (.agg s.box.y.cells) := by
  refine callP_of (ext_none _) rfl g107 rfl ?_
  (repeat' first | simp [*, initEnv, c107] | (refine wpIf_two (fun _ h => ?_) (fun _ h => ?_) <;> try simp [-Nat.le_zero_eq] at h))
@[simp] theorem d107 (n : Nat) (H : Heap) (s_id : Int) (s_year : Int) (s_box_x_lo : Int) (s_box_x_hi : Int) (s_box_y_lo : Int) (s_box_y_hi : Int) (s_letters : List UInt8) (s_height_lo : Int) (s_height_hi : Int) : doCall (calleeOf G (n + 1)) H (.pure (.func 107 [])) [.pure (.agg [.int .i64 s_id, .int .i64 s_year, .int .i64 s_box_x_lo, .int .i64 s_box_x_hi, .int .i64 s_box_y_lo, .int .i64 s_box_y_hi, .str ⟨(s_letters).toArray⟩, .int .i64 s_height_lo, .int .i64 s_height_hi])] = some (.val (.pure ((fun (s : Sight) => .agg s.box.y.cells) (⟨s_id, s_year, ⟨⟨s_box_x_lo, s_box_x_hi⟩, ⟨s_box_y_lo, s_box_y_hi⟩⟩, s_letters, ⟨s_height_lo, s_height_hi⟩⟩ : Sight)))) :=
  call_pureC (ps := [_]) (caps := []) sh107 (e107 n (⟨s_id, s_year, ⟨⟨s_box_x_lo, s_box_x_hi⟩, ⟨s_box_y_lo, s_box_y_hi⟩⟩, s_letters, ⟨s_height_lo, s_height_hi⟩⟩ : Sight))
theorem sh108 : G.shared 108 = false := by decide
theorem e108 (n : Nat) (s : Sight) : callP G (n + 1) 108 [.agg s.cells] = some (.agg s.height.cells) := by
  refine callP_of (ext_none _) rfl g108 rfl ?_
  (repeat' first | simp [*, initEnv, c108] | (refine wpIf_two (fun _ h => ?_) (fun _ h => ?_) <;> try simp [-Nat.le_zero_eq] at h))
@[simp] theorem d108 (n : Nat) (H : Heap) (s_id : Int) (s_year : Int) (s_box_x_lo : Int) (s_box_x_hi : Int) (s_box_y_lo : Int) (s_box_y_hi : Int) (s_letters : List UInt8) (s_height_lo : Int) (s_height_hi : Int) : doCall (calleeOf G (n + 1)) H (.pure (.func 108 [])) [.pure (.agg [.int .i64 s_id, .int .i64 s_year, .int .i64 s_box_x_lo, .int .i64 s_box_x_hi, .int .i64 s_box_y_lo, .int .i64 s_box_y_hi, .str ⟨(s_letters).toArray⟩, .int .i64 s_height_lo, .int .i64 s_height_hi])] = some (.val (.pure ((fun (s : Sight) => .agg s.height.cells) (⟨s_id, s_year, ⟨⟨s_box_x_lo, s_box_x_hi⟩, ⟨s_box_y_lo, s_box_y_hi⟩⟩, s_letters, ⟨s_height_lo, s_height_hi⟩⟩ : Sight)))) :=
  call_pureC (ps := [_]) (caps := []) sh108 (e108 n (⟨s_id, s_year, ⟨⟨s_box_x_lo, s_box_x_hi⟩, ⟨s_box_y_lo, s_box_y_hi⟩⟩, s_letters, ⟨s_height_lo, s_height_hi⟩⟩ : Sight))
/-! ### Heights -/
def upH (h : Habit) (k y : Int) (s : Span) : Span := if k = 0 then ⟨s.lo - h.sink * y, s.hi⟩ else ⟨0, 100⟩
def downH (h : Habit) (k y : Int) (s : Span) : Span := if k = 0 then ⟨s.lo, s.hi + h.sink * y⟩ else ⟨0, 100⟩
def hPtr (h : Habit) : PV := .ptr false h.cells 0
def upF (h : Habit) (k : Int) : PV := if k = 0 then .func 136 [hPtr h] else .func 135 []
def downF (h : Habit) (k : Int) : PV := if k = 0 then .func 137 [hPtr h] else .func 135 []
@[simp] theorem upF_one (h : Habit) (k : Int) : AV.one (.pure (upF h k)) = true := by unfold upF; split <;> rfl
@[simp] theorem downF_one (h : Habit) (k : Int) : AV.one (.pure (downF h k)) = true := by unfold downF; split <;> rfl
@[simp] theorem upF_cells (h : Habit) (k : Int) : AV.cells (.pure (upF h k)) = [.pure (upF h k)] := by unfold upF; split <;> rfl
@[simp] theorem downF_cells (h : Habit) (k : Int) : AV.cells (.pure (downF h k)) = [.pure (downF h k)] := by unfold downF; split <;> rfl
theorem sh135 : G.shared 135 = false := by decide
theorem e135 (n : Nat) (s : Span) (y : Int) : callP G (n + 1) 135 [.agg s.cells, .int .i64 y] = some (.agg [.int .i64 0, .int .i64 100]) := by
  refine callP_of (ext_none _) rfl g135 rfl ?_
  (repeat' first | simp [*, initEnv, c135] | (refine wpIf_two (fun _ h => ?_) (fun _ h => ?_) <;> try simp [-Nat.le_zero_eq] at h))
@[simp] theorem d135 (n : Nat) (H : Heap) (s_lo : Int) (s_hi : Int) (y : Int) : doCall (calleeOf G (n + 1)) H (.pure (.func 135 [])) [.pure (.agg [.int .i64 s_lo, .int .i64 s_hi]), .pure (.int .i64 y)] = some (.val (.pure (.agg [.int .i64 0, .int .i64 100]))) :=
  call_pureC (ps := [_, _]) (caps := []) sh135 (e135 n (⟨s_lo, s_hi⟩ : Span) y)
theorem sink_le {h : Habit} {y : Int} (hh : habitS h = true) (hy : 0 ≤ y ∧ y ≤ 4000) : 0 ≤ h.sink * y ∧ h.sink * y ≤ 80000 := by
  simp [habitS, inB] at hh
  refine ⟨Int.mul_nonneg (by omega) hy.1, ?_⟩
  have : h.sink * y ≤ 20 * 4000 := Int.mul_le_mul (by omega) hy.2 hy.1 (by omega)
  omega
theorem sh136 : G.shared 136 = false := by decide
theorem e136 (n : Nat) (s : Span) (y : Int) (h : Habit) (hs : okSp s) (hh : habitS h = true) (hy : 0 ≤ y ∧ y ≤ 4000) : callP G (n + 1) 136 [.agg s.cells, .int .i64 y, .ptr false h.cells 0] = some (.agg (upH h 0 y s).cells) := by
  refine callP_of (ext_none _) rfl g136 rfl ?_
  have h9 := sink_le hh hy
  have h1 : IntKind.i64.wrap (h.sink * y) = h.sink * y := wrap64 (by omega) (by omega)
  have h2 : IntKind.i64.wrap (s.lo - h.sink * y) = s.lo - h.sink * y := by unfold okSp at hs; exact wrap64 (by omega) (by omega)
  (repeat' first | simp [*, initEnv, c136, upH] | (refine wpIf_two (fun _ h => ?_) (fun _ h => ?_) <;> try simp [-Nat.le_zero_eq] at h))
@[simp] theorem d136 (n : Nat) (H : Heap) (s_lo : Int) (s_hi : Int) (y : Int) (h_step : Int) (h_place : Int) (h_sink : Int) (hs : (fun (s : Span) => okSp s) (⟨s_lo, s_hi⟩ : Span)) (hh : (fun (h : Habit) => habitS h = true) (⟨h_step, h_place, h_sink⟩ : Habit)) (hy : 0 ≤ y ∧ y ≤ 4000) : doCall (calleeOf G (n + 1)) H (.pure (.func 136 [.ptr false [.int .i64 h_step, .int .i64 h_place, .int .i64 h_sink] 0])) [.pure (.agg [.int .i64 s_lo, .int .i64 s_hi]), .pure (.int .i64 y)] = some (.val (.pure ((fun (s : Span) => (fun (h : Habit) => .agg (upH h 0 y s).cells) (⟨h_step, h_place, h_sink⟩ : Habit)) (⟨s_lo, s_hi⟩ : Span)))) :=
  call_pureC (ps := [_, _]) (caps := [_]) sh136 (e136 n (⟨s_lo, s_hi⟩ : Span) y (⟨h_step, h_place, h_sink⟩ : Habit) hs hh hy)
theorem sh137 : G.shared 137 = false := by decide
theorem e137 (n : Nat) (s : Span) (y : Int) (h : Habit) (hs : okSp s) (hh : habitS h = true) (hy : 0 ≤ y ∧ y ≤ 4000) : callP G (n + 1) 137 [.agg s.cells, .int .i64 y, .ptr false h.cells 0] = some (.agg (downH h 0 y s).cells) := by
  refine callP_of (ext_none _) rfl g137 rfl ?_
  have h9 := sink_le hh hy
  have h1 : IntKind.i64.wrap (h.sink * y) = h.sink * y := wrap64 (by omega) (by omega)
  have h2 : IntKind.i64.wrap (s.hi + h.sink * y) = s.hi + h.sink * y := by unfold okSp at hs; exact wrap64 (by omega) (by omega)
  (repeat' first | simp [*, initEnv, c137, downH] | (refine wpIf_two (fun _ h => ?_) (fun _ h => ?_) <;> try simp [-Nat.le_zero_eq] at h))
@[simp] theorem d137 (n : Nat) (H : Heap) (s_lo : Int) (s_hi : Int) (y : Int) (h_step : Int) (h_place : Int) (h_sink : Int) (hs : (fun (s : Span) => okSp s) (⟨s_lo, s_hi⟩ : Span)) (hh : (fun (h : Habit) => habitS h = true) (⟨h_step, h_place, h_sink⟩ : Habit)) (hy : 0 ≤ y ∧ y ≤ 4000) : doCall (calleeOf G (n + 1)) H (.pure (.func 137 [.ptr false [.int .i64 h_step, .int .i64 h_place, .int .i64 h_sink] 0])) [.pure (.agg [.int .i64 s_lo, .int .i64 s_hi]), .pure (.int .i64 y)] = some (.val (.pure ((fun (s : Span) => (fun (h : Habit) => .agg (downH h 0 y s).cells) (⟨h_step, h_place, h_sink⟩ : Habit)) (⟨s_lo, s_hi⟩ : Span)))) :=
  call_pureC (ps := [_, _]) (caps := [_]) sh137 (e137 n (⟨s_lo, s_hi⟩ : Span) y (⟨h_step, h_place, h_sink⟩ : Habit) hs hh hy)
theorem sh110 : G.shared 110 = false := by decide
theorem e110 (n : Nat) (h : Habit) (k : Int) : callP G (n + 1) 110 [.agg h.cells, .int .i64 k] = some (.agg [upF h k, downF h k]) := by
  refine callP_of (ext_none _) rfl g110 rfl ?_
  (repeat' first | simp [*, initEnv, c110, upF, downF, hPtr] | (refine wpIf_two (fun _ h => ?_) (fun _ h => ?_) <;> try simp [-Nat.le_zero_eq] at h))
@[simp] theorem d110 (n : Nat) (H : Heap) (h_step : Int) (h_place : Int) (h_sink : Int) (k : Int) : doCall (calleeOf G (n + 1)) H (.pure (.func 110 [])) [.pure (.agg [.int .i64 h_step, .int .i64 h_place, .int .i64 h_sink]), .pure (.int .i64 k)] = some (.val (.pure ((fun (h : Habit) => .agg [upF h k, downF h k]) (⟨h_step, h_place, h_sink⟩ : Habit)))) :=
  call_pureC (ps := [_, _]) (caps := []) sh110 (e110 n (⟨h_step, h_place, h_sink⟩ : Habit) k)
theorem sh109 : G.shared 109 = false := by decide
theorem e109 (n : Nat) (l : Life) (c : Sl Int) (k : Nat) (hk : k < c.xs.length) : callP G (n + 2) 109 [.int .i64 (k : Nat), .ptr false l.cells 0, .ptr false [c.pv intF 1] 0] = some (.agg [upF l.habit c.xs[k]!, downF l.habit c.xs[k]!]) := by
  refine callP_of (ext_none _) rfl g109 rfl ?_
  rw [getElem!_pos c.xs k hk]
  (repeat' first | simp [*, initEnv, c109] | (refine wpIf_two (fun _ h => ?_) (fun _ h => ?_) <;> try simp [-Nat.le_zero_eq] at h))
@[simp] theorem d109 (n : Nat) (H : Heap) (l_habit_step : Int) (l_habit_place : Int) (l_habit_sink : Int) (l_sights : Sl Sight) (l_notes : Sl Note) (c : Sl Int) (k : Nat) (hk : k < c.xs.length) : doCall (calleeOf G (n + 2)) H (.pure (.func 109 [.ptr false [.int .i64 l_habit_step, .int .i64 l_habit_place, .int .i64 l_habit_sink, (l_sights).pv Sight.cells 9, (l_notes).pv Note.cells 4] 0, .ptr false [c.pv intF 1] 0])) [.pure (.int .i64 (k : Nat))] = some (.val (.pure ((fun (l : Life) => .agg [upF l.habit c.xs[k]!, downF l.habit c.xs[k]!]) (⟨⟨l_habit_step, l_habit_place, l_habit_sink⟩, l_sights, l_notes⟩ : Life)))) :=
  call_pureC (ps := [_]) (caps := [_, _]) sh109 (e109 n (⟨⟨l_habit_step, l_habit_place, l_habit_sink⟩, l_sights, l_notes⟩ : Life) c k hk)
def someS (l : List Span) : Bool := allL (fun s => !decide (s.hi < s.lo)) l
theorem sh126 : G.shared 126 = false := by decide
theorem e126 (n : Nat) (l : Sl Span) (hl : l.xs.length < 1000) : callP G (n + 1) 126 [l.pv Span.cells 2] = some (.bool (someS l.xs)) := by
  refine callP_of (ext_none _) rfl g126 rfl ?_
  (repeat' first | simp [*, initEnv, c126] | (refine wpIf_two (fun _ h => ?_) (fun _ h => ?_) <;> try simp [-Nat.le_zero_eq] at h))
  have hP : Hide (someS l.xs = allL (fun s => !decide (s.hi < s.lo)) l.xs) := ⟨rfl⟩
  generalize someS l.xs = P at *
  refine wp_loopF [(2, 20)] (fun (i : Nat) env H => env 3 = .pure (.int .i64 i) ∧ i ≤ l.xs.length ∧ Hide (P = allL (fun s => !decide (s.hi < s.lo)) (l.xs.drop i))) (fun i => l.xs.length - i) 0 ?_ ?_ ?_ ?_
  · decide
  · simp; exact hP
  · simp only [loopFuel]; omega
  rintro i env H ⟨h3, hi, hn⟩
  have hfit : i < 9223372036854775807 := by omega
  (repeat' first | simp [*, initEnv] | (refine wpIf_two (fun _ h => ?_) (fun _ h => ?_) <;> try simp [-Nat.le_zero_eq] at h))
  all_goals try (rw [hn.h, allL_drop (by assumption)]; simp [*]; done)
  all_goals try (refine ⟨i + 1, by omega, by simp, by omega, ⟨?_⟩⟩; rw [hn.h, allL_drop (by assumption)]; simp [*]; done)
  rw [hn.h, allL_end (by omega)]
@[simp] theorem d126 (n : Nat) (H : Heap) (l : Sl Span) (hl : l.xs.length < 1000) : doCall (calleeOf G (n + 1)) H (.pure (.func 126 [])) [.pure (l.pv Span.cells 2)] = some (.val (.pure (.bool (someS l.xs)))) :=
  call_pureC (ps := [_]) (caps := []) sh126 (e126 n l hl)

/-! ### Through all gaps, and back -/
def wideS (s : Span) : Prop := s.lo ≤ 1048576 ∧ -1048576 ≤ s.hi
theorem okSp_meet {a b : Span} (ha : okSp a) (hb : wideS b) : okSp (meetS a b) := by
  unfold okSp wideS meetS at *; simp only; omega
def headF (on : Nat → Span → Span) (k : Nat) (p : Option Span) (s : Span) : Span := match p with
  | none => s
  | some q => meetS s (on (k-1) q)
def fwdS (on : Nat → Span → Span) : Nat → Option Span → List Span → Option (List Span)
  | _, _, [] => some []
  | k, p, s :: r => if (headF on k p s).hi < (headF on k p s).lo then none else (fwdS on (k+1) (some (headF on k p s)) r).map (headF on k p s :: ·)
def bwdS (back : Nat → Span → Span) : Nat → List Span → List Span
  | _, [] => []
  | k, s :: r => match bwdS back (k+1) r with
    | [] => [s]
    | t :: r' => meetS s (back k t) :: t :: r'
def thrPV : Option (List Span) → PV
  | none => .tup [.nils, .bool false]
  | some l => .tup [(Sl.of l).pv Span.cells 2, .bool true]
def throughS (on back : Nat → Span → Span) (l : List Span) : Option (List Span) := (fwdS on 0 none l).map (bwdS back 0)
theorem fwdS_step {on : Nat → Span → Span} {k : Nat} {p : Option Span} {l : List Span} (hk : k < l.length) {t : Span} (ht : t = headF on k p l[k]) :
    fwdS on k p (l.drop k) = if t.hi < t.lo then none else (fwdS on (k+1) (some t) (l.drop (k+1))).map (t :: ·) := by
  rw [List.drop_eq_getElem_cons hk, fwdS, ← ht]
theorem bwdS_length (back : Nat → Span → Span) : ∀ (l : List Span) (k : Nat), (bwdS back k l).length = l.length
  | [], k => rfl
  | s :: r, k => by
    have := bwdS_length back r (k+1)
    rw [bwdS]
    cases h : bwdS back (k+1) r with
    | nil => rw [h] at this; simp at this; simp [← this]
    | cons t r' => rw [h] at this; simp at this ⊢; exact this
theorem bwdS_step {back : Nat → Span → Span} {l : List Span} {j : Nat} (hj : j + 1 < l.length) :
    bwdS back j (l.drop j) = meetS l[j] (back j ((bwdS back (j+1) (l.drop (j+1)))[0]'(by rw [bwdS_length]; simp; omega))) :: bwdS back (j+1) (l.drop (j+1)) := by
  rw [List.drop_eq_getElem_cons (by omega), bwdS]
  have hlen := bwdS_length back (l.drop (j+1)) (j+1)
  obtain ⟨t, r', h⟩ : ∃ t r', bwdS back (j+1) (l.drop (j+1)) = t :: r' := by
    cases h : bwdS back (j+1) (l.drop (j+1)) with
    | nil => rw [h] at hlen; simp at hlen; omega
    | cons t r' => exact ⟨t, r', rfl⟩
  simp [h]
theorem bwdS_last {back : Nat → Span → Span} {l : List Span} {j : Nat} (hj : j + 1 = l.length) : bwdS back j (l.drop j) = l.drop j := by
  rw [List.drop_eq_getElem_cons (by omega), List.drop_eq_nil_of_le (by omega)]; rfl

theorem fwd_go {on : Nat → Span → Span} {out l : List Span} {t : Span} (hk : out.length < l.length) (ht : t = headF on out.length out.getLast? l[out.length])
    (hn : fwdS on 0 none l = (fwdS on out.length out.getLast? (l.drop out.length)).map (out ++ ·)) :
    (t.hi < t.lo → fwdS on 0 none l = none) ∧ (¬ t.hi < t.lo → fwdS on 0 none l = (fwdS on (out ++ [t]).length (out ++ [t]).getLast? (l.drop (out ++ [t]).length)).map ((out ++ [t]) ++ ·)) := by
  rw [fwdS_step hk ht] at hn
  constructor
  · intro h; rw [hn, if_pos h]; rfl
  · intro h
    rw [hn, if_neg h]
    simp [Function.comp_def]
theorem bwd_ok {back : Nat → Span → Span} (hw : ∀ k t, okSp t → wideS (back k t)) : ∀ (l : List Span) (k : Nat), (∀ s ∈ l, okSp s) → ∀ s ∈ bwdS back k l, okSp s
  | [], k, _ => by simp [bwdS]
  | a :: r, k, h => by
    have ih := bwd_ok hw r (k+1) (fun s hs => h s (by simp [hs]))
    rw [bwdS]
    cases hb : bwdS back (k+1) r with
    | nil => intro s hs; simp at hs; subst hs; exact h _ (by simp)
    | cons t r' =>
      rw [hb] at ih
      intro s hs
      rcases List.mem_cons.1 hs with rfl | hs
      · exact okSp_meet (h a (by simp)) (hw _ _ (ih t (by simp)))
      · exact ih s hs
theorem through_eq (n : Nat) (l : Life) (of gap : PV) (ofF : Sight → Span) (on back : Nat → Span → Span) (g1 g2 : Nat → PV) (yr : Nat → Int)
    (h1 : 1 ≤ l.sights.xs.length) (h9 : l.sights.xs.length ≤ 9)
    (hofs : ∀ s ∈ l.sights.xs, okSp (ofF s))
    (hw1 : ∀ k t, okSp t → wideS (on k t)) (hw2 : ∀ k t, okSp t → wideS (back k t))
    (hyr : ∀ k (h : k + 1 < l.sights.xs.length), IntKind.i64.wrap (l.sights.xs[k+1].year - l.sights.xs[k].year) = yr k)
    (hof : ∀ H s, doCall (calleeOf G (n + 5)) H (.pure of) [.pure (.agg (Sight.cells s))] = some (.val (.pure (.agg (ofF s).cells))))
    (hgap : ∀ H (k : Nat), k + 1 < l.sights.xs.length → doCall (calleeOf G (n + 5)) H (.pure gap) [.pure (.int .i64 k)] = some (.val (.pure (.agg [g1 k, g2 k]))))
    (hon : ∀ H (k : Nat) s, k + 1 < l.sights.xs.length → okSp s → doCall (calleeOf G (n + 5)) H (.pure (g1 k)) [.pure (.agg (Span.cells s)), .pure (.int .i64 (yr k))] = some (.val (.pure (.agg (on k s).cells))))
    (hbk : ∀ H (k : Nat) s, k + 1 < l.sights.xs.length → okSp s → doCall (calleeOf G (n + 5)) H (.pure (g2 k)) [.pure (.agg (Span.cells s)), .pure (.int .i64 (yr k))] = some (.val (.pure (.agg (back k s).cells)))) 
    (hc1 : ∀ k, AV.cells (.pure (g1 k)) = [.pure (g1 k)]) (hc2 : ∀ k, AV.cells (.pure (g2 k)) = [.pure (g2 k)]) :
    callP G (n + 6) 105 [.agg l.cells, l.sights.pv Sight.cells 9, of, gap] = some (thrPV (throughS on back (l.sights.xs.map ofF))) := by
  have hon' : ∀ H (k : Nat) lo hi, k + 1 < l.sights.xs.length → okSp ⟨lo, hi⟩ → doCall (calleeOf G (n + 5)) H (.pure (g1 k)) [.pure (.agg [.int .i64 lo, .int .i64 hi]), .pure (.int .i64 (yr k))] = some (.val (.pure (.agg [.int .i64 (on k ⟨lo, hi⟩).lo, .int .i64 (on k ⟨lo, hi⟩).hi]))) := fun H k lo hi h h' => hon H k ⟨lo, hi⟩ h h'
  have hbk' : ∀ H (k : Nat) lo hi, k + 1 < l.sights.xs.length → okSp ⟨lo, hi⟩ → doCall (calleeOf G (n + 5)) H (.pure (g2 k)) [.pure (.agg [.int .i64 lo, .int .i64 hi]), .pure (.int .i64 (yr k))] = some (.val (.pure (.agg [.int .i64 (back k ⟨lo, hi⟩).lo, .int .i64 (back k ⟨lo, hi⟩).hi]))) := fun H k lo hi h h' => hbk H k ⟨lo, hi⟩ h h'
  have hof' : ∀ H (a b c d e f : Int) (g : List UInt8) (i j : Int), doCall (calleeOf G (n + 5)) H (.pure of) [.pure (.agg [.int .i64 a, .int .i64 b, .int .i64 c, .int .i64 d, .int .i64 e, .int .i64 f, .str ⟨g.toArray⟩, .int .i64 i, .int .i64 j])] = some (.val (.pure (.agg [.int .i64 (ofF ⟨a, b, ⟨⟨c, d⟩, ⟨e, f⟩⟩, g, ⟨i, j⟩⟩).lo, .int .i64 (ofF ⟨a, b, ⟨⟨c, d⟩, ⟨e, f⟩⟩, g, ⟨i, j⟩⟩).hi]))) := fun H a b c d e f g i j => hof H ⟨a, b, ⟨⟨c, d⟩, ⟨e, f⟩⟩, g, ⟨i, j⟩⟩
  clear hon hbk hof
  refine callP_of (ext_none _) rfl g105 rfl ?_
  have hP : Hide (thrPV (throughS on back (l.sights.xs.map ofF)) = thrPV ((fwdS on 0 none (l.sights.xs.map ofF)).map (bwdS back 0))) := ⟨rfl⟩
  generalize thrPV (throughS on back (l.sights.xs.map ofF)) = P at *
  (repeat' first | simp [*, initEnv, c105] | (refine wpIf_two (fun _ h => ?_) (fun _ h => ?_) <;> try simp [-Nat.le_zero_eq] at h) | (apply wpE_appendV; (focus (first | assumption | (repeat' first | assumption | with_reducible apply GrowV.setNew | with_reducible apply GrowV.alloc | with_reducible apply GrowV.set | (with_reducible show ¬ Names _ _; simp [*]; done)))); (focus (exact fun _ => rfl)); (focus decide); (focus (intro a; first | rfl | simp)); (focus (simp [maxCells] <;> omega))) | (refine after_intro fun v2 H2 hv2 hnx2 hget2 hnew2 hone2 hcel2 => ?_))
  refine wp_loopF [(8, 13), (17, 60)] (fun (out : List Span) env H => env 17 = .pure (.int .i64 out.length) ∧ out.length ≤ l.sights.xs.length ∧ GrowV Span.cells 2 H (env 10) out ∧ (∀ s ∈ out, okSp s) ∧
      Hide (fwdS on 0 none (l.sights.xs.map ofF) = (fwdS on out.length out.getLast? ((l.sights.xs.map ofF).drop out.length)).map (out ++ ·))) (fun out => l.sights.xs.length - out.length) [] ?_ ?_ ?_ ?_
  · decide
  · simp [GrowV.nil]
  · simp only [loopFuel]; simp; omega
  rintro out env H ⟨h17, hi, hg, hok, hn⟩
  have hfit : out.length < 9223372036854775807 := by omega
  have ha : ∀ k i, i < out.length → addrV 2 (env 10) (.pure (.int k (i : Nat))) = some (.val (.box (idOf (env 10)) (i * 2))) := fun k i h => hg.1.addr h
  have hob : 0 < out.length → H.get (idOf (env 10)) = .cells true (rowOf Span.cells out) := fun h => hg.1.objI h
  have hlt : 0 < out.length → idOf (env 10) < H.nx := fun h => hg.1.ltI h
  have hlt2 : 0 < out.length → idOf (env 10) < H.nx + 1 := fun h => by have := hlt h; omega
  have hne1 : 0 < out.length → ¬ (idOf (env 10) = H.nx) := fun h => by have := hlt h; omega
  have hne2 : 0 < out.length → ¬ (idOf (env 10) = H.nx + 1) := fun h => by have := hlt h; omega
  have hl1 : 0 < out.length → out.length - 1 < out.length := fun h => by omega
  have hl2 : 0 < out.length → out.length - 1 < l.sights.xs.length := fun h => by omega
  have hl3 : 0 < out.length → out.length < l.sights.xs.length → out.length - 1 + 1 < l.sights.xs.length := fun h h' => by omega
  have hok1 : ∀ h : 0 < out.length, okSp (out[out.length - 1]'(by omega)) := fun h => hok _ (List.getElem_mem _)
  have hyi : ∀ (h : 0 < out.length) (h' : out.length < l.sights.xs.length), IntKind.i64.wrap (l.sights.xs[out.length].year - (l.sights.xs[out.length - 1]'(by omega)).year) = yr (out.length - 1) := fun h h' => by
    have := hyr (out.length - 1) (by omega)
    have h9 : out.length - 1 + 1 = out.length := by omega
    simp only [h9] at this
    exact this
  have hlen2 : (rowOf Span.cells out).length = out.length * 2 := rowOf_length (f := Span.cells) (sz := 2) (fun _ => rfl) out
  have hfr := hg.1.fresh
  have go0 : ∀ (h : out.length ≤ 0) (h' : out.length < l.sights.xs.length), Hide (((ofF l.sights.xs[out.length]).hi < (ofF l.sights.xs[out.length]).lo → fwdS on 0 none (l.sights.xs.map ofF) = none) ∧ (¬ (ofF l.sights.xs[out.length]).hi < (ofF l.sights.xs[out.length]).lo → fwdS on 0 none (l.sights.xs.map ofF) = (fwdS on (out ++ [ofF l.sights.xs[out.length]]).length (out ++ [ofF l.sights.xs[out.length]]).getLast? ((l.sights.xs.map ofF).drop (out ++ [ofF l.sights.xs[out.length]]).length)).map ((out ++ [ofF l.sights.xs[out.length]]) ++ ·))) := fun h h' => by
    have : out = [] := List.eq_nil_of_length_eq_zero (by omega)
    refine ⟨fwd_go (by simpa using h') ?_ hn.h⟩
    subst this; simp [headF]
  have go1 : ∀ (h : 0 < out.length) (h' : out.length < l.sights.xs.length) (t : Span), t = meetS (ofF l.sights.xs[out.length]) (on (out.length - 1) (out[out.length - 1]'(by omega))) → Hide ((t.hi < t.lo → fwdS on 0 none (l.sights.xs.map ofF) = none) ∧ (¬ t.hi < t.lo → fwdS on 0 none (l.sights.xs.map ofF) = (fwdS on (out ++ [t]).length (out ++ [t]).getLast? ((l.sights.xs.map ofF).drop (out ++ [t]).length)).map ((out ++ [t]) ++ ·))) := fun h h' t ht => by
    refine ⟨fwd_go (by simpa using h') ?_ hn.h⟩
    rw [List.getLast?_eq_getElem?, List.getElem?_eq_getElem (by omega)]
    simpa [headF] using ht
  (repeat' first | simp [*, initEnv] | (refine wpIf_two (fun _ h => ?_) (fun _ h => ?_) <;> try simp [-Nat.le_zero_eq] at h) | (apply wpE_appendV; (focus (first | assumption | (repeat' first | assumption | with_reducible apply GrowV.setNew | with_reducible apply GrowV.alloc | with_reducible apply GrowV.set | (with_reducible show ¬ Names _ _; simp [*]; done)))); (focus (exact fun _ => rfl)); (focus decide); (focus (intro a; first | rfl | simp)); (focus (simp [maxCells] <;> omega))) | (refine after_intro fun v2 H2 hv2 hnx2 hget2 hnew2 hone2 hcel2 => ?_))
  · have hl : out.length < l.sights.xs.length := by assumption
    have h0 : 0 < out.length := by assumption
    rw [hP.h, (go1 h0 hl _ rfl).h.1 (by assumption)]; rfl
  · have hl : out.length < l.sights.xs.length := by assumption
    have h0 : 0 < out.length := by assumption
    refine ⟨out ++ [meetS (ofF l.sights.xs[out.length]) (on (out.length - 1) (out[out.length - 1]'(by omega)))], by simp; omega, by simp, by simp; omega, hv2, ?_, ⟨(go1 h0 hl _ rfl).h.2 (by omega)⟩⟩
    intro s hs
    rcases List.mem_append.1 hs with h | h
    · exact hok s h
    · simp at h; subst h
      exact okSp_meet (hofs _ (List.getElem_mem _)) (hw1 _ _ (hok1 h0))
  · have hl : out.length < l.sights.xs.length := by assumption
    have h0 : out.length ≤ 0 := by assumption
    rw [hP.h, (go0 h0 hl).h.1 (by assumption)]; rfl
  · have hl : out.length < l.sights.xs.length := by assumption
    have h0 : out.length ≤ 0 := by assumption
    refine ⟨out ++ [ofF l.sights.xs[out.length]], by simp; omega, by simp, by simp; omega, hv2, ?_, ⟨(go0 h0 hl).h.2 (by omega)⟩⟩
    intro s hs
    rcases List.mem_append.1 hs with h | h
    · exact hok s h
    · simp at h; subst h
      exact hofs _ (List.getElem_mem _)
  have hl : out.length = l.sights.xs.length := by omega
  have hP2 : Hide (P = thrPV (some (bwdS back 0 out))) := ⟨by rw [hP.h, hn.h, List.drop_eq_nil_of_le (by simp; omega)]; simp [fwdS]⟩
  clear hP hn go0 go1 hl1 hl2 hl3 hok1 hyi hlt2 hne1 hne2 ha hfr
  have hrow := hob (by omega)
  have hlt1 := hlt (by omega)
  clear hob hlt
  obtain ⟨id, hid, hget⟩ := hg.1.row (by intro e; rw [e] at hl; simp at hl; omega)
  have hw2' : IntKind.i64.wrap ((l.sights.xs.length : Int) - 2) = (l.sights.xs.length : Int) - 2 := wrap64 (by omega) (by omega)
  have hlen3 := hg.1.len
  clear hg hlen2 hrow hlt1
  (repeat' first | simp [*, initEnv] | (refine wpIf_two (fun _ h => ?_) (fun _ h => ?_) <;> try simp [-Nat.le_zero_eq] at h) | (apply wpE_appendV; (focus (first | assumption | (repeat' first | assumption | with_reducible apply GrowV.setNew | with_reducible apply GrowV.alloc | with_reducible apply GrowV.set | (with_reducible show ¬ Names _ _; simp [*]; done)))); (focus (exact fun _ => rfl)); (focus decide); (focus (intro a; first | rfl | simp)); (focus (simp [maxCells] <;> omega))) | (refine after_intro fun v2 H2 hv2 hnx2 hget2 hnew2 hone2 hcel2 => ?_))
  refine wp_loopF [(14, 14), (64, 99)] (fun (j : Nat) env H => env 14 = .pure (.int .i64 ((j : Int) - 1)) ∧ j + 1 ≤ l.sights.xs.length ∧ H.get id = .cells true (rowOf Span.cells (out.take j ++ bwdS back j (out.drop j)))) (fun j => j) (l.sights.xs.length - 1) ?_ ?_ ?_ ?_
  · decide
  · have h8 : out.take (l.sights.xs.length - 1) ++ bwdS back (l.sights.xs.length - 1) (out.drop (l.sights.xs.length - 1)) = out := by
      rw [bwdS_last (by omega), List.take_append_drop]
    refine ⟨?_, by omega, by rw [h8]; exact hget⟩
    simp
    omega
  · simp only [loopFuel]; omega
  rintro j env2 H2 ⟨h14, hj, hget2⟩
  cases j with
  | zero =>
    have h14' : env2 14 = .pure (.int .i64 (-1)) := by simpa using h14
    clear h14
    rw [List.take_zero, List.nil_append, List.drop_zero] at hget2
    have hbl : (bwdS back 0 out).length = l.sights.xs.length := by rw [bwdS_length, hl]
    have hown : OwnV Span.cells 2 H2 (.row id 2 0 l.sights.xs.length) (bwdS back 0 out) := .inr ⟨id, by rw [hbl], hget2⟩
    have hne : bwdS back 0 out ≠ [] := by intro e; rw [e] at hbl; simp at hbl; omega
    obtain ⟨ids, hids⟩ := GrowV.res (n := 9) ⟨hown, fun e => absurd e hne⟩ (fun _ => rfl)
    have hP3 : P = .tup [(Sl.of (bwdS back 0 out)).pv Span.cells 2, .bool true] := hP2.h
    (repeat' first | simp [*, initEnv] | (refine wpIf_two (fun _ h => ?_) (fun _ h => ?_) <;> try simp [-Nat.le_zero_eq] at h) | (apply wpE_appendV; (focus (first | assumption | (repeat' first | assumption | with_reducible apply GrowV.setNew | with_reducible apply GrowV.alloc | with_reducible apply GrowV.set | (with_reducible show ¬ Names _ _; simp [*]; done)))); (focus (exact fun _ => rfl)); (focus decide); (focus (intro a; first | rfl | simp)); (focus (simp [maxCells] <;> omega))) | (refine after_intro fun v2 H2 hv2 hnx2 hget2 hnew2 hone2 hcel2 => ?_))
  | succ k =>
    have h14' : env2 14 = .pure (.int .i64 (k : Nat)) := by rw [h14]; congr 2; omega
    clear h14
    have hB : ((bwdS back (k+1) (out.drop (k+1))).length = l.sights.xs.length - (k + 1)) := by rw [bwdS_length]; simp; omega
    have c0 : (out.take (k+1) ++ bwdS back (k+1) (out.drop (k+1))).length = l.sights.xs.length := by rw [List.length_append, hB, List.length_take]; omega
    have c2 : ∀ h, (out.take (k+1) ++ bwdS back (k+1) (out.drop (k+1)))[k]'h = out[k]'(by omega) := fun h => by
      rw [List.getElem_append_left (by simp; omega)]; simp
    have c3 : ∀ h, (out.take (k+1) ++ bwdS back (k+1) (out.drop (k+1)))[k+1]'h = (bwdS back (k+1) (out.drop (k+1)))[0]'(by omega) := fun h => by
      rw [List.getElem_append_right (by simp; omega)]
      congr 1
      simp; omega
    have c4 : ∀ h, okSp ((out.take (k+1) ++ bwdS back (k+1) (out.drop (k+1)))[k+1]'h) := fun h => by
      rw [c3]
      exact bwd_ok hw2 _ _ (fun s hs => hok s (List.mem_of_mem_drop hs)) _ (List.getElem_mem _)
    have c5 : ∀ h1 h2, (out.take (k+1) ++ bwdS back (k+1) (out.drop (k+1))).set k (meetS ((out.take (k+1) ++ bwdS back (k+1) (out.drop (k+1)))[k]'h1) (back k ((out.take (k+1) ++ bwdS back (k+1) (out.drop (k+1)))[k+1]'h2))) = out.take k ++ bwdS back k (out.drop k) := fun h1 h2 => by
      rw [c2, c3, bwdS_step (j := k) (by omega), List.set_append_left _ _ (by simp; omega), ← take_succ' (xs := out) (i := k) (by omega)]
      rw [List.set_append_right _ _ (by rw [List.length_take]; omega)]
      simp
      congr 1
      simp [Nat.min_eq_left (show k ≤ out.length by omega)] <;> omega
    obtain ⟨cur, e1, d0, d4, d5⟩ : ∃ cur : List Span, H2.get id = .cells true (rowOf Span.cells cur) ∧ cur.length = l.sights.xs.length ∧ (∀ h, okSp (cur[k+1]'h)) ∧ (∀ h1 h2, cur.set k (meetS (cur[k]'h1) (back k (cur[k+1]'h2))) = out.take k ++ bwdS back k (out.drop k)) := ⟨_, hget2, c0, c4, c5⟩
    clear c0 c2 c3 c4 c5 hB hget2
    have hk1 : k + 1 < l.sights.xs.length := by omega
    have hk0 : k < l.sights.xs.length := by omega
    have hfit2 : k < 9223372036854775807 := by omega
    have c6 := d4 (by omega)
    have hid2 := nx_of_get e1
    have hyk := hyr k hk1
    have c5' : Hide _ := ⟨d5 (by omega) (by omega)⟩
    clear d5 d4
    (repeat' first | simp [*, initEnv] | (refine wpIf_two (fun _ h => ?_) (fun _ h => ?_) <;> try simp [-Nat.le_zero_eq] at h) | (apply wpE_appendV; (focus (first | assumption | (repeat' first | assumption | with_reducible apply GrowV.setNew | with_reducible apply GrowV.alloc | with_reducible apply GrowV.set | (with_reducible show ¬ Names _ _; simp [*]; done)))); (focus (exact fun _ => rfl)); (focus decide); (focus (intro a; first | rfl | simp)); (focus (simp [maxCells] <;> omega))) | (refine after_intro fun v2 H2 hv2 hnx2 hget2 hnew2 hone2 hcel2 => ?_))
    exact ⟨k, by omega, wrap64 (by omega) (by omega), by omega, by rw [c5'.h]⟩
end Go.Proofs.YtnomliioadjdgaaGreat.Vm

namespace Go.Proofs.YtnomliioadjdgaaGreat.Vm
open Go
set_option linter.unusedSimpArgs false
set_option linter.unusedVariables false
set_option maxHeartbeats 4000000

/-- What is known of letters at each sight: a text and for how many sights, then kinds of gaps with the letters behind them. -/
def goL : List UInt8 → Nat → List (Int × List UInt8) → Option (List (List UInt8))
  | p, m, [] => some (List.replicate m p)
  | p, m, (k, t) :: r => if k = 2 then (goL t 1 r).map (List.replicate m p ++ ·) else if agreeR p t = true then goL (mixL p t) (m + 1) r else none
def lets (l : List Sight) : List (List UInt8) := l.map (·.letters)
def gapsL (l : List Sight) (c : List Int) : List (Int × List UInt8) := c.zip (lets l).tail
def startL (l : List Sight) (c : List Int) (i : Nat) : Option (List (List UInt8)) := if h : i < l.length then goL l[i].letters 1 ((gapsL l c).drop i) else some []
def lettersS (l : List Sight) (c : List Int) : Option (List (List UInt8)) := startL l c 0
def letPV : Option (List (List UInt8)) → PV
  | none => .tup [.nils, .bool false]
  | some l => .tup [(Sl.of l).pv strF 1, .bool true]
theorem gapsL_drop {l : List Sight} {c : List Int} {i : Nat} (hc : c.length + 1 = l.length) (hi : i < c.length) : (gapsL l c).drop i = (c[i], (l[i+1]'(by omega)).letters) :: (gapsL l c).drop (i + 1) := by
  have hlen : (gapsL l c).length = c.length := by simp [gapsL, lets]; omega
  rw [List.drop_eq_getElem_cons (by omega)]
  congr 1
  simp [gapsL, lets]
theorem gapsL_end {l : List Sight} {c : List Int} {i : Nat} (hc : c.length + 1 = l.length) (hi : c.length ≤ i) : (gapsL l c).drop i = [] := by
  apply List.drop_eq_nil_of_le
  simp [gapsL, lets]; omega
@[simp] theorem putIn_rowS {l : List (List UInt8)} {i : Nat} {x : List UInt8} (h : i < l.length) : putIn (.cells true (rowOf strF l)) 1 i [.pure (.str ⟨x.toArray⟩)] = some (.cells true (rowOf strF (l.set i x))) := by
  have := putIn_rowG (f := strF) (sz := 1) (l := l) (i := i) (a := x) (fun _ => rfl) (fun _ => rfl) (by decide) h
  rw [Nat.mul_one] at this
  exact this
theorem agree_len {p q : List UInt8} (h : agreeR p q = true) : (mixL p q).length ≤ 8 := by
  simp [agreeR, patR] at h
  have main : ∀ (p q : List UInt8), (mixL p q).length ≤ p.length := by
    intro p
    induction p with
    | nil => intro q; simp [mixL]
    | cons a p ih => intro q; cases q with
      | nil => simp [mixL]
      | cons b q => simp [mixL]; exact ih q
  have := main p q
  omega

theorem sh124 : G.shared 124 = false := by decide
theorem e124 (n : Nat) (l : Life) (c : Sl Int) (hc : c.xs.length + 1 = l.sights.xs.length) (h9 : l.sights.xs.length ≤ 9) (hl : ∀ s ∈ l.sights.xs, s.letters.length ≤ 20) : callP G (n + 5) 124 [.agg l.cells, c.pv intF 1] = some (letPV (lettersS l.sights.xs c.xs)) := by
  refine callP_of (ext_none _) rfl g124 rfl ?_
  have hP : Hide (letPV (lettersS l.sights.xs c.xs) = letPV (startL l.sights.xs c.xs 0)) := ⟨rfl⟩
  generalize letPV (lettersS l.sights.xs c.xs) = P at *
  (repeat' first | simp [*, initEnv, c124] | (refine wpIf_two (fun _ h => ?_) (fun _ h => ?_) <;> try simp [-Nat.le_zero_eq] at h) | (apply wpE_appendV; (focus (first | assumption | (repeat' first | assumption | with_reducible apply GrowV.setNew | with_reducible apply GrowV.alloc | with_reducible apply GrowV.set | (with_reducible show ¬ Names _ _; simp [*]; done)))); (focus (exact fun _ => rfl)); (focus decide); (focus (intro a; first | rfl | simp)); (focus (simp [maxCells] <;> omega))) | (refine after_intro fun v2 H2 hv2 hnx2 hget2 hnew2 hone2 hcel2 => ?_))
  refine wp_loopF [(4, 62)] (fun (out : List (List UInt8)) env H => env 7 = .pure (.int .i64 out.length) ∧ out.length ≤ l.sights.xs.length ∧ GrowV strF 1 H (env 6) out ∧
      Hide (startL l.sights.xs c.xs 0 = (startL l.sights.xs c.xs out.length).map (out ++ ·))) (fun out => l.sights.xs.length - out.length) [] ?_ ?_ ?_ ?_
  · decide
  · simp [GrowV.nil]
  · simp only [loopFuel]; simp; omega
  rintro out env H ⟨h7, hi, hg, hn⟩
  have hfit : out.length < 9223372036854775807 := by omega
  obtain ⟨ids, hids⟩ := hg.res (n := 9) (fun _ => rfl)
  (repeat' first | simp [*, initEnv] | (refine wpIf_two (fun _ h => ?_) (fun _ h => ?_) <;> try simp [-Nat.le_zero_eq] at h) | (apply wpE_appendV; (focus (first | assumption | (repeat' first | assumption | with_reducible apply GrowV.setNew | with_reducible apply GrowV.alloc | with_reducible apply GrowV.set | (with_reducible show ¬ Names _ _; simp [*]; done)))); (focus (exact fun _ => rfl)); (focus decide); (focus (intro a; first | rfl | simp)); (focus (simp [maxCells] <;> omega))) | (refine after_intro fun v2 H2 hv2 hnx2 hget2 hnew2 hone2 hcel2 => ?_))
  rotate_left
  · have he : out.length = l.sights.xs.length := by omega
    have hP2 : P = .tup [(Sl.of out).pv strF 1, .bool true] := by rw [hP.h, hn.h, startL, dif_neg (by omega)]; simp [letPV]
    simp [*]
  have hlt : out.length < l.sights.xs.length := by assumption
  have hst : startL l.sights.xs c.xs out.length = goL l.sights.xs[out.length].letters 1 ((gapsL l.sights.xs c.xs).drop out.length) := by rw [startL, dif_pos hlt]
  have hn2 : Hide (startL l.sights.xs c.xs 0 = (goL l.sights.xs[out.length].letters 1 ((gapsL l.sights.xs c.xs).drop out.length)).map (out ++ ·)) := ⟨by rw [hn.h, hst]⟩
  clear hst hn
  refine wp_loopF [(4, 5), (8, 11), (25, 53)] (fun (s : Nat × List UInt8) env2 H2 => env2 8 = .pure (.int .i64 (s.1 : Nat)) ∧ env2 9 = .pure (.str ⟨s.2.toArray⟩) ∧ out.length < s.1 ∧ s.1 ≤ l.sights.xs.length ∧ H2 = H ∧ s.2.length ≤ 20 ∧
      Hide (goL l.sights.xs[out.length].letters 1 ((gapsL l.sights.xs c.xs).drop out.length) = goL s.2 (s.1 - out.length) ((gapsL l.sights.xs c.xs).drop (s.1 - 1)))) (fun s => l.sights.xs.length - s.1) (out.length + 1, l.sights.xs[out.length].letters) ?_ ?_ ?_ ?_
  · decide
  · refine ⟨by simp, by simp, by simp, by simp; omega, rfl, hl _ (List.getElem_mem _), ⟨by simp⟩⟩
  · simp only [loopFuel]; omega
  rintro ⟨m, p⟩ env2 H2 ⟨h8, h9', hm0, hm, rfl, hp, hn3⟩
  simp only at h8 h9' hm0 hm hp hn3
  have hfit2 : m < 9223372036854775807 := by omega
  have hm1 : 0 < m := by omega
  have hc1 : m - 1 < c.xs.length ∨ True := .inr trivial
  have hc2 : m < l.sights.xs.length → m - 1 < c.xs.length := fun h => by omega
  have hl2 : ∀ h : m < l.sights.xs.length, l.sights.xs[m].letters.length < 1152921504606846975 := fun h => by have := hl _ (List.getElem_mem h); omega
  have hp2 : p.length < 1152921504606846975 := by omega
  have gd : ∀ h : m < l.sights.xs.length, (gapsL l.sights.xs c.xs).drop (m - 1) = (c.xs[m - 1]'(by omega), l.sights.xs[m].letters) :: (gapsL l.sights.xs c.xs).drop m := fun h => by
    have := gapsL_drop (c := c.xs) hc (i := m - 1) (by omega)
    have h9 : m - 1 + 1 = m := by omega
    simp only [h9] at this
    exact this
  have gd' : Hide (∀ h : m < l.sights.xs.length, (gapsL l.sights.xs c.xs).drop (m - 1) = (c.xs[m - 1]'(by omega), l.sights.xs[m].letters) :: (gapsL l.sights.xs c.xs).drop m) := ⟨gd⟩
  clear gd hc1
  (repeat' first | simp [*, initEnv] | (refine wpIf_two (fun _ h => ?_) (fun _ h => ?_) <;> try simp [-Nat.le_zero_eq] at h) | (apply wpE_appendV; (focus (first | assumption | (repeat' first | assumption | with_reducible apply GrowV.setNew | with_reducible apply GrowV.alloc | with_reducible apply GrowV.set | (with_reducible show ¬ Names _ _; simp [*]; done)))); (focus (exact fun _ => rfl)); (focus decide); (focus (intro a; first | rfl | simp)); (focus (simp [maxCells] <;> omega))) | (refine after_intro fun v2 H2 hv2 hnx2 hget2 hnew2 hone2 hcel2 => ?_))
  · have hml : m < l.sights.xs.length := by assumption
    have hk : c.xs[m - 1]'(hc2 hml) = 2 := by assumption
    have hseg : Hide (startL l.sights.xs c.xs 0 = (startL l.sights.xs c.xs m).map ((out ++ List.replicate (m - out.length) p) ++ ·)) := ⟨by
      rw [hn2.h, hn3.h, gd'.h hml, goL, if_pos hk, startL, dif_pos hml, Option.map_map]
      simp [Function.comp_def]⟩
    clear gd' hn2 hn3 hk
    rename decide (m < l.sights.xs.length) = true => hz
    clear hz
    refine wp_loopF [(6, 7), (54, 62)] (fun (j : Nat) env3 H3 => env3 7 = .pure (.int .i64 j) ∧ out.length ≤ j ∧ j ≤ m ∧ GrowV strF 1 H3 (env3 6) (out ++ List.replicate (j - out.length) p)) (fun j => m - j) out.length ?_ ?_ ?_ ?_
    · decide
    · simp [*] <;> omega
    · simp only [loopFuel]; omega
    rintro j env3 H3 ⟨h7', hj0, hj, hg3⟩
    have hfit3 : j < 9223372036854775807 := by omega
    (repeat' first | simp [*, initEnv] | (refine wpIf_two (fun _ h => ?_) (fun _ h => ?_) <;> try simp [-Nat.le_zero_eq] at h) | (apply wpE_appendV; (focus (first | assumption | (repeat' first | assumption | with_reducible apply GrowV.setNew | with_reducible apply GrowV.alloc | with_reducible apply GrowV.set | (with_reducible show ¬ Names _ _; simp [*]; done)))); (focus (exact fun _ => rfl)); (focus decide); (focus (intro a; first | rfl | simp)); (focus (simp [maxCells] <;> omega))) | (refine after_intro fun v2 H2 hv2 hnx2 hget2 hnew2 hone2 hcel2 => ?_))
    · refine ⟨j + 1, by omega, by simp, by omega, by omega, ?_⟩
      refine hv2.cast ?_
      have h9 : j + 1 - out.length = (j - out.length) + 1 := by omega
      rw [h9, List.replicate_succ']
      try simp
    · have hj9 : j = m := by omega
      subst hj9
      refine ⟨out ++ List.replicate (j - out.length) p, by simp; omega, by simp; omega, by simp; omega, hg3, ⟨?_⟩⟩
      have h9 : (out ++ List.replicate (j - out.length) p).length = j := by simp; omega
      rw [h9]
      exact hseg.h
  · have hml : m < l.sights.xs.length := by assumption
    have hk : ¬ c.xs[m - 1]'(hc2 hml) = 2 := by assumption
    have ha : agreeR p l.sights.xs[m].letters = true := by assumption
    have hlen := agree_len ha
    refine ⟨m + 1, by omega, by simp, mixL p l.sights.xs[m].letters, rfl, by omega, by omega, by omega, ⟨?_⟩⟩
    have h9 : m + 1 - out.length = m - out.length + 1 := by omega
    rw [hn3.h, gd'.h hml, goL, if_neg hk, if_pos ha, h9]
    simp
  · have hml : m < l.sights.xs.length := by assumption
    have hk : ¬ c.xs[m - 1]'(hc2 hml) = 2 := by assumption
    have ha : ¬ agreeR p l.sights.xs[m].letters = true := by simpa using (by assumption : agreeR p l.sights.xs[m].letters = false)
    rw [hP.h, hn2.h, hn3.h, gd'.h hml, goL, if_neg hk, if_neg ha]
    rfl
  · have hml : m = l.sights.xs.length := by omega
    have hseg : Hide (startL l.sights.xs c.xs 0 = (startL l.sights.xs c.xs m).map ((out ++ List.replicate (m - out.length) p) ++ ·)) := ⟨by
      rw [hn2.h, hn3.h, gapsL_end hc (by omega), goL, startL, dif_neg (by omega)]
      simp⟩
    clear gd' hn2 hn3 hc2 hl2
    refine wp_loopF [(6, 7), (54, 62)] (fun (j : Nat) env3 H3 => env3 7 = .pure (.int .i64 j) ∧ out.length ≤ j ∧ j ≤ m ∧ GrowV strF 1 H3 (env3 6) (out ++ List.replicate (j - out.length) p)) (fun j => m - j) out.length ?_ ?_ ?_ ?_
    · decide
    · simp [*] <;> omega
    · simp only [loopFuel]; omega
    rintro j env3 H3 ⟨h7', hj0, hj, hg3⟩
    have hfit3 : j < 9223372036854775807 := by omega
    (repeat' first | simp [*, initEnv] | (refine wpIf_two (fun _ h => ?_) (fun _ h => ?_) <;> try simp [-Nat.le_zero_eq] at h) | (apply wpE_appendV; (focus (first | assumption | (repeat' first | assumption | with_reducible apply GrowV.setNew | with_reducible apply GrowV.alloc | with_reducible apply GrowV.set | (with_reducible show ¬ Names _ _; simp [*]; done)))); (focus (exact fun _ => rfl)); (focus decide); (focus (intro a; first | rfl | simp)); (focus (simp [maxCells] <;> omega))) | (refine after_intro fun v2 H2 hv2 hnx2 hget2 hnew2 hone2 hcel2 => ?_))
    · refine ⟨j + 1, by omega, by simp, by omega, by omega, ?_⟩
      refine hv2.cast ?_
      have h9 : j + 1 - out.length = (j - out.length) + 1 := by omega
      rw [h9, List.replicate_succ']
      try simp
    · have hj9 : j = m := by omega
      subst hj9
      refine ⟨out ++ List.replicate (j - out.length) p, by simp; omega, by simp; omega, by simp; omega, hg3, ⟨?_⟩⟩
      have h9 : (out ++ List.replicate (j - out.length) p).length = j := by simp; omega
      rw [h9]
      exact hseg.h
@[simp] theorem d124 (n : Nat) (H : Heap) (l_habit_step : Int) (l_habit_place : Int) (l_habit_sink : Int) (l_sights : Sl Sight) (l_notes : Sl Note) (c : Sl Int) (hc : (fun (l : Life) => c.xs.length + 1 = l.sights.xs.length) (⟨⟨l_habit_step, l_habit_place, l_habit_sink⟩, l_sights, l_notes⟩ : Life)) (h9 : (fun (l : Life) => l.sights.xs.length ≤ 9) (⟨⟨l_habit_step, l_habit_place, l_habit_sink⟩, l_sights, l_notes⟩ : Life)) (hl : (fun (l : Life) => ∀ s ∈ l.sights.xs, s.letters.length ≤ 20) (⟨⟨l_habit_step, l_habit_place, l_habit_sink⟩, l_sights, l_notes⟩ : Life)) : doCall (calleeOf G (n + 5)) H (.pure (.func 124 [])) [.pure (.agg [.int .i64 l_habit_step, .int .i64 l_habit_place, .int .i64 l_habit_sink, (l_sights).pv Sight.cells 9, (l_notes).pv Note.cells 4]), .pure (c.pv intF 1)] = some (.val (.pure ((fun (l : Life) => letPV (lettersS l.sights.xs c.xs)) (⟨⟨l_habit_step, l_habit_place, l_habit_sink⟩, l_sights, l_notes⟩ : Life)))) :=
  call_pureC (ps := [_, _]) (caps := []) sh124 (e124 n (⟨⟨l_habit_step, l_habit_place, l_habit_sink⟩, l_sights, l_notes⟩ : Life) c hc h9 hl)

theorem goL_none {p : List UInt8} {m : Nat} {k : Int} {t : List UInt8} {r : List (Int × List UInt8)} (hk : ¬ k = 2) (ha : agreeR p t = false) : goL p m ((k, t) :: r) = none := by
  rw [goL, if_neg hk, if_neg (by simp [ha])]
theorem sh111 : G.shared 111 = false := by decide
theorem e111 (n : Nat) (l : Life) (c : Sl Int) (hc : c.xs.length + 1 = l.sights.xs.length) (h9 : l.sights.xs.length ≤ 9) (hl : ∀ s ∈ l.sights.xs, s.letters.length ≤ 20) : callP G (n + 4) 111 [.agg l.cells, c.pv intF 1] = some (letPV (lettersS l.sights.xs c.xs)) := by
  refine callP_of (ext_none _) rfl g111 rfl ?_
  have hP : Hide (letPV (lettersS l.sights.xs c.xs) = letPV (startL l.sights.xs c.xs 0)) := ⟨rfl⟩
  generalize letPV (lettersS l.sights.xs c.xs) = P at *
  (repeat' first | simp [*, initEnv, c111] | (refine wpIf_two (fun _ h => ?_) (fun _ h => ?_) <;> try simp [-Nat.le_zero_eq] at h) | (apply wpE_appendV; (focus (first | assumption | (repeat' first | assumption | with_reducible apply GrowV.setNew | with_reducible apply GrowV.alloc | with_reducible apply GrowV.set | (with_reducible show ¬ Names _ _; simp [*]; done)))); (focus (exact fun _ => rfl)); (focus decide); (focus (intro a; first | rfl | simp)); (focus (simp [maxCells] <;> omega))) | (refine after_intro fun v2 H2 hv2 hnx2 hget2 hnew2 hone2 hcel2 => ?_))
  refine wp_loopF [(4, 13), (17, 62)] (fun (s : Nat × List (List UInt8) × List UInt8) env H => env 17 = .pure (.int .i64 s.1) ∧ s.1 ≤ l.sights.xs.length ∧ env 7 = .pure (.int .i64 s.2.1.length) ∧
      ((s.1 = 0 ∧ s.2.1 = [] ∧ env 6 = .pure .nils) ∨ (s.2.1.length < s.1 ∧ GrowV strF 1 H (env 6) (s.2.1 ++ List.replicate (s.1 - s.2.1.length) s.2.2) ∧
        Hide (startL l.sights.xs c.xs 0 = (goL s.2.2 (s.1 - s.2.1.length) ((gapsL l.sights.xs c.xs).drop (s.1 - 1))).map (s.2.1 ++ ·)))) ∧ s.2.2.length ≤ 20) (fun s => l.sights.xs.length - s.1) (0, [], []) ?_ ?_ ?_ ?_
  · decide
  · simp
  · simp only [loopFuel]; omega
  rintro ⟨i, done, p⟩ env H ⟨h17, hi, h7, hor, hp20⟩
  simp only at h17 hi h7 hor hp20
  have hfit : i < 9223372036854775807 := by omega
  rcases hor with ⟨hi0, hd, h6⟩ | ⟨hd, hg, hn⟩
  · subst hi0 hd
    have hg : GrowV strF 1 H (env 6) ([] : List (List UInt8)) := by rw [h6]; exact GrowV.nil
    have h0 : 0 < l.sights.xs.length := by omega
    have ha0 : addrV 9 (.pure (l.sights.pv Sight.cells 9)) (.pure (.int .i64 0)) = some (.val (.pure (.ptr l.sights.hot (l.sights.xs[0]).cells 0))) := addrV_sl (n := 0) h0
    clear h6
    (repeat' first | simp [*, initEnv] | (refine wpIf_two (fun _ h => ?_) (fun _ h => ?_) <;> try simp [-Nat.le_zero_eq] at h) | (apply wpE_appendV; (focus (first | assumption | (repeat' first | assumption | with_reducible apply GrowV.setNew | with_reducible apply GrowV.alloc | with_reducible apply GrowV.set | (with_reducible show ¬ Names _ _; simp [*]; done)))); (focus (exact fun _ => rfl)); (focus decide); (focus (intro a; first | rfl | simp)); (focus (simp [maxCells] <;> omega))) | (refine after_intro fun v2 H2 hv2 hnx2 hget2 hnew2 hone2 hcel2 => ?_))
    refine wp_loopF [(13, 13), (53, 61)] (fun (j : Nat) env3 H3 => j = 0 ∧ env3 13 = .pure (.int .i64 0) ∧ H3 = H2) (fun j => 0) 0 ?_ ?_ ?_ ?_
    · decide
    · simp
    · simp only [loopFuel]; omega
    rintro j env3 H3 ⟨rfl, h13, rfl⟩
    (repeat' first | simp [*, initEnv] | (refine wpIf_two (fun _ h => ?_) (fun _ h => ?_) <;> try simp [-Nat.le_zero_eq] at h) | (apply wpE_appendV; (focus (first | assumption | (repeat' first | assumption | with_reducible apply GrowV.setNew | with_reducible apply GrowV.alloc | with_reducible apply GrowV.set | (with_reducible show ¬ Names _ _; simp [*]; done)))); (focus (exact fun _ => rfl)); (focus decide); (focus (intro a; first | rfl | simp)); (focus (simp [maxCells] <;> omega))) | (refine after_intro fun v2 H2 hv2 hnx2 hget2 hnew2 hone2 hcel2 => ?_))
    refine ⟨1, by omega, rfl, by omega, [], rfl, l.sights.xs[0].letters, ⟨.inr ⟨by simp, by simpa using hv2, ⟨?_⟩⟩, hl _ (List.getElem_mem _)⟩⟩
    rw [startL, dif_pos h0]; simp
  obtain ⟨O, hO⟩ : ∃ O, O = done ++ List.replicate (i - done.length) p := ⟨_, rfl⟩
  rw [← hO] at hg
  have hOl : Hide (O.length = i) := ⟨by rw [hO]; simp; omega⟩
  have hOh : Hide (O = done ++ List.replicate (i - done.length) p) := ⟨hO⟩
  clear hO
  have hi0 : 0 < i := by omega
  have ha : ∀ k j, j < i → addrV 1 (env 6) (.pure (.int k (j : Nat))) = some (.val (.box (idOf (env 6)) j)) := fun k j h => by
    have := hg.1.addr (k := k) (i := j) (by have := hOl.h; omega)
    rw [Nat.mul_one] at this; exact this
  have hob := hg.1.objI (by have := hOl.h; omega)
  have hlt := hg.1.ltI (by have := hOl.h; omega)
  have hlt2 : idOf (env 6) < H.nx + 1 := by omega
  have hne1 : ¬ (idOf (env 6) = H.nx) := by omega
  have hlast : ∀ h, O[i - 1]'h = p := fun h => by
    have := hOh.h
    subst this
    rw [List.getElem_append_right (by omega), List.getElem_replicate]
  have hld : loadIn (.cells true (rowOf strF O)) 1 (i - 1) = some [.pure (.str ⟨p.toArray⟩)] := by
    rw [loadIn_row1 (fun _ => rfl) (by have := hOl.h; omega), hlast]; rfl
  have hfr := hg.1.fresh
  have hi1 : i - 1 < i := by omega
  have hi2 : i < l.sights.xs.length → i - 1 < c.xs.length := fun h => by omega
  have hbs : ∀ t, blendS p t = .tup [strP (if agreeR p t = true then mixL p t else []), .bool (agreeR p t)] := fun t => blend_same p t
  have gd' : Hide (∀ h : i < l.sights.xs.length, (gapsL l.sights.xs c.xs).drop (i - 1) = (c.xs[i - 1]'(by omega), l.sights.xs[i].letters) :: (gapsL l.sights.xs c.xs).drop i) := ⟨fun h => by
    have := gapsL_drop (c := c.xs) hc (i := i - 1) (by omega)
    have h9 : i - 1 + 1 = i := by omega
    simp only [h9] at this
    exact this⟩
  have hO2 : O.length ≤ 9 := by have := hOl.h; omega
  obtain ⟨ids, hids⟩ := hg.res (n := 9) (fun _ => rfl)
  clear hlast
  (repeat' first | simp [*, initEnv, strP] | (refine wpIf_two (fun _ h => ?_) (fun _ h => ?_) <;> try simp [-Nat.le_zero_eq] at h) | (apply wpE_appendV; (focus (first | assumption | (repeat' first | assumption | with_reducible apply GrowV.setNew | with_reducible apply GrowV.alloc | with_reducible apply GrowV.set | (with_reducible show ¬ Names _ _; simp [*]; done)))); (focus (exact fun _ => rfl)); (focus decide); (focus (intro a; first | rfl | simp)); (focus (simp [maxCells] <;> omega))) | (refine after_intro fun v2 H2 hv2 hnx2 hget2 hnew2 hone2 hcel2 => ?_))
  · -- a new stone
    have hml : i < l.sights.xs.length := by assumption
    have hk : c.xs[i - 1]'(hi2 hml) = 2 := by assumption
    have hg2 := hv2
    have hnx9 := hv2.1.row (by simp)
    clear hv2 hld hob ha hlt hlt2 hids
    refine wp_loopF [(13, 13), (53, 61)] (fun (j : Nat) env3 H3 => j = 0 ∧ env3 13 = .pure (.int .i64 i) ∧ H3 = H2) (fun j => 0) 0 ?_ ?_ ?_ ?_
    · decide
    · simp
    · simp only [loopFuel]; omega
    rintro j env3 H3 ⟨rfl, h13, rfl⟩
    (repeat' first | simp [*, initEnv] | (refine wpIf_two (fun _ h => ?_) (fun _ h => ?_) <;> try simp [-Nat.le_zero_eq] at h) | (apply wpE_appendV; (focus (first | assumption | (repeat' first | assumption | with_reducible apply GrowV.setNew | with_reducible apply GrowV.alloc | with_reducible apply GrowV.set | (with_reducible show ¬ Names _ _; simp [*]; done)))); (focus (exact fun _ => rfl)); (focus decide); (focus (intro a; first | rfl | simp)); (focus (simp [maxCells] <;> omega))) | (refine after_intro fun v2 H2 hv2 hnx2 hget2 hnew2 hone2 hcel2 => ?_))
    refine ⟨i + 1, by omega, by simp, by omega, O, by rw [hOl.h], l.sights.xs[i].letters, ⟨.inr ⟨by rw [hOl.h]; omega, hg2.cast ?_, ⟨?_⟩⟩, hl _ (List.getElem_mem _)⟩⟩
    · have h8 : i + 1 - O.length = 1 := by rw [hOl.h]; omega
      rw [h8]; rfl
    · have h8 : i + 1 - O.length = 1 := by rw [hOl.h]; omega
      rw [hn.h, gd'.h hml, goL, if_pos hk, h8, Option.map_map]
      simp [Function.comp_def, hOh.h]
  · have hml : i < l.sights.xs.length := by assumption
    have hk : ¬ c.xs[i - 1]'(hi2 hml) = 2 := by assumption
    have hag : agreeR p l.sights.xs[i].letters = true := by assumption
    obtain ⟨id2, hid2, hget2'⟩ := hv2.1.row (by simp)
    have hol := hOl.h
    have hl2 : (O ++ [mixL p l.sights.xs[i].letters]).length = i + 1 := by simp [hol]
    have hmx := agree_len hag
    clear hv2 hld hob ha hlt hlt2 hids
    refine wp_loopF [(13, 13), (53, 61)] (fun (j : Nat) env3 H3 => env3 13 = .pure (.int .i64 j) ∧ done.length ≤ j ∧ j ≤ i ∧ H3.get id2 = .cells true (rowOf strF (done ++ List.replicate (j - done.length) (mixL p l.sights.xs[i].letters) ++ (O ++ [mixL p l.sights.xs[i].letters]).drop j))) (fun j => i - j) done.length ?_ ?_ ?_ ?_
    · decide
    · refine ⟨by simp [*], by omega, by omega, ?_⟩
      rw [hget2']
      congr 2
      have h8 := hOh.h
      simp
      rw [h8]
      simp
    · simp only [loopFuel]; omega
    rintro j env3 H3 ⟨h13, hj0, hj, hg3⟩
    have hfit3 : j < 9223372036854775807 := by omega
    have hXl : (done ++ List.replicate (j - done.length) (mixL p l.sights.xs[i].letters) ++ (O ++ [mixL p l.sights.xs[i].letters]).drop j).length = i + 1 := by
      rw [List.length_append, List.length_append, List.length_replicate, List.length_drop, hl2]; omega
    have hXs : j < i → (done ++ List.replicate (j - done.length) (mixL p l.sights.xs[i].letters) ++ (O ++ [mixL p l.sights.xs[i].letters]).drop j).set j (mixL p l.sights.xs[i].letters) = done ++ List.replicate (j + 1 - done.length) (mixL p l.sights.xs[i].letters) ++ (O ++ [mixL p l.sights.xs[i].letters]).drop (j + 1) := fun h => by
      have h8 : j + 1 - done.length = (j - done.length) + 1 := by omega
      have h7 : (done ++ List.replicate (j - done.length) (mixL p l.sights.xs[i].letters)).length = j := by simp; omega
      rw [List.set_append_right _ _ (by omega), h7, Nat.sub_self, List.drop_eq_getElem_cons (by omega), List.set_cons_zero, h8, List.replicate_succ']
      simp
    have hXe : j = i → done ++ List.replicate (j - done.length) (mixL p l.sights.xs[i].letters) ++ (O ++ [mixL p l.sights.xs[i].letters]).drop j = done ++ List.replicate (i + 1 - done.length) (mixL p l.sights.xs[i].letters) := fun h => by
      subst h
      have h8 : j + 1 - done.length = (j - done.length) + 1 := by omega
      rw [h8, List.replicate_succ', List.drop_left' hol, List.append_assoc]
    have hXs' : Hide _ := ⟨hXs⟩
    have hXe' : Hide _ := ⟨hXe⟩
    clear hXs hXe
    obtain ⟨X, hX⟩ : ∃ X, X = done ++ List.replicate (j - done.length) (mixL p l.sights.xs[i].letters) ++ (O ++ [mixL p l.sights.xs[i].letters]).drop j := ⟨_, rfl⟩
    rw [← hX] at hg3 hXl hXs' hXe'
    clear hX
    have hid3 := nx_of_get hg3
    have hX2 : j < i → j < i + 1 := fun h => by omega
    subst hid2
    (repeat' first | simp [*, initEnv] | (refine wpIf_two (fun _ h => ?_) (fun _ h => ?_) <;> try simp [-Nat.le_zero_eq] at h) | (apply wpE_appendV; (focus (first | assumption | (repeat' first | assumption | with_reducible apply GrowV.setNew | with_reducible apply GrowV.alloc | with_reducible apply GrowV.set | (with_reducible show ¬ Names _ _; simp [*]; done)))); (focus (exact fun _ => rfl)); (focus decide); (focus (intro a; first | rfl | simp)); (focus (simp [maxCells] <;> omega))) | (refine after_intro fun v2 H2 hv2 hnx2 hget2 hnew2 hone2 hcel2 => ?_))
    · exact ⟨j + 1, by omega, by simp, by omega, by omega, by rw [hXs'.h (by assumption), List.append_assoc]⟩
    · have hji : j = i := by omega
      rw [hXe'.h hji] at hg3 hXl
      refine ⟨i + 1, by omega, by simp, by omega, done, rfl, mixL p l.sights.xs[i].letters, ⟨⟨by omega, ⟨.inr ⟨id2, by rw [hXl], hg3⟩, fun e => by rw [e] at hXl; simp at hXl⟩, ⟨?_⟩⟩, by omega⟩⟩
      have h8 : i + 1 - done.length = (i - done.length) + 1 := by omega
      rw [hn.h, gd'.h hml, goL, if_neg hk, if_pos hag, h8]
      simp
  · have hml : i < l.sights.xs.length := by assumption
    have hk : ¬ c.xs[i - 1]'(hi2 hml) = 2 := by assumption
    rw [hP.h, hn.h, gd'.h hml, goL_none hk (by assumption)]
    rfl
  · have he : i = l.sights.xs.length := by omega
    rw [hP.h, hn.h, gapsL_end hc (by omega), goL]
    simp [letPV, hOh.h]
@[simp] theorem d111 (n : Nat) (H : Heap) (l_habit_step : Int) (l_habit_place : Int) (l_habit_sink : Int) (l_sights : Sl Sight) (l_notes : Sl Note) (c : Sl Int) (hc : (fun (l : Life) => c.xs.length + 1 = l.sights.xs.length) (⟨⟨l_habit_step, l_habit_place, l_habit_sink⟩, l_sights, l_notes⟩ : Life)) (h9 : (fun (l : Life) => l.sights.xs.length ≤ 9) (⟨⟨l_habit_step, l_habit_place, l_habit_sink⟩, l_sights, l_notes⟩ : Life)) (hl : (fun (l : Life) => ∀ s ∈ l.sights.xs, s.letters.length ≤ 20) (⟨⟨l_habit_step, l_habit_place, l_habit_sink⟩, l_sights, l_notes⟩ : Life)) : doCall (calleeOf G (n + 4)) H (.pure (.func 111 [])) [.pure (.agg [.int .i64 l_habit_step, .int .i64 l_habit_place, .int .i64 l_habit_sink, (l_sights).pv Sight.cells 9, (l_notes).pv Note.cells 4]), .pure (c.pv intF 1)] = some (.val (.pure ((fun (l : Life) => letPV (lettersS l.sights.xs c.xs)) (⟨⟨l_habit_step, l_habit_place, l_habit_sink⟩, l_sights, l_notes⟩ : Life)))) :=
  call_pureC (ps := [_, _]) (caps := []) sh111 (e111 n (⟨⟨l_habit_step, l_habit_place, l_habit_sink⟩, l_sights, l_notes⟩ : Life) c hc h9 hl)
end Go.Proofs.YtnomliioadjdgaaGreat.Vm

namespace Go.Proofs.YtnomliioadjdgaaGreat.Vm
open Go
set_option linter.unusedSimpArgs false
set_option linter.unusedVariables false
set_option maxHeartbeats 4000000

structure Told where
  boxes : Sl Box
  heights : Sl Span
  letters : Sl (List UInt8)
  deriving Inhabited
@[simp] def Told.cells (s : Told) : List PV := [(s.boxes).pv Box.cells 4, (s.heights).pv Span.cells 2, (s.letters).pv strF 1]
@[simp] theorem Told.eta (s : Told) : (⟨s.boxes, s.heights, s.letters⟩ : Told) = s := rfl
@[simp] theorem putIn_Told {l : List Told} {i : Nat} (x0 : Sl Box) (x1 : Sl Span) (x2 : Sl (List UInt8)) (h : i < l.length) : putIn (.cells true (rowOf Told.cells l)) 3 (i * 3) [.pure ((x0).pv Box.cells 4), .pure ((x1).pv Span.cells 2), .pure ((x2).pv strF 1)] = some (.cells true (rowOf Told.cells (l.set i ⟨x0, x1, x2⟩))) := putIn_rowG (f := Told.cells) (a := ⟨x0, x1, x2⟩) (fun _ => rfl) (fun _ => by first | rfl | simp) (by decide) h

/-! ### Right lives -/
structure Right (l : Life) : Prop where
  habit : habitS l.habit = true
  one : 1 ≤ l.sights.xs.length
  nine : l.sights.xs.length ≤ 9
  notes : l.notes.xs.length ≤ 20
  sight : ∀ s ∈ l.sights.xs, sightR s = true
  years : ∀ i (h : i + 1 < l.sights.xs.length), l.sights.xs[i].year < l.sights.xs[i+1].year
  note : ∀ m ∈ l.notes.xs, noteS m = true
  ids : l.ids.Nodup
theorem allFrom_iff {p : Nat → Bool} {n : Nat} : ∀ k, k ≤ n → (allFrom p n k = true ↔ ∀ i, n - k ≤ i → i < n → p i = true) := by
  intro k
  induction k with
  | zero => intro _; simp only [allFrom, true_iff]; intro i h1 h2; omega
  | succ k ih =>
    intro hk
    simp only [allFrom, Bool.and_eq_true, ih (by omega)]
    constructor
    · rintro ⟨h1, h2⟩ i h3 h4
      by_cases h5 : i = n - (k + 1)
      · rw [h5]; exact h1
      · exact h2 i (by omega) h4
    · intro h
      exact ⟨h _ (Nat.le_refl _) (by omega), fun i h1 h2 => h i (by omega) h2⟩
theorem allL_iff {α : Type} {p : α → Bool} : ∀ {l : List α}, allL p l = true ↔ ∀ a ∈ l, p a = true
  | [] => by simp [allL]
  | a :: l => by simp [allL, allL_iff (l := l)]
theorem right_iff (l : Life) : checkS l = 0 ↔ Right l := by
  unfold checkS
  constructor
  · intro h
    split at h
    · simp at h
    · split at h
      · simp at h
      · split at h
        · simp at h
        · split at h
          · simp at h
          · split at h
            · rename_i h1 h2 h3 h4 h5
              have h3' := (allFrom_iff l.sights.xs.length (Nat.le_refl _)).1 (by simpa using h3)
              refine ⟨by simpa using h1, by omega, by omega, by omega, fun s hs => ?_, fun i hi => ?_, fun m hm => allL_iff.1 (by simpa using h4) m hm, h5⟩
              · obtain ⟨i, hi, rfl⟩ := List.getElem_of_mem hs
                have := h3' i (by omega) hi
                rw [sightsOk_at hi] at this
                simp at this
                exact this.1
              · have := h3' (i + 1) (by omega) hi
                rw [sightsOk_at hi] at this
                simp at this
                exact this.2
            · simp at h
  · intro h
    rw [if_neg (by simp [h.habit]), if_neg (by have := h.one; have := h.nine; have := h.notes; omega), if_neg, if_neg, if_pos h.ids]
    · rw [Bool.not_eq_false, allL_iff]; exact h.note
    · rw [Bool.not_eq_false, allFrom_iff _ (Nat.le_refl _)]
      intro i _ hi
      rw [sightsOk_at hi, h.sight _ (List.getElem_mem hi)]
      cases i with
      | zero => simp
      | succ i => simpa using h.years i hi
theorem Right.sp {l : Life} (h : Right l) {s : Sight} (hs : s ∈ l.sights.xs) : okSp s.box.x ∧ okSp s.box.y ∧ okSp s.height ∧ 0 ≤ s.height.lo ∧ s.height.hi ≤ 100 ∧ s.box.x.lo ≤ s.box.x.hi ∧ s.box.y.lo ≤ s.box.y.hi ∧ s.height.lo ≤ s.height.hi ∧ 0 ≤ s.year ∧ s.year ≤ 4000 ∧ s.letters.length ≤ 8 := by
  have := h.sight s hs
  simp [sightR, properR, validS, heightS, patR] at this
  unfold okSp
  omega
theorem Right.yr {l : Life} (h : Right l) {k : Nat} (hk : k + 1 < l.sights.xs.length) : 0 ≤ l.sights.xs[k+1].year - l.sights.xs[k].year ∧ l.sights.xs[k+1].year - l.sights.xs[k].year ≤ 4000 := by
  have h1 := h.sp (List.getElem_mem (l := l.sights.xs) (n := k) (by omega))
  have h2 := h.sp (List.getElem_mem (l := l.sights.xs) (n := k+1) hk)
  have := h.years k hk
  omega

/-! ### tell -/
def yrS (l : List Sight) (k : Nat) : Int := l[k+1]!.year - l[k]!.year
def onX (l : Life) (c : List Int) (k : Nat) (s : Span) : Span := onD (farD l.habit c[k]!) s
def onH (l : Life) (c : List Int) (k : Nat) (s : Span) : Span := if k + 1 < l.sights.xs.length then upH l.habit c[k]! (yrS l.sights.xs k) s else s
def backH (l : Life) (c : List Int) (k : Nat) (s : Span) : Span := if k + 1 < l.sights.xs.length then downH l.habit c[k]! (yrS l.sights.xs k) s else s
def thX (l : Life) (c : List Int) : Option (List Span) := throughS (onX l c) (onX l c) (l.sights.xs.map (·.box.x))
def thY (l : Life) (c : List Int) : Option (List Span) := throughS (onX l c) (onX l c) (l.sights.xs.map (·.box.y))
def thH (l : Life) (c : List Int) : Option (List Span) := throughS (onH l c) (backH l c) (l.sights.xs.map (·.height))
structure TellR where
  boxes : List Box
  heights : List Span
  letters : List (List UInt8)
def tellS (l : Life) (c : List Int) : Option TellR := if allL (fun m => notedS l.sights.xs m c) l.notes.xs = true then match thX l c, thY l c, thH l c, lettersS l.sights.xs c with
  | some x, some y, some h, some t => some ⟨x.zipWith Box.mk y, h, t⟩
  | _, _, _, _ => none else none
def TellR.told (t : TellR) : Told := ⟨Sl.of t.boxes, Sl.of t.heights, Sl.of t.letters⟩
def tellPV : Option TellR → PV
  | none => .tup [.agg [.nils, .nils, .nils], .bool false]
  | some t => .tup [.agg t.told.cells, .bool true]
theorem throughS_length {on back : Nat → Span → Span} {l m : List Span} (h : throughS on back l = some m) : m.length = l.length := by
  have main : ∀ (l : List Span) (k : Nat) (p : Option Span) (m : List Span), fwdS on k p l = some m → m.length = l.length := by
    intro l
    induction l with
    | nil => intro k p m h; simp [fwdS] at h; subst h; rfl
    | cons s r ih =>
      intro k p m h
      rw [fwdS] at h
      split at h
      · simp at h
      · rw [Option.map_eq_some_iff] at h
        obtain ⟨m', h1, rfl⟩ := h
        simp [ih _ _ _ h1]
  unfold throughS at h
  rw [Option.map_eq_some_iff] at h
  obtain ⟨m', h1, rfl⟩ := h
  rw [bwdS_length, main _ _ _ _ h1]
theorem far_le {h : Habit} {k : Int} (hh : habitS h = true) : 0 ≤ farD h k ∧ farD h k ≤ 1000000 := by
  simp [habitS, inB] at hh
  unfold farD
  split
  · omega
  · split <;> omega
theorem onX_wide {l : Life} (hr : Right l) (c : List Int) (k : Nat) (t : Span) (ht : okSp t) : wideS (onX l c k t) := by
  have := far_le (k := c[k]!) hr.habit
  unfold okSp at ht; unfold wideS onX onD; simp only; omega
theorem onH_wide {l : Life} (hr : Right l) (c : List Int) (k : Nat) (t : Span) (ht : okSp t) : wideS (onH l c k t) ∧ wideS (backH l c k t) := by
  unfold okSp at ht
  unfold onH backH
  by_cases hk : k + 1 < l.sights.xs.length
  · rw [if_pos hk, if_pos hk]
    have h1 := hr.yr hk
    have h2 : yrS l.sights.xs k = l.sights.xs[k+1].year - l.sights.xs[k].year := by rw [yrS, getElem!_pos _ k (by omega), getElem!_pos _ (k+1) hk]
    have := sink_le hr.habit h1
    rw [← h2] at this
    unfold wideS upH downH
    split <;> (simp only; omega)
  · rw [if_neg hk, if_neg hk]
    unfold wideS; omega
theorem boxes_len {l : Life} {c : List Int} {x y : List Span} (hx : thX l c = some x) (hy : thY l c = some y) : x.length = l.sights.xs.length ∧ y.length = l.sights.xs.length := by
  have h1 := throughS_length hx
  have h2 := throughS_length hy
  simp at h1 h2
  exact ⟨h1, h2⟩

theorem thX_call (n : Nat) (H : Heap) (l : Life) (c : Sl Int) (hr : Right l) (hc : c.xs.length + 1 = l.sights.xs.length) (hk : ∀ k ∈ c.xs, 0 ≤ k ∧ k ≤ 2) :
    doCall (calleeOf G (n + 6)) H (.pure (.func 105 [])) [.pure (.agg l.cells), .pure (l.sights.pv Sight.cells 9), .pure (.func 106 []), .pure (.func 103 [.ptr false [c.pv intF 1] 0, .ptr false l.cells 0])] = some (.val (.pure (thrPV (thX l c.xs)))) := by
  refine call_pureC (ps := [_, _, _, _]) (caps := []) (by decide) ?_
  refine through_eq n l _ _ (·.box.x) (onX l c.xs) (onX l c.xs) (fun k => .func 164 [.ptr false [.int .i64 (farD l.habit c.xs[k]!)] 0]) (fun k => .func 164 [.ptr false [.int .i64 (farD l.habit c.xs[k]!)] 0]) (yrS l.sights.xs) hr.one hr.nine (fun s hs => (hr.sp hs).1) (onX_wide hr _) (onX_wide hr _) ?_ ?_ ?_ ?_ ?_ (fun _ => rfl) (fun _ => rfl)
  · intro k h
    have := hr.yr h
    rw [wrap64 (by omega) (by omega), yrS, getElem!_pos _ k (by omega), getElem!_pos _ (k+1) h]
  · intro H s; exact d106 _ H s.id s.year s.box.x.lo s.box.x.hi s.box.y.lo s.box.y.hi s.letters s.height.lo s.height.hi
  · intro H k h
    have h1 := d103 (n + 2) H l.habit.step l.habit.place l.habit.sink l.sights l.notes c k (by omega) (by rw [getElem!_pos c.xs k (by omega)]; exact hk _ (List.getElem_mem _))
    exact h1
  · intro H k s h hs
    exact d164 _ H s.lo s.hi _ _ hs (far_le hr.habit)
  · intro H k s h hs
    exact d164 _ H s.lo s.hi _ _ hs (far_le hr.habit)
theorem thY_call (n : Nat) (H : Heap) (l : Life) (c : Sl Int) (hr : Right l) (hc : c.xs.length + 1 = l.sights.xs.length) (hk : ∀ k ∈ c.xs, 0 ≤ k ∧ k ≤ 2) :
    doCall (calleeOf G (n + 6)) H (.pure (.func 105 [])) [.pure (.agg l.cells), .pure (l.sights.pv Sight.cells 9), .pure (.func 107 []), .pure (.func 103 [.ptr false [c.pv intF 1] 0, .ptr false l.cells 0])] = some (.val (.pure (thrPV (thY l c.xs)))) := by
  refine call_pureC (ps := [_, _, _, _]) (caps := []) (by decide) ?_
  refine through_eq n l _ _ (·.box.y) (onX l c.xs) (onX l c.xs) (fun k => .func 164 [.ptr false [.int .i64 (farD l.habit c.xs[k]!)] 0]) (fun k => .func 164 [.ptr false [.int .i64 (farD l.habit c.xs[k]!)] 0]) (yrS l.sights.xs) hr.one hr.nine (fun s hs => (hr.sp hs).2.1) (onX_wide hr _) (onX_wide hr _) ?_ ?_ ?_ ?_ ?_ (fun _ => rfl) (fun _ => rfl)
  · intro k h
    have := hr.yr h
    rw [wrap64 (by omega) (by omega), yrS, getElem!_pos _ k (by omega), getElem!_pos _ (k+1) h]
  · intro H s; exact d107 _ H s.id s.year s.box.x.lo s.box.x.hi s.box.y.lo s.box.y.hi s.letters s.height.lo s.height.hi
  · intro H k h
    have h1 := d103 (n + 2) H l.habit.step l.habit.place l.habit.sink l.sights l.notes c k (by omega) (by rw [getElem!_pos c.xs k (by omega)]; exact hk _ (List.getElem_mem _))
    exact h1
  · intro H k s h hs
    exact d164 _ H s.lo s.hi _ _ hs (far_le hr.habit)
  · intro H k s h hs
    exact d164 _ H s.lo s.hi _ _ hs (far_le hr.habit)
theorem thH_call (n : Nat) (H : Heap) (l : Life) (c : Sl Int) (hr : Right l) (hc : c.xs.length + 1 = l.sights.xs.length) :
    doCall (calleeOf G (n + 6)) H (.pure (.func 105 [])) [.pure (.agg l.cells), .pure (l.sights.pv Sight.cells 9), .pure (.func 108 []), .pure (.func 109 [.ptr false l.cells 0, .ptr false [c.pv intF 1] 0])] = some (.val (.pure (thrPV (thH l c.xs)))) := by
  refine call_pureC (ps := [_, _, _, _]) (caps := []) (by decide) ?_
  refine through_eq n l _ _ (·.height) (onH l c.xs) (backH l c.xs) (fun k => upF l.habit c.xs[k]!) (fun k => downF l.habit c.xs[k]!) (yrS l.sights.xs) hr.one hr.nine (fun s hs => (hr.sp hs).2.2.1) (fun k t h => (onH_wide hr _ k t h).1) (fun k t h => (onH_wide hr _ k t h).2) ?_ ?_ ?_ ?_ ?_ (fun _ => upF_cells ..) (fun _ => downF_cells ..)
  · intro k h
    have := hr.yr h
    rw [wrap64 (by omega) (by omega), yrS, getElem!_pos _ k (by omega), getElem!_pos _ (k+1) h]
  · intro H s; exact d108 _ H s.id s.year s.box.x.lo s.box.x.hi s.box.y.lo s.box.y.hi s.letters s.height.lo s.height.hi
  · intro H k h
    have h1 := d109 (n + 3) H l.habit.step l.habit.place l.habit.sink l.sights l.notes c k (by omega)
    exact h1
  · intro H k s h hs
    have h1 := hr.yr h
    have h2 : yrS l.sights.xs k = l.sights.xs[k+1].year - l.sights.xs[k].year := by rw [yrS, getElem!_pos _ k (by omega), getElem!_pos _ (k+1) h]
    rw [← h2] at h1
    simp only [upF, onH, if_pos h]
    by_cases hk0 : c.xs[k]! = 0
    · rw [if_pos hk0, hk0]
      exact d136 _ H s.lo s.hi _ l.habit.step l.habit.place l.habit.sink hs hr.habit h1
    · rw [if_neg hk0]
      have := d135 (n + 4) H s.lo s.hi (yrS l.sights.xs k)
      rw [show upH l.habit c.xs[k]! (yrS l.sights.xs k) s = ⟨0, 100⟩ from by rw [upH, if_neg hk0]]
      exact this
  · intro H k s h hs
    have h1 := hr.yr h
    have h2 : yrS l.sights.xs k = l.sights.xs[k+1].year - l.sights.xs[k].year := by rw [yrS, getElem!_pos _ k (by omega), getElem!_pos _ (k+1) h]
    rw [← h2] at h1
    simp only [downF, backH, if_pos h]
    by_cases hk0 : c.xs[k]! = 0
    · rw [if_pos hk0, hk0]
      exact d137 _ H s.lo s.hi _ l.habit.step l.habit.place l.habit.sink hs hr.habit h1
    · rw [if_neg hk0]
      have := d135 (n + 4) H s.lo s.hi (yrS l.sights.xs k)
      rw [show downH l.habit c.xs[k]! (yrS l.sights.xs k) s = ⟨0, 100⟩ from by rw [downH, if_neg hk0]]
      exact this

theorem sh60 : G.shared 60 = false := by decide
theorem e60 (n : Nat) (l : Life) (c : Sl Int) (hr : Right l) (hc : c.xs.length + 1 = l.sights.xs.length) (hk : ∀ k ∈ c.xs, 0 ≤ k ∧ k ≤ 2) : callP G (n + 7) 60 [.agg l.cells, c.pv intF 1] = some (tellPV (tellS l c.xs)) := by
  refine callP_of (ext_none _) rfl g60 rfl ?_
  have h1 := hr.one
  have h9 := hr.nine
  have h20 := hr.notes
  have hl8 : ∀ s ∈ l.sights.xs, s.letters.length ≤ 20 := fun s hs => by have := hr.sp hs; omega
  have hP : Hide (tellPV (tellS l c.xs) = tellPV (if allL (fun m => notedS l.sights.xs m c.xs) l.notes.xs = true then match thX l c.xs, thY l c.xs, thH l c.xs, lettersS l.sights.xs c.xs with
    | some x, some y, some h, some t => some ⟨x.zipWith Box.mk y, h, t⟩
    | _, _, _, _ => none else none)) := ⟨rfl⟩
  generalize tellPV (tellS l c.xs) = P at *
  have hcx := fun H => thX_call n H l c hr hc hk
  have hcy := fun H => thY_call n H l c hr hc hk
  have hch := fun H => thH_call n H l c hr hc
  have hcl : ∀ H, doCall (calleeOf G (n + 6)) H (.pure (.func 111 [])) [.pure (.agg l.cells), .pure (c.pv intF 1)] = some (.val (.pure (letPV (lettersS l.sights.xs c.xs)))) := fun H => d111 (n + 2) H l.habit.step l.habit.place l.habit.sink l.sights l.notes c hc h9 hl8
  simp only [Life.cells] at hcx hcy hch hcl
  (repeat' first | simp [*, initEnv, c60] | (refine wpIf_two (fun _ h => ?_) (fun _ h => ?_) <;> try simp [-Nat.le_zero_eq] at h) | (apply wpE_appendV; (focus (first | assumption | (repeat' first | assumption | with_reducible apply GrowV.setNew | with_reducible apply GrowV.alloc | with_reducible apply GrowV.set | (with_reducible show ¬ Names _ _; simp [*]; done)))); (focus (exact fun _ => rfl)); (focus decide); (focus (intro a; first | rfl | simp)); (focus (simp [maxCells] <;> omega))) | (refine after_intro fun v2 H2 hv2 hnx2 hget2 hnew2 hone2 hcel2 => ?_))
  refine wp_loopF [(5, 5), (7, 7), (18, 28)] (fun (i : Nat) env H => env 18 = .pure (.int .i64 i) ∧ i ≤ l.notes.xs.length ∧ H.get 0 = .cells true [.pure .nils, .pure .nils, .pure .nils] ∧ Hide (allL (fun m => notedS l.sights.xs m c.xs) l.notes.xs = allL (fun m => notedS l.sights.xs m c.xs) (l.notes.xs.drop i))) (fun i => l.notes.xs.length - i) 0 ?_ ?_ ?_ ?_
  · decide
  · simp
  · simp only [loopFuel]; omega
  rintro i env H ⟨h18, hi, hg0, hn⟩
  have hfit : i < 9223372036854775807 := by omega
  have hnx := nx_of_get hg0
  have hnx0 : ¬ (0 = H.nx) := by omega
  have hnx1 : 0 < H.nx + 1 := by omega
  have hc2 : c.xs.length + 1 ≤ l.sights.xs.length := by omega
  have hl3 : l.sights.xs.length < 1000 := by omega
  have hl4 : c.xs.length < 1000 := by omega
  (repeat' first | simp [*, initEnv] | (refine wpIf_two (fun _ h => ?_) (fun _ h => ?_) <;> try simp [-Nat.le_zero_eq] at h) | (apply wpE_appendV; (focus (first | assumption | (repeat' first | assumption | with_reducible apply GrowV.setNew | with_reducible apply GrowV.alloc | with_reducible apply GrowV.set | (with_reducible show ¬ Names _ _; simp [*]; done)))); (focus (exact fun _ => rfl)); (focus decide); (focus (intro a; first | rfl | simp)); (focus (simp [maxCells] <;> omega))) | (refine after_intro fun v2 H2 hv2 hnx2 hget2 hnew2 hone2 hcel2 => ?_))
  · have hlt : i < l.notes.xs.length := by assumption
    have hf : notedS l.sights.xs l.notes.xs[i] c.xs = true := by assumption
    exact ⟨i + 1, by omega, by simp, by omega, ⟨by rw [hn.h, allL_drop hlt, hf]; rfl⟩⟩
  · -- a note that is not so
    have hlt : i < l.notes.xs.length := by assumption
    have hf : notedS l.sights.xs l.notes.xs[i] c.xs = false := by assumption
    rw [hP.h, hn.h, allL_drop hlt, hf]
    rfl
  have hA : allL (fun m => notedS l.sights.xs m c.xs) l.notes.xs = true := by rw [hn.h, allL_end (by omega)]
  have hP2 : Hide (P = tellPV (match thX l c.xs, thY l c.xs, thH l c.xs, lettersS l.sights.xs c.xs with
    | some x, some y, some h, some t => some ⟨x.zipWith Box.mk y, h, t⟩
    | _, _, _, _ => none)) := ⟨by rw [hP.h, if_pos hA]⟩
  clear hP hn hA
  cases hx : thX l c.xs with
  | none =>
    have : P = .tup [.agg [.nils, .nils, .nils], .bool false] := by rw [hP2.h, hx]; rfl
    (repeat' first | simp [*, initEnv, thrPV] | (refine wpIf_two (fun _ h => ?_) (fun _ h => ?_) <;> try simp [-Nat.le_zero_eq] at h) | (apply wpE_appendV; (focus (first | assumption | (repeat' first | assumption | with_reducible apply GrowV.setNew | with_reducible apply GrowV.alloc | with_reducible apply GrowV.set | (with_reducible show ¬ Names _ _; simp [*]; done)))); (focus (exact fun _ => rfl)); (focus decide); (focus (intro a; first | rfl | simp)); (focus (simp [maxCells] <;> omega))) | (refine after_intro fun v2 H2 hv2 hnx2 hget2 hnew2 hone2 hcel2 => ?_))
  | some x =>
    cases hy : thY l c.xs with
    | none =>
      have : P = .tup [.agg [.nils, .nils, .nils], .bool false] := by rw [hP2.h, hx, hy]; rfl
      (repeat' first | simp [*, initEnv, thrPV] | (refine wpIf_two (fun _ h => ?_) (fun _ h => ?_) <;> try simp [-Nat.le_zero_eq] at h) | (apply wpE_appendV; (focus (first | assumption | (repeat' first | assumption | with_reducible apply GrowV.setNew | with_reducible apply GrowV.alloc | with_reducible apply GrowV.set | (with_reducible show ¬ Names _ _; simp [*]; done)))); (focus (exact fun _ => rfl)); (focus decide); (focus (intro a; first | rfl | simp)); (focus (simp [maxCells] <;> omega))) | (refine after_intro fun v2 H2 hv2 hnx2 hget2 hnew2 hone2 hcel2 => ?_))
    | some y =>
      cases hh : thH l c.xs with
      | none =>
        have : P = .tup [.agg [.nils, .nils, .nils], .bool false] := by rw [hP2.h, hx, hy, hh]; rfl
        (repeat' first | simp [*, initEnv, thrPV] | (refine wpIf_two (fun _ h => ?_) (fun _ h => ?_) <;> try simp [-Nat.le_zero_eq] at h) | (apply wpE_appendV; (focus (first | assumption | (repeat' first | assumption | with_reducible apply GrowV.setNew | with_reducible apply GrowV.alloc | with_reducible apply GrowV.set | (with_reducible show ¬ Names _ _; simp [*]; done)))); (focus (exact fun _ => rfl)); (focus decide); (focus (intro a; first | rfl | simp)); (focus (simp [maxCells] <;> omega))) | (refine after_intro fun v2 H2 hv2 hnx2 hget2 hnew2 hone2 hcel2 => ?_))
      | some hs =>
        cases ht : lettersS l.sights.xs c.xs with
        | none =>
          have : P = .tup [.agg [.nils, .nils, .nils], .bool false] := by rw [hP2.h, hx, hy, hh, ht]; rfl
          (repeat' first | simp [*, initEnv, thrPV, letPV] | (refine wpIf_two (fun _ h => ?_) (fun _ h => ?_) <;> try simp [-Nat.le_zero_eq] at h) | (apply wpE_appendV; (focus (first | assumption | (repeat' first | assumption | with_reducible apply GrowV.setNew | with_reducible apply GrowV.alloc | with_reducible apply GrowV.set | (with_reducible show ¬ Names _ _; simp [*]; done)))); (focus (exact fun _ => rfl)); (focus decide); (focus (intro a; first | rfl | simp)); (focus (simp [maxCells] <;> omega))) | (refine after_intro fun v2 H2 hv2 hnx2 hget2 hnew2 hone2 hcel2 => ?_))
        | some t =>
          have hP3 : Hide (P = tellPV (some ⟨x.zipWith Box.mk y, hs, t⟩)) := ⟨by rw [hP2.h, hx, hy, hh, ht]⟩
          obtain ⟨hxl, hyl⟩ := boxes_len hx hy
          have hhl : hs.length = l.sights.xs.length := by have := throughS_length hh; simpa using this
          (repeat' first | simp [*, initEnv, thrPV, letPV] | (refine wpIf_two (fun _ h => ?_) (fun _ h => ?_) <;> try simp [-Nat.le_zero_eq] at h) | (apply wpE_appendV; (focus (first | assumption | (repeat' first | assumption | with_reducible apply GrowV.setNew | with_reducible apply GrowV.alloc | with_reducible apply GrowV.set | (with_reducible show ¬ Names _ _; simp [*]; done)))); (focus (exact fun _ => rfl)); (focus decide); (focus (intro a; first | rfl | simp)); (focus (simp [maxCells] <;> omega))) | (refine after_intro fun v2 H2 hv2 hnx2 hget2 hnew2 hone2 hcel2 => ?_))
          have hzl : (x.zipWith Box.mk y).length = l.sights.xs.length := by simp [hxl, hyl]
          refine wp_loopF [(14, 14), (76, 102)] (fun (s : Nat × AV × AV) env2 H2 => env2 76 = .pure (.int .i64 s.1) ∧ s.1 ≤ l.sights.xs.length ∧ H2.get 0 = .cells true [.pure .nils, .pure .nils, .pure .nils] ∧
            H2.get H.nx = .cells true [s.2.1, s.2.2, .pure ((Sl.of t).pv strF 1)] ∧ GrowV Box.cells 4 H2 s.2.1 ((x.zipWith Box.mk y).take s.1) ∧ GrowV Span.cells 2 H2 s.2.2 (hs.take s.1) ∧
            (∀ id, Names s.2.2 id → ¬ Names s.2.1 id) ∧ ¬ Names s.2.1 0 ∧ ¬ Names s.2.2 0 ∧ ¬ Names s.2.1 H.nx ∧ ¬ Names s.2.2 H.nx) (fun s => l.sights.xs.length - s.1) (0, .pure .nils, .pure .nils) ?_ ?_ ?_ ?_
          · decide
          · have hno : ∀ id, ¬ Names (.pure .nils) id := fun id ⟨_, _, _, h⟩ => by simp at h
            simp [*, GrowV.nil]
          · simp only [loopFuel]; omega
          rintro ⟨j, va, vb⟩ env2 H2 ⟨h76, hj, hg02, hgB, hva, hvb, hdis, hna0, hnb0, hnaB, hnbB⟩
          simp only at h76 hj hgB hva hvb hdis hna0 hnb0 hnaB hnbB
          have hfit2 : j < 9223372036854775807 := by omega
          have hB2 := nx_of_get hgB
          have h02 := nx_of_get hg02
          have hB3 : ¬ (H.nx = H2.nx) := by omega
          have h03 : ¬ (0 = H2.nx) := by omega
          have hB4 : H.nx < H2.nx + 1 := by omega
          have h04 : 0 < H2.nx + 1 := by omega
          have hfa := hva.1.fresh
          have hfb := hvb.1.fresh
          have hjx : j < l.sights.xs.length → j < x.length := fun h => by omega
          have hjy : j < l.sights.xs.length → j < y.length := fun h => by omega
          have hjh : j < l.sights.xs.length → j < hs.length := fun h => by omega
          have hon1 := hva.1.one
          have hon2 := hvb.1.one
          clear hcx hcy hch hcl hx hy hh ht hP2
          (repeat' first | simp [*, initEnv] | (refine wpIf_two (fun _ h => ?_) (fun _ h => ?_) <;> try simp [-Nat.le_zero_eq] at h) | (apply wpE_appendV; (focus (first | assumption | (repeat' first | assumption | with_reducible apply GrowV.setNew | with_reducible apply GrowV.alloc | with_reducible apply GrowV.set | (with_reducible show ¬ Names _ _; simp [*]; done)))); (focus (exact fun _ => rfl)); (focus decide); (focus (intro a; first | rfl | simp)); (focus (simp [maxCells] <;> omega))) | (refine after_intro fun v2 H2 hv2 hnx2 hget2 hnew2 hone2 hcel2 => ?_))
          · have hlt : j < l.sights.xs.length := by assumption
            have hB5 : H.nx < H2.nx := by simp at hnx2; omega
            have h05 : 0 < H2.nx := by omega
            obtain ⟨hvb3, hdis3⟩ := After.grow ⟨hnx2, hget2, hnew2⟩ (hvb.alloc _) hdis
            have hv3 := hv2
            have hnB3 : ¬ Names v2 H.nx := fun h => by have := hnew2 _ h; simp at this <;> omega
            have hn03 : ¬ Names v2 0 := fun h => by have := hnew2 _ h; simp at this <;> omega
            have hg03 : H2.get 0 = .cells true [.pure .nils, .pure .nils, .pure .nils] := by
              rw [hget2 0 (by simp <;> omega) hna0, get_alloc_lt h02]; exact hg02
            have hfb3 := hvb3.1.fresh
            have hfv3 := hv3.1.fresh
            have hB6 : ¬ (H.nx = H2.nx) := by omega
            have h06 : ¬ (0 = H2.nx) := by omega
            have hB7 : H.nx < H2.nx + 1 := by omega
            have h07 : 0 < H2.nx + 1 := by omega
            have h0B : ¬ (0 = H.nx) := by omega
            clear hv2 hget2 hnew2 hnx2 hone2 hva hvb hdis
            generalize v2 = v3 at *
            generalize H2 = H3 at *
            (repeat' first | simp [*, initEnv] | (refine wpIf_two (fun _ h => ?_) (fun _ h => ?_) <;> try simp [-Nat.le_zero_eq] at h) | (apply wpE_appendV; (focus (first | assumption | (repeat' first | assumption | with_reducible apply GrowV.setNew | with_reducible apply GrowV.alloc | with_reducible apply GrowV.set | (with_reducible show ¬ Names _ _; simp [*]; done)))); (focus (exact fun _ => rfl)); (focus decide); (focus (intro a; first | rfl | simp)); (focus (simp [maxCells] <;> omega))) | (refine after_intro fun v2 H2 hv2 hnx2 hget2 hnew2 hone2 hcel2 => ?_))
            have hgB3 : H2.get H.nx = .cells true [v3, vb, .pure ((Sl.of t).pv strF 1)] := by
              rw [hget2 H.nx (by simp <;> omega) hnbB, get_alloc_lt (by simp <;> omega), get_set_own hB5]
            have hg04 : H2.get 0 = .cells true [.pure .nils, .pure .nils, .pure .nils] := by
              rw [hget2 0 (by simp <;> omega) hnb0, get_alloc_lt (by simp <;> omega), get_set_ne (by omega)]; exact hg03
            obtain ⟨hva4, hdis4⟩ := After.grow ⟨hnx2, hget2, hnew2⟩ ((hv3.set hnB3 _).alloc _) (fun id h h' => hdis3 id h' h)
            have hnB4 : ¬ Names v2 H.nx := fun h => by have := hnew2 _ h; simp at this <;> omega
            have hn04 : ¬ Names v2 0 := fun h => by have := hnew2 _ h; simp at this <;> omega
            have hB8 : H.nx < H2.nx := nx_of_get hgB3
            have e1 : (H2.set H.nx (.cells true [v3, v2, .pure ((Sl.of t).pv strF 1)])).get 0 = .cells true [.pure .nils, .pure .nils, .pure .nils] := by rw [get_set_ne (by omega)]; exact hg04
            refine ⟨j + 1, by omega, by simp, by omega, v3, v2, ?_⟩
            refine ⟨get_set_own hB8, (hva4.set hnB3 _).cast ?_, (hv2.set hnB4 _).cast ?_, fun id h h' => hdis4 id h' h, hn03, hn04, hnB3, hnB4⟩
            · rw [← take_succ' (by omega)]; simp
            · first | rfl | rw [take_succ']
          · have hje : j = l.sights.xs.length := by omega
            subst hje
            rw [List.take_of_length_le (by omega)] at hva hvb
            have fa : FrzK (H2.set 0 (.cells true [va, vb, .pure ((Sl.of t).pv strF 1)])) false 11 (aggV [va, vb, .pure ((Sl.of t).pv strF 1)]) (.agg [(Sl.of (x.zipWith Box.mk y)).pv Box.cells 4, (Sl.of hs).pv Span.cells 2, (Sl.of t).pv strF 1]) :=
              FrzK.aggV (.cons ((hva.set hna0 _).res (fun _ => rfl)) (.cons ((hvb.set hnb0 _).res (fun _ => rfl)) (.cons (.pure _) .nil)))
            obtain ⟨ids, hids⟩ := fa
            have hP4 : P = .tup [.agg [(Sl.of (x.zipWith Box.mk y)).pv Box.cells 4, (Sl.of hs).pv Span.cells 2, (Sl.of t).pv strF 1], .bool true] := hP3.h
            (repeat' first | simp [*, initEnv] | (refine wpIf_two (fun _ h => ?_) (fun _ h => ?_) <;> try simp [-Nat.le_zero_eq] at h) | (apply wpE_appendV; (focus (first | assumption | (repeat' first | assumption | with_reducible apply GrowV.setNew | with_reducible apply GrowV.alloc | with_reducible apply GrowV.set | (with_reducible show ¬ Names _ _; simp [*]; done)))); (focus (exact fun _ => rfl)); (focus decide); (focus (intro a; first | rfl | simp)); (focus (simp [maxCells] <;> omega))) | (refine after_intro fun v2 H2 hv2 hnx2 hget2 hnew2 hone2 hcel2 => ?_))
@[simp] theorem d60 (n : Nat) (H : Heap) (l_habit_step : Int) (l_habit_place : Int) (l_habit_sink : Int) (l_sights : Sl Sight) (l_notes : Sl Note) (c : Sl Int) (hr : (fun (l : Life) => Right l) (⟨⟨l_habit_step, l_habit_place, l_habit_sink⟩, l_sights, l_notes⟩ : Life)) (hc : (fun (l : Life) => c.xs.length + 1 = l.sights.xs.length) (⟨⟨l_habit_step, l_habit_place, l_habit_sink⟩, l_sights, l_notes⟩ : Life)) (hk : ∀ k ∈ c.xs, 0 ≤ k ∧ k ≤ 2) : doCall (calleeOf G (n + 7)) H (.pure (.func 60 [])) [.pure (.agg [.int .i64 l_habit_step, .int .i64 l_habit_place, .int .i64 l_habit_sink, (l_sights).pv Sight.cells 9, (l_notes).pv Note.cells 4]), .pure (c.pv intF 1)] = some (.val (.pure ((fun (l : Life) => tellPV (tellS l c.xs)) (⟨⟨l_habit_step, l_habit_place, l_habit_sink⟩, l_sights, l_notes⟩ : Life)))) :=
  call_pureC (ps := [_, _]) (caps := []) sh60 (e60 n (⟨⟨l_habit_step, l_habit_place, l_habit_sink⟩, l_sights, l_notes⟩ : Life) c hr hc hk)

/-! ### What asks tell -/
def shortS (l : Life) : Prop := l.sights.xs.length ≤ 9 → l.notes.xs.length ≤ 20 → ∀ s ∈ l.sights.xs, s.letters.length ≤ 20
def givenS (l : Life) (c : List Int) : Int := if checkS l = 0 then (if kindsS l c = true then 0 else 50) else checkS l
theorem given_zero {l : Life} {c : List Int} (h : givenS l c = 0) : Right l ∧ c.length + 1 = l.sights.xs.length ∧ ∀ k ∈ c, 0 ≤ k ∧ k ≤ 2 := by
  unfold givenS at h
  split at h
  · rename_i hc
    have hr := (right_iff l).1 hc
    split at h
    · rename_i hk
      simp [kindsS] at hk
      refine ⟨hr, by have := hr.one; omega, fun k hm => ?_⟩
      have := hk.2 k hm
      simp [gapB] at this
      exact this
    · simp at h
  · rename_i hc; exact absurd h hc
theorem sh50 : G.shared 50 = false := by decide
theorem e50 (n : Nat) (l : Life) (c : Sl Int) (hs : shortS l) (hc : c.xs.length < 1000) : callP G (n + 6) 50 [.agg l.cells, c.pv intF 1] = some (.int .i64 (givenS l c.xs)) := by
  refine callP_of (ext_none _) rfl g50 rfl ?_
  have hl : checkS l = 0 → l.sights.xs.length < 1000 := fun h => by have := ((right_iff l).1 h).nine; omega
  have hcc : ∀ H, doCall (calleeOf G (n + 5)) H (.pure (.func 41 [])) [.pure (.agg l.cells)] = some (.val (.pure (.int .i64 (checkS l)))) := fun H => d41 n H l.habit.step l.habit.place l.habit.sink l.sights l.notes hs
  simp only [Life.cells] at hcc
  have hP : Hide (givenS l c.xs = if checkS l = 0 then (if kindsS l c.xs = true then 0 else 50) else checkS l) := ⟨rfl⟩
  generalize givenS l c.xs = P at *
  (repeat' first | simp [*, initEnv, c50] | (refine wpIf_two (fun _ h => ?_) (fun _ h => ?_) <;> try simp [-Nat.le_zero_eq] at h))
  all_goals (rw [hP.h]; simp [*])
@[simp] theorem d50 (n : Nat) (H : Heap) (l_habit_step : Int) (l_habit_place : Int) (l_habit_sink : Int) (l_sights : Sl Sight) (l_notes : Sl Note) (c : Sl Int) (hs : (fun (l : Life) => shortS l) (⟨⟨l_habit_step, l_habit_place, l_habit_sink⟩, l_sights, l_notes⟩ : Life)) (hc : c.xs.length < 1000) : doCall (calleeOf G (n + 6)) H (.pure (.func 50 [])) [.pure (.agg [.int .i64 l_habit_step, .int .i64 l_habit_place, .int .i64 l_habit_sink, (l_sights).pv Sight.cells 9, (l_notes).pv Note.cells 4]), .pure (c.pv intF 1)] = some (.val (.pure ((fun (l : Life) => .int .i64 (givenS l c.xs)) (⟨⟨l_habit_step, l_habit_place, l_habit_sink⟩, l_sights, l_notes⟩ : Life)))) :=
  call_pureC (ps := [_, _]) (caps := []) sh50 (e50 n (⟨⟨l_habit_step, l_habit_place, l_habit_sink⟩, l_sights, l_notes⟩ : Life) c hs hc)
def tellEPV (l : Life) (c : List Int) : PV := if givenS l c = 0 then (match tellS l c with
  | some t => .tup [.agg t.told.cells, .int .i64 0]
  | none => .tup [.agg [.nils, .nils, .nils], .int .i64 9]) else .tup [.agg [.nils, .nils, .nils], .int .i64 (givenS l c)]
theorem sh61 : G.shared 61 = false := by decide
theorem e61 (n : Nat) (l : Life) (c : Sl Int) (hs : shortS l) (hc : c.xs.length < 1000) : callP G (n + 8) 61 [.agg l.cells, c.pv intF 1] = some (tellEPV l c.xs) := by
  refine callP_of (ext_none _) rfl g61 rfl ?_
  have hP : Hide (tellEPV l c.xs = if givenS l c.xs = 0 then (match tellS l c.xs with
    | some t => .tup [.agg t.told.cells, .int .i64 0]
    | none => .tup [.agg [.nils, .nils, .nils], .int .i64 9]) else .tup [.agg [.nils, .nils, .nils], .int .i64 (givenS l c.xs)]) := ⟨rfl⟩
  generalize tellEPV l c.xs = P at *
  by_cases hg : givenS l c.xs = 0
  · obtain ⟨hr, h1, h2⟩ := given_zero hg
    have hct : ∀ H, doCall (calleeOf G (n + 7)) H (.pure (.func 60 [])) [.pure (.agg l.cells), .pure (c.pv intF 1)] = some (.val (.pure (tellPV (tellS l c.xs)))) := fun H => d60 n H l.habit.step l.habit.place l.habit.sink l.sights l.notes c hr h1 h2
    simp only [Life.cells] at hct
    cases ht : tellS l c.xs with
    | none =>
      have hP2 : P = .tup [.agg [.nils, .nils, .nils], .int .i64 9] := by rw [hP.h, if_pos hg, ht]
      (repeat' first | simp [*, initEnv, c61, tellPV] | (refine wpIf_two (fun _ h => ?_) (fun _ h => ?_) <;> try simp [-Nat.le_zero_eq] at h))
    | some t =>
      have hP2 : P = .tup [.agg t.told.cells, .int .i64 0] := by rw [hP.h, if_pos hg, ht]
      (repeat' first | simp [*, initEnv, c61, tellPV] | (refine wpIf_two (fun _ h => ?_) (fun _ h => ?_) <;> try simp [-Nat.le_zero_eq] at h))
  · have hP2 : P = .tup [.agg [.nils, .nils, .nils], .int .i64 (givenS l c.xs)] := by rw [hP.h, if_neg hg]
    (repeat' first | simp [*, initEnv, c61] | (refine wpIf_two (fun _ h => ?_) (fun _ h => ?_) <;> try simp [-Nat.le_zero_eq] at h))
@[simp] theorem d61 (n : Nat) (H : Heap) (l_habit_step : Int) (l_habit_place : Int) (l_habit_sink : Int) (l_sights : Sl Sight) (l_notes : Sl Note) (c : Sl Int) (hs : (fun (l : Life) => shortS l) (⟨⟨l_habit_step, l_habit_place, l_habit_sink⟩, l_sights, l_notes⟩ : Life)) (hc : c.xs.length < 1000) : doCall (calleeOf G (n + 8)) H (.pure (.func 61 [])) [.pure (.agg [.int .i64 l_habit_step, .int .i64 l_habit_place, .int .i64 l_habit_sink, (l_sights).pv Sight.cells 9, (l_notes).pv Note.cells 4]), .pure (c.pv intF 1)] = some (.val (.pure ((fun (l : Life) => tellEPV l c.xs) (⟨⟨l_habit_step, l_habit_place, l_habit_sink⟩, l_sights, l_notes⟩ : Life)))) :=
  call_pureC (ps := [_, _]) (caps := []) sh61 (e61 n (⟨⟨l_habit_step, l_habit_place, l_habit_sink⟩, l_sights, l_notes⟩ : Life) c hs hc)
theorem sh22 : G.shared 22 = false := by decide
theorem e22 (n : Nat) (l : Life) (c : Sl Int) (hs : shortS l) (hc : c.xs.length < 1000) : callP G (n + 8) 22 [.agg l.cells, c.pv intF 1] = some ((if givenS l c.xs = 0 then .tup [.bool (tellS l c.xs).isSome, .int .i64 0] else .tup [.bool false, .int .i64 (givenS l c.xs)])) := by
  refine callP_of (ext_none _) rfl g22 rfl ?_
  by_cases hg : givenS l c.xs = 0
  · obtain ⟨hr, h1, h2⟩ := given_zero hg
    have hct : ∀ H, doCall (calleeOf G (n + 7)) H (.pure (.func 60 [])) [.pure (.agg l.cells), .pure (c.pv intF 1)] = some (.val (.pure (tellPV (tellS l c.xs)))) := fun H => d60 n H l.habit.step l.habit.place l.habit.sink l.sights l.notes c hr h1 h2
    simp only [Life.cells] at hct
    cases ht : tellS l c.xs with
    | none => (repeat' first | simp [*, initEnv, c22, tellPV] | (refine wpIf_two (fun _ h => ?_) (fun _ h => ?_) <;> try simp [-Nat.le_zero_eq] at h))
    | some t => (repeat' first | simp [*, initEnv, c22, tellPV] | (refine wpIf_two (fun _ h => ?_) (fun _ h => ?_) <;> try simp [-Nat.le_zero_eq] at h))
  · (repeat' first | simp [*, initEnv, c22] | (refine wpIf_two (fun _ h => ?_) (fun _ h => ?_) <;> try simp [-Nat.le_zero_eq] at h))
@[simp] theorem d22 (n : Nat) (H : Heap) (l_habit_step : Int) (l_habit_place : Int) (l_habit_sink : Int) (l_sights : Sl Sight) (l_notes : Sl Note) (c : Sl Int) (hs : (fun (l : Life) => shortS l) (⟨⟨l_habit_step, l_habit_place, l_habit_sink⟩, l_sights, l_notes⟩ : Life)) (hc : c.xs.length < 1000) : doCall (calleeOf G (n + 8)) H (.pure (.func 22 [])) [.pure (.agg [.int .i64 l_habit_step, .int .i64 l_habit_place, .int .i64 l_habit_sink, (l_sights).pv Sight.cells 9, (l_notes).pv Note.cells 4]), .pure (c.pv intF 1)] = some (.val (.pure ((fun (l : Life) => (if givenS l c.xs = 0 then .tup [.bool (tellS l c.xs).isSome, .int .i64 0] else .tup [.bool false, .int .i64 (givenS l c.xs)])) (⟨⟨l_habit_step, l_habit_place, l_habit_sink⟩, l_sights, l_notes⟩ : Life)))) :=
  call_pureC (ps := [_, _]) (caps := []) sh22 (e22 n (⟨⟨l_habit_step, l_habit_place, l_habit_sink⟩, l_sights, l_notes⟩ : Life) c hs hc)
def fieldE (g : TellR → PV) (l : Life) (c : List Int) : PV := if givenS l c = 0 then (match tellS l c with
  | some t => .tup [g t, .int .i64 0]
  | none => .tup [.nils, .int .i64 9]) else .tup [.nils, .int .i64 (givenS l c)]
theorem sh23 : G.shared 23 = false := by decide
theorem e23 (n : Nat) (l : Life) (c : Sl Int) (hs : shortS l) (hc : c.xs.length < 1000) : callP G (n + 9) 23 [.agg l.cells, c.pv intF 1] = some (fieldE (fun t => (Sl.of t.boxes).pv Box.cells 4) l c.xs) := by
  refine callP_of (ext_none _) rfl g23 rfl ?_
  by_cases hg : givenS l c.xs = 0
  · cases ht : tellS l c.xs with
    | none => (repeat' first | simp [*, initEnv, c23, tellEPV, fieldE] | (refine wpIf_two (fun _ h => ?_) (fun _ h => ?_) <;> try simp [-Nat.le_zero_eq] at h))
    | some t => (repeat' first | simp [*, initEnv, c23, tellEPV, fieldE, TellR.told] | (refine wpIf_two (fun _ h => ?_) (fun _ h => ?_) <;> try simp [-Nat.le_zero_eq] at h))
  · (repeat' first | simp [*, initEnv, c23, tellEPV, fieldE] | (refine wpIf_two (fun _ h => ?_) (fun _ h => ?_) <;> try simp [-Nat.le_zero_eq] at h))
@[simp] theorem d23 (n : Nat) (H : Heap) (l_habit_step : Int) (l_habit_place : Int) (l_habit_sink : Int) (l_sights : Sl Sight) (l_notes : Sl Note) (c : Sl Int) (hs : (fun (l : Life) => shortS l) (⟨⟨l_habit_step, l_habit_place, l_habit_sink⟩, l_sights, l_notes⟩ : Life)) (hc : c.xs.length < 1000) : doCall (calleeOf G (n + 9)) H (.pure (.func 23 [])) [.pure (.agg [.int .i64 l_habit_step, .int .i64 l_habit_place, .int .i64 l_habit_sink, (l_sights).pv Sight.cells 9, (l_notes).pv Note.cells 4]), .pure (c.pv intF 1)] = some (.val (.pure ((fun (l : Life) => fieldE (fun t => (Sl.of t.boxes).pv Box.cells 4) l c.xs) (⟨⟨l_habit_step, l_habit_place, l_habit_sink⟩, l_sights, l_notes⟩ : Life)))) :=
  call_pureC (ps := [_, _]) (caps := []) sh23 (e23 n (⟨⟨l_habit_step, l_habit_place, l_habit_sink⟩, l_sights, l_notes⟩ : Life) c hs hc)
theorem sh24 : G.shared 24 = false := by decide
theorem e24 (n : Nat) (l : Life) (c : Sl Int) (hs : shortS l) (hc : c.xs.length < 1000) : callP G (n + 9) 24 [.agg l.cells, c.pv intF 1] = some (fieldE (fun t => (Sl.of t.heights).pv Span.cells 2) l c.xs) := by
  refine callP_of (ext_none _) rfl g24 rfl ?_
  by_cases hg : givenS l c.xs = 0
  · cases ht : tellS l c.xs with
    | none => (repeat' first | simp [*, initEnv, c24, tellEPV, fieldE] | (refine wpIf_two (fun _ h => ?_) (fun _ h => ?_) <;> try simp [-Nat.le_zero_eq] at h))
    | some t => (repeat' first | simp [*, initEnv, c24, tellEPV, fieldE, TellR.told] | (refine wpIf_two (fun _ h => ?_) (fun _ h => ?_) <;> try simp [-Nat.le_zero_eq] at h))
  · (repeat' first | simp [*, initEnv, c24, tellEPV, fieldE] | (refine wpIf_two (fun _ h => ?_) (fun _ h => ?_) <;> try simp [-Nat.le_zero_eq] at h))
@[simp] theorem d24 (n : Nat) (H : Heap) (l_habit_step : Int) (l_habit_place : Int) (l_habit_sink : Int) (l_sights : Sl Sight) (l_notes : Sl Note) (c : Sl Int) (hs : (fun (l : Life) => shortS l) (⟨⟨l_habit_step, l_habit_place, l_habit_sink⟩, l_sights, l_notes⟩ : Life)) (hc : c.xs.length < 1000) : doCall (calleeOf G (n + 9)) H (.pure (.func 24 [])) [.pure (.agg [.int .i64 l_habit_step, .int .i64 l_habit_place, .int .i64 l_habit_sink, (l_sights).pv Sight.cells 9, (l_notes).pv Note.cells 4]), .pure (c.pv intF 1)] = some (.val (.pure ((fun (l : Life) => fieldE (fun t => (Sl.of t.heights).pv Span.cells 2) l c.xs) (⟨⟨l_habit_step, l_habit_place, l_habit_sink⟩, l_sights, l_notes⟩ : Life)))) :=
  call_pureC (ps := [_, _]) (caps := []) sh24 (e24 n (⟨⟨l_habit_step, l_habit_place, l_habit_sink⟩, l_sights, l_notes⟩ : Life) c hs hc)
theorem sh25 : G.shared 25 = false := by decide
theorem e25 (n : Nat) (l : Life) (c : Sl Int) (hs : shortS l) (hc : c.xs.length < 1000) : callP G (n + 9) 25 [.agg l.cells, c.pv intF 1] = some (fieldE (fun t => (Sl.of t.letters).pv strF 1) l c.xs) := by
  refine callP_of (ext_none _) rfl g25 rfl ?_
  by_cases hg : givenS l c.xs = 0
  · cases ht : tellS l c.xs with
    | none => (repeat' first | simp [*, initEnv, c25, tellEPV, fieldE] | (refine wpIf_two (fun _ h => ?_) (fun _ h => ?_) <;> try simp [-Nat.le_zero_eq] at h))
    | some t => (repeat' first | simp [*, initEnv, c25, tellEPV, fieldE, TellR.told] | (refine wpIf_two (fun _ h => ?_) (fun _ h => ?_) <;> try simp [-Nat.le_zero_eq] at h))
  · (repeat' first | simp [*, initEnv, c25, tellEPV, fieldE] | (refine wpIf_two (fun _ h => ?_) (fun _ h => ?_) <;> try simp [-Nat.le_zero_eq] at h))
@[simp] theorem d25 (n : Nat) (H : Heap) (l_habit_step : Int) (l_habit_place : Int) (l_habit_sink : Int) (l_sights : Sl Sight) (l_notes : Sl Note) (c : Sl Int) (hs : (fun (l : Life) => shortS l) (⟨⟨l_habit_step, l_habit_place, l_habit_sink⟩, l_sights, l_notes⟩ : Life)) (hc : c.xs.length < 1000) : doCall (calleeOf G (n + 9)) H (.pure (.func 25 [])) [.pure (.agg [.int .i64 l_habit_step, .int .i64 l_habit_place, .int .i64 l_habit_sink, (l_sights).pv Sight.cells 9, (l_notes).pv Note.cells 4]), .pure (c.pv intF 1)] = some (.val (.pure ((fun (l : Life) => fieldE (fun t => (Sl.of t.letters).pv strF 1) l c.xs) (⟨⟨l_habit_step, l_habit_place, l_habit_sink⟩, l_sights, l_notes⟩ : Life)))) :=
  call_pureC (ps := [_, _]) (caps := []) sh25 (e25 n (⟨⟨l_habit_step, l_habit_place, l_habit_sink⟩, l_sights, l_notes⟩ : Life) c hs hc)
end Go.Proofs.YtnomliioadjdgaaGreat.Vm

namespace Go.Proofs.YtnomliioadjdgaaGreat.Vm
open Go
set_option linter.unusedSimpArgs false
set_option linter.unusedVariables false
set_option maxHeartbeats 4000000

/-- A box of three slices that grow, and another box. -/
structure Tri (H : Heap) (B K : Nat) (va vb vc : AV) (x y h : List Span) : Prop where
  box : H.get B = .cells true [va, vb, vc]
  other : H.get K = .cells true [.pure .nils, .pure .nils, .pure .nils]
  ga : GrowV Span.cells 2 H va x
  gb : GrowV Span.cells 2 H vb y
  gc : GrowV Span.cells 2 H vc h
  ab : ∀ id, Names va id → ¬ Names vb id
  ac : ∀ id, Names va id → ¬ Names vc id
  bc : ∀ id, Names vb id → ¬ Names vc id
  aB : ¬ Names va B ∧ ¬ Names va K
  bB : ¬ Names vb B ∧ ¬ Names vb K
  cB : ¬ Names vc B ∧ ¬ Names vc K
  ne : K ≠ B
section
variable {H H2 : Heap} {B K : Nat} {va vb vc v2 : AV} {x y h : List Span} {o : AObj} {s : Span}
theorem Tri.pushA (t : Tri H B K va vb vc x y h) (hv : GrowV Span.cells 2 H2 v2 (x ++ [s])) (ha : After va (H.alloc o) v2 H2) : Tri (H2.set B (.cells true [v2, vb, vc])) B K v2 vb vc (x ++ [s]) y h ∧ H2.get B = .cells true [va, vb, vc] := by
  have hB := nx_of_get t.box
  have hK := nx_of_get t.other
  obtain ⟨gb, db⟩ := ha.grow (t.gb.alloc _) (fun id h h' => t.ab id h' h)
  obtain ⟨gc, dc⟩ := ha.grow (t.gc.alloc _) (fun id h h' => t.ac id h' h)
  have n1 : ¬ Names v2 B := fun h => by have := ha.new _ h; simp at this; omega
  have n2 : ¬ Names v2 K := fun h => by have := ha.new _ h; simp at this; omega
  have hB2 : H2.get B = .cells true [va, vb, vc] := by rw [ha.get B (by simp; omega) t.aB.1, get_alloc_lt hB]; exact t.box
  have hK2 : H2.get K = .cells true [.pure .nils, .pure .nils, .pure .nils] := by rw [ha.get K (by simp; omega) t.aB.2, get_alloc_lt hK]; exact t.other
  exact ⟨⟨get_set_own (nx_of_get hB2), by rw [get_set_ne t.ne]; exact hK2, hv.set n1 _, gb.set t.bB.1 _, gc.set t.cB.1 _, fun id h h' => db id h' h, fun id h h' => dc id h' h, t.bc, ⟨n1, n2⟩, t.bB, t.cB, t.ne⟩, hB2⟩
theorem Tri.pushB (t : Tri H B K va vb vc x y h) (hv : GrowV Span.cells 2 H2 v2 (y ++ [s])) (ha : After vb (H.alloc o) v2 H2) : Tri (H2.set B (.cells true [va, v2, vc])) B K va v2 vc x (y ++ [s]) h ∧ H2.get B = .cells true [va, vb, vc] := by
  have hB := nx_of_get t.box
  have hK := nx_of_get t.other
  obtain ⟨ga, da⟩ := ha.grow (t.ga.alloc _) (fun id h h' => t.ab id h h')
  obtain ⟨gc, dc⟩ := ha.grow (t.gc.alloc _) (fun id h h' => t.bc id h' h)
  have n1 : ¬ Names v2 B := fun h => by have := ha.new _ h; simp at this; omega
  have n2 : ¬ Names v2 K := fun h => by have := ha.new _ h; simp at this; omega
  have hB2 : H2.get B = .cells true [va, vb, vc] := by rw [ha.get B (by simp; omega) t.bB.1, get_alloc_lt hB]; exact t.box
  have hK2 : H2.get K = .cells true [.pure .nils, .pure .nils, .pure .nils] := by rw [ha.get K (by simp; omega) t.bB.2, get_alloc_lt hK]; exact t.other
  exact ⟨⟨get_set_own (nx_of_get hB2), by rw [get_set_ne t.ne]; exact hK2, ga.set t.aB.1 _, hv.set n1 _, gc.set t.cB.1 _, da, t.ac, fun id h h' => dc id h' h, t.aB, ⟨n1, n2⟩, t.cB, t.ne⟩, hB2⟩
theorem Tri.pushC (t : Tri H B K va vb vc x y h) (hv : GrowV Span.cells 2 H2 v2 (h ++ [s])) (ha : After vc (H.alloc o) v2 H2) : Tri (H2.set B (.cells true [va, vb, v2])) B K va vb v2 x y (h ++ [s]) ∧ H2.get B = .cells true [va, vb, vc] := by
  have hB := nx_of_get t.box
  have hK := nx_of_get t.other
  obtain ⟨ga, da⟩ := ha.grow (t.ga.alloc _) (fun id h h' => t.ac id h h')
  obtain ⟨gb, db⟩ := ha.grow (t.gb.alloc _) (fun id h h' => t.bc id h h')
  have n1 : ¬ Names v2 B := fun h => by have := ha.new _ h; simp at this; omega
  have n2 : ¬ Names v2 K := fun h => by have := ha.new _ h; simp at this; omega
  have hB2 : H2.get B = .cells true [va, vb, vc] := by rw [ha.get B (by simp; omega) t.cB.1, get_alloc_lt hB]; exact t.box
  have hK2 : H2.get K = .cells true [.pure .nils, .pure .nils, .pure .nils] := by rw [ha.get K (by simp; omega) t.cB.2, get_alloc_lt hK]; exact t.other
  exact ⟨⟨get_set_own (nx_of_get hB2), by rw [get_set_ne t.ne]; exact hK2, ga.set t.aB.1 _, gb.set t.bB.1 _, hv.set n1 _, t.ab, da, db, t.aB, t.bB, ⟨n1, n2⟩, t.ne⟩, hB2⟩
end

/-! ### Narrowing -/
def sweepAt (on back : Nat → Span → Span) (i : Nat) (cur : List Span) : List Span :=
  (cur.set (i+1) (meetS cur[i+1]! (on i cur[i]!))).set i (meetS cur[i]! (back i (meetS cur[i+1]! (on i cur[i]!))))
def sweepTo (on back : Nat → Span → Span) : Nat → List Span → List Span
  | 0, cur => cur
  | k + 1, cur => sweepAt on back k (sweepTo on back k cur)
def roundsS (on back : Nat → Span → Span) (m : Nat) : Nat → List Span → List Span
  | 0, cur => cur
  | r + 1, cur => sweepTo on back m (roundsS on back m r cur)
theorem sweepAt_length (on back : Nat → Span → Span) (i : Nat) (cur : List Span) : (sweepAt on back i cur).length = cur.length := by simp [sweepAt]
theorem sweepTo_length (on back : Nat → Span → Span) : ∀ (k : Nat) (cur : List Span), (sweepTo on back k cur).length = cur.length
  | 0, _ => rfl
  | k + 1, cur => by rw [sweepTo, sweepAt_length, sweepTo_length on back k]
theorem roundsS_length (on back : Nat → Span → Span) (m : Nat) : ∀ (r : Nat) (cur : List Span), (roundsS on back m r cur).length = cur.length
  | 0, _ => rfl
  | r + 1, cur => by rw [roundsS, sweepTo_length, roundsS_length on back m r]
def okL (l : List Span) : Prop := ∀ s ∈ l, okSp s
theorem okL_sweepAt {on back : Nat → Span → Span} (hw1 : ∀ k t, okSp t → wideS (on k t)) (hw2 : ∀ k t, okSp t → wideS (back k t)) {i : Nat} {cur : List Span} (hi : i + 1 < cur.length) (h : okL cur) : okL (sweepAt on back i cur) := by
  have h1 : okSp cur[i]! := by rw [getElem!_pos cur i (by omega)]; exact h _ (List.getElem_mem _)
  have h2 : okSp cur[i+1]! := by rw [getElem!_pos cur (i+1) hi]; exact h _ (List.getElem_mem _)
  have h3 := okSp_meet h2 (hw1 i _ h1)
  have h4 := okSp_meet h1 (hw2 i _ h3)
  intro s hs
  rcases List.mem_or_eq_of_mem_set hs with hs | rfl
  · rcases List.mem_or_eq_of_mem_set hs with hs | rfl
    · exact h s hs
    · exact h3
  · exact h4
def inH (l : List Span) : Prop := ∀ s ∈ l, 0 ≤ s.lo ∧ s.hi ≤ 100
theorem inH_sweepAt {on back : Nat → Span → Span} {i : Nat} {cur : List Span} (hi : i + 1 < cur.length) (h : inH cur) : inH (sweepAt on back i cur) := by
  have h1 : 0 ≤ cur[i]!.lo ∧ cur[i]!.hi ≤ 100 := by rw [getElem!_pos cur i (by omega)]; exact h _ (List.getElem_mem _)
  have h2 : 0 ≤ cur[i+1]!.lo ∧ cur[i+1]!.hi ≤ 100 := by rw [getElem!_pos cur (i+1) hi]; exact h _ (List.getElem_mem _)
  intro s hs
  rcases List.mem_or_eq_of_mem_set hs with hs | rfl
  · rcases List.mem_or_eq_of_mem_set hs with hs | rfl
    · exact h s hs
    · simp only [meetS]; omega
  · simp only [meetS]; omega
def narX (l : Life) (c : List Int) : List Span := roundsS (onX l c) (onX l c) c.length (2 * l.sights.xs.length) (l.sights.xs.map (·.box.x))
def narY (l : Life) (c : List Int) : List Span := roundsS (onX l c) (onX l c) c.length (2 * l.sights.xs.length) (l.sights.xs.map (·.box.y))
def narH (l : Life) (c : List Int) : List Span := roundsS (onH l c) (backH l c) c.length (2 * l.sights.xs.length) (l.sights.xs.map (·.height))

theorem sweepX_eq {l : Life} {c : List Int} {X : List Span} {i : Nat} (hi : i + 1 < X.length) (hc : i < c.length) : sweepAt (onX l c) (onX l c) i X =
    (X.set (i+1) (meetS X[i+1] (onD (farD l.habit c[i]) X[i]))).set i (meetS X[i] (onD (farD l.habit c[i]) (meetS X[i+1] (onD (farD l.habit c[i]) X[i])))) := by
  simp only [sweepAt, onX, getElem!_pos X i (by omega), getElem!_pos X (i+1) hi, getElem!_pos c i hc]
theorem sweepH_eq {l : Life} {c : List Int} {Z : List Span} {i : Nat} (hi : i + 1 < Z.length) (hl : i + 1 < l.sights.xs.length) (hc : i < c.length) (h0 : c[i] = 0) : sweepAt (onH l c) (backH l c) i Z =
    (Z.set (i+1) ⟨max Z[i+1].lo (Z[i].lo - l.habit.sink * (l.sights.xs[i+1].year - l.sights.xs[i].year)), min Z[i+1].hi Z[i].hi⟩).set i ⟨max Z[i].lo (max Z[i+1].lo (Z[i].lo - l.habit.sink * (l.sights.xs[i+1].year - l.sights.xs[i].year))), min Z[i].hi (min Z[i+1].hi Z[i].hi + l.habit.sink * (l.sights.xs[i+1].year - l.sights.xs[i].year))⟩ := by
  simp only [sweepAt, onH, backH, if_pos hl, getElem!_pos Z i (by omega), getElem!_pos Z (i+1) hi, getElem!_pos c i hc, h0, upH, downH, if_true, meetS, yrS, getElem!_pos l.sights.xs i (by omega), getElem!_pos l.sights.xs (i+1) hl]
theorem sweepH_skip {l : Life} {c : List Int} {Z : List Span} {i : Nat} (hi : i + 1 < Z.length) (hl : i + 1 < l.sights.xs.length) (hc : i < c.length) (h0 : ¬ c[i] = 0) (hz : inH Z) : sweepAt (onH l c) (backH l c) i Z = Z := by
  have h1 := hz _ (List.getElem_mem (l := Z) (n := i) (by omega))
  have h2 := hz _ (List.getElem_mem (l := Z) (n := i+1) hi)
  have e : ∀ s : Span, 0 ≤ s.lo ∧ s.hi ≤ 100 → meetS s ⟨0, 100⟩ = s := fun s h => by
    simp only [meetS]
    rw [Int.max_eq_left h.1, Int.min_eq_left h.2]
  simp only [sweepAt, onH, backH, if_pos hl, getElem!_pos Z i (by omega), getElem!_pos Z (i+1) hi, getElem!_pos c i hc, upH, downH, if_neg h0, e _ h1, e _ h2]
  rw [List.set_getElem_self, List.set_getElem_self]

theorem sh125 : G.shared 125 = false := by decide
theorem e125 (n : Nat) (l : Life) (c : Sl Int) (hr : Right l) (hc : c.xs.length + 1 = l.sights.xs.length) (hk : ∀ k ∈ c.xs, 0 ≤ k ∧ k ≤ 2) : callP G (n + 3) 125 [.agg l.cells, c.pv intF 1] = some (.agg [(Sl.of (narX l c.xs)).pv Span.cells 2, (Sl.of (narY l c.xs)).pv Span.cells 2, (Sl.of (narH l c.xs)).pv Span.cells 2]) := by
  refine callP_of (ext_none _) rfl g125 rfl ?_
  have h1 := hr.one
  have h9 := hr.nine
  have hcl0 : c.xs.length = l.sights.xs.length - 1 := by omega
  clear hc
  obtain ⟨P, hPe⟩ : ∃ P, P = PV.agg [(Sl.of (narX l c.xs)).pv Span.cells 2, (Sl.of (narY l c.xs)).pv Span.cells 2, (Sl.of (narH l c.xs)).pv Span.cells 2] := ⟨_, rfl⟩
  rw [← hPe]
  have hP : Hide _ := ⟨hPe⟩
  have hcl : Hide _ := ⟨hcl0⟩
  clear hPe hcl0
  (repeat' first | simp [*, initEnv, c125] | (refine wpIf_two (fun _ h => ?_) (fun _ h => ?_) <;> try simp [-Nat.le_zero_eq] at h) | (apply wpE_appendV; (focus (first | assumption | (repeat' first | assumption | with_reducible apply GrowV.setNew | with_reducible apply GrowV.alloc | with_reducible apply GrowV.set | (with_reducible show ¬ Names _ _; simp [*]; done)))); (focus (exact fun _ => rfl)); (focus decide); (focus (intro a; first | rfl | simp)); (focus (simp [maxCells] <;> omega))) | (refine after_intro fun v2 H2 hv2 hnx2 hget2 hnew2 hone2 hcel2 => ?_))
  refine wp_loopF [(6, 6), (12, 53)] (fun (s : Nat × AV × AV × AV) env H => env 6 = .pure (.int .i64 s.1) ∧ s.1 ≤ l.sights.xs.length ∧ Tri H 1 0 s.2.1 s.2.2.1 s.2.2.2 ((l.sights.xs.map (·.box.x)).take s.1) ((l.sights.xs.map (·.box.y)).take s.1) ((l.sights.xs.map (·.height)).take s.1)) (fun s => l.sights.xs.length - s.1) (0, .pure .nils, .pure .nils, .pure .nils) ?_ ?_ ?_ ?_
  · decide
  · have hno : ∀ id, ¬ Names (.pure .nils) id := fun id ⟨_, _, _, h⟩ => by simp at h
    refine ⟨by simp, by omega, ⟨by simp, by simp, GrowV.nil, GrowV.nil, GrowV.nil, fun _ h => absurd h (hno _), fun _ h => absurd h (hno _), fun _ h => absurd h (hno _), ⟨hno _, hno _⟩, ⟨hno _, hno _⟩, ⟨hno _, hno _⟩, by decide⟩⟩
  · simp only [loopFuel]; omega
  rintro ⟨i, va, vb, vc⟩ env H ⟨h6, hi, ht⟩
  simp only at h6 hi ht
  have hfit : i < 9223372036854775807 := by omega
  have hbox := ht.box
  have hbx := nx_of_get hbox
  have hbn : ¬ (1 = H.nx) := by omega
  have hga := ht.ga
  have hfa := hga.1.fresh
  (repeat' first | simp [*, initEnv] | (refine wpIf_two (fun _ h => ?_) (fun _ h => ?_) <;> try simp [-Nat.le_zero_eq] at h) | (apply wpE_appendV; (focus (first | assumption | (repeat' first | assumption | with_reducible apply GrowV.setNew | with_reducible apply GrowV.alloc | with_reducible apply GrowV.set | (with_reducible show ¬ Names _ _; simp [*]; done)))); (focus (exact fun _ => rfl)); (focus decide); (focus (intro a; first | rfl | simp)); (focus (simp [maxCells] <;> omega))) | (refine after_intro fun v2 H2 hv2 hnx2 hget2 hnew2 hone2 hcel2 => ?_))
  · have hlt : i < l.sights.xs.length := by assumption
    obtain ⟨ht2, hb2⟩ := ht.pushA hv2 ⟨hnx2, hget2, hnew2⟩
    have hnx := nx_of_get hb2
    generalize v2 = wa at *
    generalize H2 = Ha at *
    have hgb2 := ht2.gb
    have hfb2 := hgb2.1.fresh
    have hbn2 : ¬ (1 = Ha.nx) := by omega
    clear hv2 hget2 hnew2 hnx2 hga hfa hbox
    (repeat' first | simp [*, initEnv] | (refine wpIf_two (fun _ h => ?_) (fun _ h => ?_) <;> try simp [-Nat.le_zero_eq] at h) | (apply wpE_appendV; (focus (first | assumption | (repeat' first | assumption | with_reducible apply GrowV.setNew | with_reducible apply GrowV.alloc | with_reducible apply GrowV.set | (with_reducible show ¬ Names _ _; simp [*]; done)))); (focus (exact fun _ => rfl)); (focus decide); (focus (intro a; first | rfl | simp)); (focus (simp [maxCells] <;> omega))) | (refine after_intro fun v2 H2 hv2 hnx2 hget2 hnew2 hone2 hcel2 => ?_))
    obtain ⟨ht3, hb3⟩ := ht2.pushB hv2 ⟨hnx2, hget2, hnew2⟩
    have hnx3 := nx_of_get hb3
    generalize v2 = wb at *
    generalize H2 = Hb at *
    have hgc3 := ht3.gc
    have hfc3 := hgc3.1.fresh
    have hbn3 : ¬ (1 = Hb.nx) := by omega
    clear hv2 hget2 hnew2 hnx2 hgb2 hfb2
    (repeat' first | simp [*, initEnv] | (refine wpIf_two (fun _ h => ?_) (fun _ h => ?_) <;> try simp [-Nat.le_zero_eq] at h) | (apply wpE_appendV; (focus (first | assumption | (repeat' first | assumption | with_reducible apply GrowV.setNew | with_reducible apply GrowV.alloc | with_reducible apply GrowV.set | (with_reducible show ¬ Names _ _; simp [*]; done)))); (focus (exact fun _ => rfl)); (focus decide); (focus (intro a; first | rfl | simp)); (focus (simp [maxCells] <;> omega))) | (refine after_intro fun v2 H2 hv2 hnx2 hget2 hnew2 hone2 hcel2 => ?_))
    obtain ⟨ht4, hb4⟩ := ht3.pushC hv2 ⟨hnx2, hget2, hnew2⟩
    have hnx4 := nx_of_get hb4
    generalize v2 = wc at *
    generalize H2 = Hc at *
    clear hv2 hget2 hnew2 hnx2 hgc3 hfc3
    (repeat' first | simp [*, initEnv] | (refine wpIf_two (fun _ h => ?_) (fun _ h => ?_) <;> try simp [-Nat.le_zero_eq] at h) | (apply wpE_appendV; (focus (first | assumption | (repeat' first | assumption | with_reducible apply GrowV.setNew | with_reducible apply GrowV.alloc | with_reducible apply GrowV.set | (with_reducible show ¬ Names _ _; simp [*]; done)))); (focus (exact fun _ => rfl)); (focus decide); (focus (intro a; first | rfl | simp)); (focus (simp [maxCells] <;> omega))) | (refine after_intro fun v2 H2 hv2 hnx2 hget2 hnew2 hone2 hcel2 => ?_))
    refine ⟨i + 1, by omega, by simp, by omega, wa, wb, wc, ?_⟩
    rw [map_take_succ hlt, map_take_succ hlt, map_take_succ hlt] at ht4
    simpa using ht4
  have hie : i = l.sights.xs.length := by omega
  subst hie
  rw [List.take_of_length_le (by simp), List.take_of_length_le (by simp), List.take_of_length_le (by simp)] at ht
  clear hga hfa hbox hbn
  obtain ⟨ix, hvx, hgx⟩ := ht.ga.1.row (by intro e; have h := congrArg List.length e; rw [List.length_map, List.length_nil] at h; omega)
  obtain ⟨iy, hvy, hgy⟩ := ht.gb.1.row (by intro e; have h := congrArg List.length e; rw [List.length_map, List.length_nil] at h; omega)
  obtain ⟨ih, hvh, hgh⟩ := ht.gc.1.row (by intro e; have h := congrArg List.length e; rw [List.length_map, List.length_nil] at h; omega)
  rw [List.length_map] at hvx hvy hvh
  have hxy : ¬ (ix = iy) := fun e => ht.ab ix ⟨_, _, _, hvx⟩ ⟨2, 0, l.sights.xs.length, by rw [hvy, ← e]⟩
  have hxh : ¬ (ix = ih) := fun e => ht.ac ix ⟨_, _, _, hvx⟩ ⟨2, 0, l.sights.xs.length, by rw [hvh, ← e]⟩
  have hyh : ¬ (iy = ih) := fun e => ht.bc iy ⟨_, _, _, hvy⟩ ⟨2, 0, l.sights.xs.length, by rw [hvh, ← e]⟩
  have hyx : ¬ (iy = ix) := fun e => hxy e.symm
  have hhx : ¬ (ih = ix) := fun e => hxh e.symm
  have hhy : ¬ (ih = iy) := fun e => hyh e.symm
  have hx1 : ¬ (1 = ix) := fun e => ht.aB.1 ⟨2, 0, l.sights.xs.length, by rw [hvx, ← e]⟩
  have hx0 : ¬ (0 = ix) := fun e => ht.aB.2 ⟨2, 0, l.sights.xs.length, by rw [hvx, ← e]⟩
  have hy1 : ¬ (1 = iy) := fun e => ht.bB.1 ⟨2, 0, l.sights.xs.length, by rw [hvy, ← e]⟩
  have hy0 : ¬ (0 = iy) := fun e => ht.bB.2 ⟨2, 0, l.sights.xs.length, by rw [hvy, ← e]⟩
  have hh1 : ¬ (1 = ih) := fun e => ht.cB.1 ⟨2, 0, l.sights.xs.length, by rw [hvh, ← e]⟩
  have hh0 : ¬ (0 = ih) := fun e => ht.cB.2 ⟨2, 0, l.sights.xs.length, by rw [hvh, ← e]⟩
  have hbox := ht.box
  have hoth := ht.other
  rw [hvx, hvy, hvh] at hbox
  have hmul : IntKind.i64.wrap (2 * (l.sights.xs.length : Int)) = ((2 * l.sights.xs.length : Nat) : Int) := by rw [wrap64 (by omega) (by omega)]; simp
  obtain ⟨m2, hm20⟩ : ∃ m, m = 2 * l.sights.xs.length := ⟨_, rfl⟩
  rw [← hm20] at hmul
  have hm2' : m2 ≤ 18 := by omega
  have hm2 : Hide _ := ⟨hm20⟩
  clear hm20
  have okx : okL (l.sights.xs.map (·.box.x)) := fun s hs => by obtain ⟨a, ha, rfl⟩ := List.mem_map.1 hs; exact (hr.sp ha).1
  have oky : okL (l.sights.xs.map (·.box.y)) := fun s hs => by obtain ⟨a, ha, rfl⟩ := List.mem_map.1 hs; exact (hr.sp ha).2.1
  have okh : okL (l.sights.xs.map (·.height)) := fun s hs => by obtain ⟨a, ha, rfl⟩ := List.mem_map.1 hs; exact (hr.sp ha).2.2.1
  have inh : inH (l.sights.xs.map (·.height)) := fun s hs => by obtain ⟨a, ha, rfl⟩ := List.mem_map.1 hs; have := hr.sp ha; omega
  clear ht
  refine wp_loopF [(7, 10), (54, 237)] (fun (s : Nat × List Span × List Span × List Span) env2 H2 => env2 7 = .pure (.int .i64 s.1) ∧ s.1 ≤ m2 ∧
      H2.get 0 = .cells true [.pure .nils, .pure .nils, .pure .nils] ∧ H2.get 1 = .cells true [.row ix 2 0 l.sights.xs.length, .row iy 2 0 l.sights.xs.length, .row ih 2 0 l.sights.xs.length] ∧
      H2.get ix = .cells true (rowOf Span.cells s.2.1) ∧ H2.get iy = .cells true (rowOf Span.cells s.2.2.1) ∧ H2.get ih = .cells true (rowOf Span.cells s.2.2.2) ∧
      Hide (s.2.1.length = l.sights.xs.length ∧ s.2.2.1.length = l.sights.xs.length ∧ s.2.2.2.length = l.sights.xs.length ∧ okL s.2.1 ∧ okL s.2.2.1 ∧ okL s.2.2.2 ∧ inH s.2.2.2 ∧
        s.2.1 = roundsS (onX l c.xs) (onX l c.xs) c.xs.length s.1 (l.sights.xs.map (·.box.x)) ∧ s.2.2.1 = roundsS (onX l c.xs) (onX l c.xs) c.xs.length s.1 (l.sights.xs.map (·.box.y)) ∧ s.2.2.2 = roundsS (onH l c.xs) (backH l c.xs) c.xs.length s.1 (l.sights.xs.map (·.height))))
      (fun s => m2 - s.1) (0, l.sights.xs.map (·.box.x), l.sights.xs.map (·.box.y), l.sights.xs.map (·.height)) ?_ ?_ ?_ ?_
  · decide
  · refine ⟨by simp, by omega, hoth, hbox, hgx, hgy, hgh, ⟨by simp, by simp, by simp, okx, oky, okh, inh, rfl, rfl, rfl⟩⟩
  · simp only [loopFuel]; omega
  clear hoth hbox hgx hgy hgh okx oky okh inh
  rintro ⟨r, X, Y, Z⟩ env2 H2 ⟨h7, hr2, hg0, hg1, hgx, hgy, hgh, hh⟩
  simp only at h7 hr2 hgx hgy hgh hh
  have hfit2 : r < 9223372036854775807 := by omega
  obtain ⟨⟨hXl, hYl, hZl, oX, oY, oZ, iZ, eX0, eY0, eZ0⟩⟩ := hh
  have eX : Hide _ := ⟨eX0⟩
  have eY : Hide _ := ⟨eY0⟩
  have eZ : Hide _ := ⟨eZ0⟩
  clear eX0 eY0 eZ0
  (repeat' first | simp [*, initEnv] | (refine wpIf_two (fun _ h => ?_) (fun _ h => ?_) <;> try simp [-Nat.le_zero_eq] at h) | (apply wpE_appendV; (focus (first | assumption | (repeat' first | assumption | with_reducible apply GrowV.setNew | with_reducible apply GrowV.alloc | with_reducible apply GrowV.set | (with_reducible show ¬ Names _ _; simp [*]; done)))); (focus (exact fun _ => rfl)); (focus decide); (focus (intro a; first | rfl | simp)); (focus (simp [maxCells] <;> omega))) | (refine after_intro fun v2 H2 hv2 hnx2 hget2 hnew2 hone2 hcel2 => ?_))
  · have hlt : r < m2 := by assumption
    refine wp_loopF [(8, 10), (62, 237)] (fun (s : Nat × List Span × List Span × List Span) env2 H2 => env2 8 = .pure (.int .i64 s.1) ∧ s.1 ≤ c.xs.length ∧
      H2.get 0 = .cells true [.pure .nils, .pure .nils, .pure .nils] ∧ H2.get 1 = .cells true [.row ix 2 0 l.sights.xs.length, .row iy 2 0 l.sights.xs.length, .row ih 2 0 l.sights.xs.length] ∧
      H2.get ix = .cells true (rowOf Span.cells s.2.1) ∧ H2.get iy = .cells true (rowOf Span.cells s.2.2.1) ∧ H2.get ih = .cells true (rowOf Span.cells s.2.2.2) ∧
      Hide (s.2.1.length = l.sights.xs.length ∧ s.2.2.1.length = l.sights.xs.length ∧ s.2.2.2.length = l.sights.xs.length ∧ okL s.2.1 ∧ okL s.2.2.1 ∧ okL s.2.2.2 ∧ inH s.2.2.2 ∧
        s.2.1 = sweepTo (onX l c.xs) (onX l c.xs) s.1 X ∧ s.2.2.1 = sweepTo (onX l c.xs) (onX l c.xs) s.1 Y ∧ s.2.2.2 = sweepTo (onH l c.xs) (backH l c.xs) s.1 Z))
      (fun s => c.xs.length - s.1) (0, X, Y, Z) ?_ ?_ ?_ ?_
    · decide
    · refine ⟨by simp, by omega, hg0, hg1, hgx, hgy, hgh, ⟨hXl, hYl, hZl, oX, oY, oZ, iZ, rfl, rfl, rfl⟩⟩
    · have := hcl.h; simp only [loopFuel]; omega
    clear hg0 hg1 hgx hgy hgh
    rintro ⟨i, x, y, z⟩ env3 H3 ⟨h8, hi, hg0, hg1, hgx, hgy, hgh, hh⟩
    simp only at h8 hi hgx hgy hgh hh
    obtain ⟨⟨hxl, hyl, hzl, ox, oy, oz, iz, ex0, ey0, ez0⟩⟩ := hh
    have ex : Hide _ := ⟨ex0⟩
    have ey : Hide _ := ⟨ey0⟩
    have ez : Hide _ := ⟨ez0⟩
    clear ex0 ey0 ez0
    have hfit3 : i < 9223372036854775807 := by have := hcl.h; omega
    by_cases hic : i < c.xs.length
    · have hi1 : i + 1 < l.sights.xs.length := by have := hcl.h; omega
      have hi0 : i < l.sights.xs.length := by omega
      have hix := nx_of_get hgx
      have hiy := nx_of_get hgy
      have hih := nx_of_get hgh
      have hd := far_le (k := c.xs[i]) hr.habit
      have o1 : okSp x[i] := ox _ (List.getElem_mem _)
      have o2 : okSp x[i+1] := ox _ (List.getElem_mem _)
      have o3 : okSp y[i] := oy _ (List.getElem_mem _)
      have o4 : okSp y[i+1] := oy _ (List.getElem_mem _)
      have o5 : okSp z[i] := oz _ (List.getElem_mem _)
      have o6 : okSp z[i+1] := oz _ (List.getElem_mem _)
      have w1 : wideS (onD (farD l.habit c.xs[i]) x[i]) := by unfold okSp at o1; unfold wideS onD; simp only; omega
      have w2 : wideS (onD (farD l.habit c.xs[i]) y[i]) := by unfold okSp at o3; unfold wideS onD; simp only; omega
      have o7 := okSp_meet o2 w1
      have o8 := okSp_meet o4 w2
      have ns := hr.yr hi1
      have hsk := sink_le hr.habit ns
      have u1 : IntKind.i64.wrap (l.sights.xs[i+1].year - l.sights.xs[i].year) = l.sights.xs[i+1].year - l.sights.xs[i].year := wrap64 (by omega) (by omega)
      have u2 : IntKind.i64.wrap (l.habit.sink * (l.sights.xs[i+1].year - l.sights.xs[i].year)) = l.habit.sink * (l.sights.xs[i+1].year - l.sights.xs[i].year) := wrap64 (by omega) (by omega)
      have u3 : IntKind.i64.wrap (z[i].lo - l.habit.sink * (l.sights.xs[i+1].year - l.sights.xs[i].year)) = z[i].lo - l.habit.sink * (l.sights.xs[i+1].year - l.sights.xs[i].year) := by unfold okSp at o5; exact wrap64 (by omega) (by omega)
      have u4 : IntKind.i64.wrap (min z[i+1].hi z[i].hi + l.habit.sink * (l.sights.xs[i+1].year - l.sights.xs[i].year)) = min z[i+1].hi z[i].hi + l.habit.sink * (l.sights.xs[i+1].year - l.sights.xs[i].year) := by unfold okSp at o5 o6; exact wrap64 (by omega) (by omega)
      have hw1 := onX_wide hr c.xs
      have hwH1 : ∀ k t, okSp t → wideS (onH l c.xs k t) := fun k t h => (onH_wide hr c.xs k t h).1
      have hwH2 : ∀ k t, okSp t → wideS (backH l c.xs k t) := fun k t h => (onH_wide hr c.xs k t h).2
      have fin : Hide ((sweepAt (onX l c.xs) (onX l c.xs) i x).length = l.sights.xs.length ∧ (sweepAt (onX l c.xs) (onX l c.xs) i y).length = l.sights.xs.length ∧ (sweepAt (onH l c.xs) (backH l c.xs) i z).length = l.sights.xs.length ∧ okL (sweepAt (onX l c.xs) (onX l c.xs) i x) ∧ okL (sweepAt (onX l c.xs) (onX l c.xs) i y) ∧ okL (sweepAt (onH l c.xs) (backH l c.xs) i z) ∧ inH (sweepAt (onH l c.xs) (backH l c.xs) i z) ∧
        sweepAt (onX l c.xs) (onX l c.xs) i x = sweepTo (onX l c.xs) (onX l c.xs) (i + 1) X ∧ sweepAt (onX l c.xs) (onX l c.xs) i y = sweepTo (onX l c.xs) (onX l c.xs) (i + 1) Y ∧ sweepAt (onH l c.xs) (backH l c.xs) i z = sweepTo (onH l c.xs) (backH l c.xs) (i + 1) Z) :=
        ⟨by rw [sweepAt_length, hxl], by rw [sweepAt_length, hyl], by rw [sweepAt_length, hzl], okL_sweepAt hw1 hw1 (by omega) ox, okL_sweepAt hw1 hw1 (by omega) oy, okL_sweepAt hwH1 hwH2 (by omega) oz, inH_sweepAt (by omega) iz, by rw [sweepTo, ← ex.h], by rw [sweepTo, ← ey.h], by rw [sweepTo, ← ez.h]⟩
      have sx : Hide _ := ⟨sweepX_eq (l := l) (c := c.xs) (X := x) (i := i) (by omega) hic⟩
      have sy : Hide _ := ⟨sweepX_eq (l := l) (c := c.xs) (X := y) (i := i) (by omega) hic⟩
      have hic2 : Hide _ := ⟨hic⟩
      clear hw1 hwH1 hwH2
      (repeat' first | simp [*, initEnv] | (refine wpIf_two (fun _ h => ?_) (fun _ h => ?_) <;> try simp [-Nat.le_zero_eq] at h) | (apply wpE_appendV; (focus (first | assumption | (repeat' first | assumption | with_reducible apply GrowV.setNew | with_reducible apply GrowV.alloc | with_reducible apply GrowV.set | (with_reducible show ¬ Names _ _; simp [*]; done)))); (focus (exact fun _ => rfl)); (focus decide); (focus (intro a; first | rfl | simp)); (focus (simp [maxCells] <;> omega))) | (refine after_intro fun v2 H2 hv2 hnx2 hget2 hnew2 hone2 hcel2 => ?_))
      · have h0 : c.xs[i] = 0 := by assumption
        exact ⟨i + 1, by omega, by simp, by omega, _, by rw [sx.h, h0], _, by rw [sy.h, h0], _, by rw [sweepH_eq (by omega) hi1 hic2.h h0], fin⟩
      · have h0 : ¬ c.xs[i] = 0 := by assumption
        exact ⟨i + 1, by omega, by simp, by omega, _, by rw [sx.h], _, by rw [sy.h], _, by rw [sweepH_skip (by omega) hi1 hic2.h h0 iz], fin⟩
    · have hie : i = c.xs.length := by omega
      (repeat' first | simp [*, initEnv] | (refine wpIf_two (fun _ h => ?_) (fun _ h => ?_) <;> try simp [-Nat.le_zero_eq] at h) | (apply wpE_appendV; (focus (first | assumption | (repeat' first | assumption | with_reducible apply GrowV.setNew | with_reducible apply GrowV.alloc | with_reducible apply GrowV.set | (with_reducible show ¬ Names _ _; simp [*]; done)))); (focus (exact fun _ => rfl)); (focus decide); (focus (intro a; first | rfl | simp)); (focus (simp [maxCells] <;> omega))) | (refine after_intro fun v2 H2 hv2 hnx2 hget2 hnew2 hone2 hcel2 => ?_))
      exact ⟨r + 1, by omega, by simp, by omega, x, rfl, y, rfl, z, rfl, ⟨hxl, hyl, hzl, ox, oy, oz, iz, by rw [roundsS, ← eX.h, ex.h, hie], by rw [roundsS, ← eY.h, ey.h, hie], by rw [roundsS, ← eZ.h, ez.h, hie]⟩⟩
  have hre : r = 2 * l.sights.xs.length := by have := hm2.h; omega
  have hne : ∀ m : List Span, m.length = l.sights.xs.length → m ≠ [] := fun m hm e => by rw [e] at hm; simp at hm; omega
  have fa : FrzK (H2.set 0 (.cells true [.row ix 2 0 l.sights.xs.length, .row iy 2 0 l.sights.xs.length, .row ih 2 0 l.sights.xs.length])) false depthF (aggV [.row ix 2 0 l.sights.xs.length, .row iy 2 0 l.sights.xs.length, .row ih 2 0 l.sights.xs.length]) P := by
    rw [hP.h]
    have rx := eX.h
    have ry := eY.h
    have rz := eZ.h
    rw [hre] at rx ry rz
    have gx : GrowV Span.cells 2 H2 (.row ix 2 0 l.sights.xs.length) X := ⟨.inr ⟨ix, by rw [hXl], hgx⟩, fun e => absurd e (hne X hXl)⟩
    have gy : GrowV Span.cells 2 H2 (.row iy 2 0 l.sights.xs.length) Y := ⟨.inr ⟨iy, by rw [hYl], hgy⟩, fun e => absurd e (hne Y hYl)⟩
    have gz : GrowV Span.cells 2 H2 (.row ih 2 0 l.sights.xs.length) Z := ⟨.inr ⟨ih, by rw [hZl], hgh⟩, fun e => absurd e (hne Z hZl)⟩
    have ex : X = narX l c.xs := rx
    have ey : Y = narY l c.xs := ry
    have ez : Z = narH l c.xs := rz
    rw [← ex, ← ey, ← ez]
    have nn : ∀ j, ¬ 0 = j → ¬ Names (.row j 2 0 l.sights.xs.length) 0 := fun j hj ⟨_, _, _, h⟩ => by simp at h; omega
    exact FrzK.aggV (n := 11) (.cons ((gx.set (nn _ hx0) _).res (fun _ => rfl)) (.cons ((gy.set (nn _ hy0) _).res (fun _ => rfl)) (.cons ((gz.set (nn _ hh0) _).res (fun _ => rfl)) .nil)))
  have h02 := nx_of_get hg0
  rw [get_set_own h02]
  refine ⟨_, rfl, fa⟩
@[simp] theorem d125 (n : Nat) (H : Heap) (l_habit_step : Int) (l_habit_place : Int) (l_habit_sink : Int) (l_sights : Sl Sight) (l_notes : Sl Note) (c : Sl Int) (hr : (fun (l : Life) => Right l) (⟨⟨l_habit_step, l_habit_place, l_habit_sink⟩, l_sights, l_notes⟩ : Life)) (hc : (fun (l : Life) => c.xs.length + 1 = l.sights.xs.length) (⟨⟨l_habit_step, l_habit_place, l_habit_sink⟩, l_sights, l_notes⟩ : Life)) (hk : ∀ k ∈ c.xs, 0 ≤ k ∧ k ≤ 2) : doCall (calleeOf G (n + 3)) H (.pure (.func 125 [])) [.pure (.agg [.int .i64 l_habit_step, .int .i64 l_habit_place, .int .i64 l_habit_sink, (l_sights).pv Sight.cells 9, (l_notes).pv Note.cells 4]), .pure (c.pv intF 1)] = some (.val (.pure ((fun (l : Life) => .agg [(Sl.of (narX l c.xs)).pv Span.cells 2, (Sl.of (narY l c.xs)).pv Span.cells 2, (Sl.of (narH l c.xs)).pv Span.cells 2]) (⟨⟨l_habit_step, l_habit_place, l_habit_sink⟩, l_sights, l_notes⟩ : Life)))) :=
  call_pureC (ps := [_, _]) (caps := []) sh125 (e125 n (⟨⟨l_habit_step, l_habit_place, l_habit_sink⟩, l_sights, l_notes⟩ : Life) c hr hc hk)
end Go.Proofs.YtnomliioadjdgaaGreat.Vm

namespace Go.Proofs.YtnomliioadjdgaaGreat.Vm
open Go
set_option linter.unusedSimpArgs false
set_option linter.unusedVariables false
set_option maxHeartbeats 4000000

theorem nar_len (l : Life) (c : List Int) : (narX l c).length = l.sights.xs.length ∧ (narY l c).length = l.sights.xs.length ∧ (narH l c).length = l.sights.xs.length := by
  simp [narX, narY, narH, roundsS_length]
def canS (l : Life) (c : List Int) : Bool := allL (fun m => notedS l.sights.xs m c) l.notes.xs && ((lettersS l.sights.xs c).isSome && someS (narX l c) && someS (narY l c) && someS (narH l c))
theorem sh94 : G.shared 94 = false := by decide
theorem e94 (n : Nat) (l : Life) (c : Sl Int) (hr : Right l) (hc : c.xs.length + 1 = l.sights.xs.length) (hk : ∀ k ∈ c.xs, 0 ≤ k ∧ k ≤ 2) : callP G (n + 6) 94 [.agg l.cells, c.pv intF 1] = some (.bool (canS l c.xs)) := by
  refine callP_of (ext_none _) rfl g94 rfl ?_
  have h9 := hr.nine
  have h20 := hr.notes
  have hl8 : ∀ s ∈ l.sights.xs, s.letters.length ≤ 20 := fun s hs => by have := hr.sp hs; omega
  obtain ⟨P, hPe⟩ : ∃ P, P = canS l c.xs := ⟨_, rfl⟩
  rw [← hPe]
  have hP : Hide _ := ⟨hPe⟩
  clear hPe
  have hcl : ∀ H, doCall (calleeOf G (n + 5)) H (.pure (.func 124 [])) [.pure (.agg l.cells), .pure (c.pv intF 1)] = some (.val (.pure (letPV (lettersS l.sights.xs c.xs)))) := fun H => d124 n H l.habit.step l.habit.place l.habit.sink l.sights l.notes c hc h9 hl8
  have hcs : ∀ H, doCall (calleeOf G (n + 5)) H (.pure (.func 125 [])) [.pure (.agg l.cells), .pure (c.pv intF 1)] = some (.val (.pure (.agg [(Sl.of (narX l c.xs)).pv Span.cells 2, (Sl.of (narY l c.xs)).pv Span.cells 2, (Sl.of (narH l c.xs)).pv Span.cells 2]))) := fun H => d125 (n + 2) H l.habit.step l.habit.place l.habit.sink l.sights l.notes c hr hc hk
  simp only [Life.cells] at hcl hcs
  have n1 : (narX l c.xs).length < 1000 := by rw [(nar_len l c.xs).1]; omega
  have n2 : (narY l c.xs).length < 1000 := by rw [(nar_len l c.xs).2.1]; omega
  have n3 : (narH l c.xs).length < 1000 := by rw [(nar_len l c.xs).2.2]; omega
  (repeat' first | simp [*, initEnv, c94] | (refine wpIf_two (fun _ h => ?_) (fun _ h => ?_) <;> try simp [-Nat.le_zero_eq] at h))
  refine wp_loopF [(4, 6), (13, 29)] (fun (i : Nat) env H => env 5 = .pure (.int .i64 i) ∧ i ≤ l.notes.xs.length ∧ Hide (allL (fun m => notedS l.sights.xs m c.xs) l.notes.xs = allL (fun m => notedS l.sights.xs m c.xs) (l.notes.xs.drop i))) (fun i => l.notes.xs.length - i) 0 ?_ ?_ ?_ ?_
  · decide
  · simp
  · simp only [loopFuel]; omega
  rintro i env H ⟨h5, hi, hn⟩
  have hfit : i < 9223372036854775807 := by omega
  have hc2 : c.xs.length + 1 ≤ l.sights.xs.length := by omega
  have hl3 : l.sights.xs.length < 1000 := by omega
  have hsome : ∀ (o : Option (List (List UInt8))), letPV o = .tup [match o with | none => .nils | some t => (Sl.of t).pv strF 1, .bool o.isSome] := fun o => by cases o <;> rfl
  (repeat' first | simp [*, initEnv] | (refine wpIf_two (fun _ h => ?_) (fun _ h => ?_) <;> try simp [-Nat.le_zero_eq] at h))
  · have hlt : i < l.notes.xs.length := by assumption
    have hf : notedS l.sights.xs l.notes.xs[i] c.xs = true := by assumption
    exact ⟨i + 1, by omega, by simp, by omega, ⟨by rw [hn.h, allL_drop hlt, hf]; rfl⟩⟩
  · have hlt : i < l.notes.xs.length := by assumption
    have hf : notedS l.sights.xs l.notes.xs[i] c.xs = false := by assumption
    rw [hP.h, canS, hn.h, allL_drop hlt, hf]
    rfl
  all_goals
    have hA : allL (fun m => notedS l.sights.xs m c.xs) l.notes.xs = true := by rw [hn.h, allL_end (by omega)]
    rw [hP.h, canS, hA]
    simp [*]
@[simp] theorem d94 (n : Nat) (H : Heap) (l_habit_step : Int) (l_habit_place : Int) (l_habit_sink : Int) (l_sights : Sl Sight) (l_notes : Sl Note) (c : Sl Int) (hr : (fun (l : Life) => Right l) (⟨⟨l_habit_step, l_habit_place, l_habit_sink⟩, l_sights, l_notes⟩ : Life)) (hc : (fun (l : Life) => c.xs.length + 1 = l.sights.xs.length) (⟨⟨l_habit_step, l_habit_place, l_habit_sink⟩, l_sights, l_notes⟩ : Life)) (hk : ∀ k ∈ c.xs, 0 ≤ k ∧ k ≤ 2) : doCall (calleeOf G (n + 6)) H (.pure (.func 94 [])) [.pure (.agg [.int .i64 l_habit_step, .int .i64 l_habit_place, .int .i64 l_habit_sink, (l_sights).pv Sight.cells 9, (l_notes).pv Note.cells 4]), .pure (c.pv intF 1)] = some (.val (.pure ((fun (l : Life) => .bool (canS l c.xs)) (⟨⟨l_habit_step, l_habit_place, l_habit_sink⟩, l_sights, l_notes⟩ : Life)))) :=
  call_pureC (ps := [_, _]) (caps := []) sh94 (e94 n (⟨⟨l_habit_step, l_habit_place, l_habit_sink⟩, l_sights, l_notes⟩ : Life) c hr hc hk)
theorem sh54 : G.shared 54 = false := by decide
theorem e54 (n : Nat) (l : Life) (c : Sl Int) (hs : shortS l) (hc : c.xs.length < 1000) : callP G (n + 6) 54 [.agg l.cells, c.pv intF 1] = some (.int .i64 (givenS l c.xs)) := by
  refine callP_of (ext_none _) rfl g54 rfl ?_
  have hl : checkS l = 0 → l.sights.xs.length < 1000 := fun h => by have := ((right_iff l).1 h).nine; omega
  have hcc : ∀ H, doCall (calleeOf G (n + 5)) H (.pure (.func 43 [])) [.pure (.agg l.cells)] = some (.val (.pure (.int .i64 (checkS l)))) := fun H => d43 n H l.habit.step l.habit.place l.habit.sink l.sights l.notes hs
  simp only [Life.cells] at hcc
  have hP : Hide (givenS l c.xs = if checkS l = 0 then (if kindsS l c.xs = true then 0 else 50) else checkS l) := ⟨rfl⟩
  generalize givenS l c.xs = P at *
  (repeat' first | simp [*, initEnv, c54] | (refine wpIf_two (fun _ h => ?_) (fun _ h => ?_) <;> try simp [-Nat.le_zero_eq] at h))
  all_goals (rw [hP.h]; simp [*])
@[simp] theorem d54 (n : Nat) (H : Heap) (l_habit_step : Int) (l_habit_place : Int) (l_habit_sink : Int) (l_sights : Sl Sight) (l_notes : Sl Note) (c : Sl Int) (hs : (fun (l : Life) => shortS l) (⟨⟨l_habit_step, l_habit_place, l_habit_sink⟩, l_sights, l_notes⟩ : Life)) (hc : c.xs.length < 1000) : doCall (calleeOf G (n + 6)) H (.pure (.func 54 [])) [.pure (.agg [.int .i64 l_habit_step, .int .i64 l_habit_place, .int .i64 l_habit_sink, (l_sights).pv Sight.cells 9, (l_notes).pv Note.cells 4]), .pure (c.pv intF 1)] = some (.val (.pure ((fun (l : Life) => .int .i64 (givenS l c.xs)) (⟨⟨l_habit_step, l_habit_place, l_habit_sink⟩, l_sights, l_notes⟩ : Life)))) :=
  call_pureC (ps := [_, _]) (caps := []) sh54 (e54 n (⟨⟨l_habit_step, l_habit_place, l_habit_sink⟩, l_sights, l_notes⟩ : Life) c hs hc)
-- left out: the program of this seat has no such function
def refTell (l : Life) (c : List Int) : List PV := if givenS l c = 0 then (if canS l c = true then
    [(Sl.of ((narX l c).zipWith Box.mk (narY l c))).pv Box.cells 4, (Sl.of (narH l c)).pv Span.cells 2, (Sl.of ((lettersS l.sights.xs c).getD [])).pv strF 1, .int .i64 0]
    else [.nils, .nils, .nils, .int .i64 9]) else [.nils, .nils, .nils, .int .i64 (givenS l c)]
-- left out: the program of this seat has no such function
end Go.Proofs.YtnomliioadjdgaaGreat.Vm

namespace Go.Proofs.YtnomliioadjdgaaGreat.Vm
open Go
set_option linter.unusedSimpArgs false
set_option linter.unusedVariables false
set_option maxHeartbeats 4000000

def sub (s t : Span) : Prop := t.lo ≤ s.lo ∧ s.hi ≤ t.hi
def full (s : Span) : Prop := s.lo ≤ s.hi
theorem sub_refl (s : Span) : sub s s := ⟨Int.le_refl _, Int.le_refl _⟩
theorem sub_trans {a b c : Span} (h : sub a b) (h' : sub b c) : sub a c := by unfold sub at *; omega
theorem sub_antisymm {a b : Span} (h : sub a b) (h' : sub b a) : a = b := by
  unfold sub at *
  cases a; cases b; simp at *; omega
theorem sub_meet {a b c : Span} (h : sub a b) (h' : sub a c) : sub a (meetS b c) := by unfold sub meetS at *; simp only; omega
theorem meet_sub_l (a b : Span) : sub (meetS a b) a := by unfold sub meetS; simp only; omega
theorem meet_sub_r (a b : Span) : sub (meetS a b) b := by unfold sub meetS; simp only; omega

/-- What gaps do, as the proof needs it; R: spans that occur. -/
structure Gaps (R : Span → Prop) (on back : Nat → Span → Span) : Prop where
  mon : ∀ k s t, sub s t → sub (on k s) (on k t)
  mback : ∀ k s t, sub s t → sub (back k s) (back k t)
  gal : ∀ k f t, sub t (on k f) → sub t (on k (meetS f (back k t)))
  fullM : ∀ k f t, R f → full f → full t → sub t (on k f) → full (meetS f (back k t))
  sub : ∀ s t, R t → sub s t → R s

section
variable {R : Span → Prop} {on back : Nat → Span → Span} {l : List Span}
def fN (on : Nat → Span → Span) (l : List Span) : Nat → Span
  | 0 => l[0]!
  | k + 1 => meetS l[k+1]! (on k (fN on l k))
theorem fwd_from (on : Nat → Span → Span) (l : List Span) : ∀ (m k : Nat), m = l.length - k → k ≤ l.length →
    ((∀ i, k ≤ i → i < l.length → full (fN on l i)) → fwdS on k (if k = 0 then none else some (fN on l (k-1))) (l.drop k) = some (((List.range l.length).drop k).map (fN on l))) ∧
    ((∃ i, k ≤ i ∧ i < l.length ∧ ¬ full (fN on l i)) → fwdS on k (if k = 0 then none else some (fN on l (k-1))) (l.drop k) = none) := by
  intro m
  induction m with
  | zero =>
    intro k hm hk
    have : k = l.length := by omega
    subst this
    refine ⟨fun _ => ?_, fun ⟨i, h1, h2, _⟩ => by omega⟩
    rw [List.drop_length, List.drop_eq_nil_of_le (by simp)]
    rfl
  | succ m ih =>
    intro k hm hk
    have hlt : k < l.length := by omega
    have hh : headF on k (if k = 0 then none else some (fN on l (k-1))) l[k] = fN on l k := by
      cases k with
      | zero => simp [headF, fN, getElem!_pos l 0 hlt]
      | succ k => simp [headF, fN, getElem!_pos l (k+1) hlt]
    have hst := fwdS_step (on := on) (p := if k = 0 then none else some (fN on l (k-1))) hlt hh.symm
    have ih' := ih (k + 1) (by omega) (by omega)
    rw [if_neg (by omega), Nat.add_sub_cancel] at ih'
    have hr : (List.range l.length).drop k = k :: (List.range l.length).drop (k + 1) := by
      rw [List.drop_eq_getElem_cons (by simpa using hlt)]; simp
    constructor
    · intro hall
      rw [hst, if_neg (by have := hall k (Nat.le_refl _) hlt; unfold full at this; omega), ih'.1 (fun i h1 h2 => hall i (by omega) h2), hr]
      rfl
    · rintro ⟨i, h1, h2, h3⟩
      rw [hst]
      by_cases hf : (fN on l k).hi < (fN on l k).lo
      · rw [if_pos hf]
      · rw [if_neg hf]
        have hik : i ≠ k := fun e => by subst e; exact h3 (by unfold full; omega)
        rw [ih'.2 ⟨i, by omega, h2, h3⟩]; rfl
def fL (on : Nat → Span → Span) (l : List Span) : List Span := (List.range l.length).map (fN on l)
theorem fL_length (on : Nat → Span → Span) (l : List Span) : (fL on l).length = l.length := by simp [fL]
theorem fL_at (on : Nat → Span → Span) (l : List Span) (i : Nat) (h : i < (fL on l).length) : (fL on l)[i] = fN on l i := by simp [fL]
theorem through_some (h : ∀ i, i < l.length → full (fN on l i)) : throughS on back l = some (bwdS back 0 (fL on l)) := by
  have := (fwd_from on l l.length 0 (by omega) (by omega)).1 (fun i _ hi => h i hi)
  simp only [if_true, List.drop_zero] at this
  rw [throughS, this]; rfl
theorem through_none (h : ∃ i, i < l.length ∧ ¬ full (fN on l i)) : throughS on back l = none := by
  obtain ⟨i, h1, h2⟩ := h
  have := (fwd_from on l l.length 0 (by omega) (by omega)).2 ⟨i, by omega, h1, h2⟩
  simp only [if_true, List.drop_zero] at this
  rw [throughS, this]; rfl

/-! ### Back -/
theorem bwd_drop (back : Nat → Span → Span) : ∀ (l : List Span) (k j : Nat), (bwdS back k l).drop j = bwdS back (k + j) (l.drop j)
  | [], k, j => by simp [bwdS]
  | s :: r, k, 0 => rfl
  | s :: r, k, j + 1 => by
    have ih := bwd_drop back r (k + 1) j
    have e : k + 1 + j = k + (j + 1) := by omega
    rw [e] at ih
    rw [List.drop_succ_cons, ← ih, bwdS]
    have hl := bwdS_length back r (k+1)
    cases hb : bwdS back (k+1) r with
    | nil => rw [hb] at hl; simp
    | cons t r' => rfl
def bN (back : Nat → Span → Span) (F : List Span) (i : Nat) : Span := (bwdS back 0 F)[i]!
theorem bN_step {F : List Span} {j : Nat} (hj : j + 1 < F.length) : bN back F j = meetS F[j]! (back j (bN back F (j+1))) := by
  have hl := bwdS_length back F 0
  have h1 := bwd_drop back F 0 j
  have h2 := bwd_drop back F 0 (j + 1)
  simp only [Nat.zero_add] at h1 h2
  have h3 := bwdS_step (back := back) hj
  have e : ∀ h, (bwdS back (j+1) (F.drop (j+1)))[0]'h = (bwdS back 0 F)[j+1]'(by omega) := fun h => by
    have := congrArg (fun x => x[0]?) h2
    simp only [List.getElem?_drop, Nat.add_zero] at this
    rw [List.getElem?_eq_getElem (by omega), List.getElem?_eq_getElem h] at this
    exact (Option.some.inj this).symm
  rw [e, ← h1] at h3
  have h4 := congrArg (fun x => x[0]?) h3
  simp only [List.getElem?_drop, Nat.add_zero, List.getElem?_cons_zero] at h4
  rw [List.getElem?_eq_getElem (by omega)] at h4
  simp only [bN]
  rw [getElem!_pos (bwdS back 0 F) j (by omega), getElem!_pos (bwdS back 0 F) (j+1) (by omega), getElem!_pos F j (by omega)]
  exact Option.some.inj h4
theorem bN_last {F : List Span} {j : Nat} (hj : j + 1 = F.length) : bN back F j = F[j]! := by
  have hl := bwdS_length back F 0
  have h1 := bwd_drop back F 0 j
  simp only [Nat.zero_add] at h1
  rw [bwdS_last hj] at h1
  have h4 := congrArg (fun x => x[0]?) h1
  simp only [List.getElem?_drop, Nat.add_zero] at h4
  simp only [bN]
  rw [getElem!_pos (bwdS back 0 F) j (by omega), getElem!_pos F j (by omega)]
  rw [List.getElem?_eq_getElem (by omega), List.getElem?_eq_getElem (by omega)] at h4
  exact Option.some.inj h4

/-! ### Sweeps -/
theorem sweepAt_get {i j : Nat} {cur : List Span} (hi : i + 1 < cur.length) (hj : j < cur.length) :
    (sweepAt on back i cur)[j]! = if j = i then meetS cur[i]! (back i (meetS cur[i+1]! (on i cur[i]!))) else if j = i + 1 then meetS cur[i+1]! (on i cur[i]!) else cur[j]! := by
  rw [getElem!_pos _ j (by rw [sweepAt_length]; exact hj)]
  unfold sweepAt
  rw [List.getElem_set]
  by_cases h : j = i
  · rw [if_pos h.symm, if_pos h]
  · rw [if_neg (fun e => h e.symm), if_neg h, List.getElem_set]
    by_cases h2 : j = i + 1
    · rw [if_pos h2.symm, if_pos h2]
    · rw [if_neg (fun e => h2 e.symm), if_neg h2, getElem!_pos cur j hj]
/-- A sweep, seen from the front: what stands at i, i+1 after k steps. -/
theorem sweepTo_ge {cur : List Span} : ∀ (k j : Nat), k < cur.length → j < cur.length → k < j → (sweepTo on back k cur)[j]! = cur[j]! := by
  intro k
  induction k with
  | zero => intro j _ _ _; rfl
  | succ k ih =>
    intro j hk hj hkj
    rw [sweepTo, sweepAt_get (by rw [sweepTo_length]; omega) (by rw [sweepTo_length]; omega), if_neg (by omega), if_neg (by omega)]
    exact ih j (by omega) hj (by omega)
theorem sweepTo_lt {cur : List Span} : ∀ (k m j : Nat), m < cur.length → k ≤ m → j + 1 = k → j < cur.length → (sweepTo on back m cur)[j]! = (sweepTo on back (j+1) cur)[j]! := by
  intro k m
  induction m with
  | zero => intro j _ _ _ _; omega
  | succ m ih =>
    intro j hm hk hj hjl
    by_cases h : j = m
    · subst h; rfl
    · rw [sweepTo, sweepAt_get (by rw [sweepTo_length]; omega) (by rw [sweepTo_length]; omega), if_neg h, if_neg (by omega)]
      exact ih j (by omega) (by omega) (by omega) hjl
/-- A lower bound that the gaps keep stays one. -/
theorem low_sweepAt (g : Gaps R on back) {b : Nat → Span} {i : Nat} {cur : List Span} (hi : i + 1 < cur.length)
    (hb1 : sub (b (i+1)) (on i (b i))) (hb2 : sub (b i) (back i (b (i+1)))) (h : ∀ j, j < cur.length → sub (b j) cur[j]!) :
    ∀ j, j < cur.length → sub (b j) (sweepAt on back i cur)[j]! := by
  intro j hj
  have h1 : sub (b (i+1)) (meetS cur[i+1]! (on i cur[i]!)) := sub_meet (h _ hi) (sub_trans hb1 (g.mon _ _ _ (h _ (by omega))))
  rw [sweepAt_get hi hj]
  split
  · rename_i e; subst e
    exact sub_meet (h _ hj) (sub_trans hb2 (g.mback _ _ _ h1))
  · split
    · rename_i e; subst e; exact h1
    · exact h j hj
theorem low_sweepTo (g : Gaps R on back) {b : Nat → Span} {cur : List Span} {n : Nat} (hn : n = cur.length)
    (hb1 : ∀ i, i + 1 < n → sub (b (i+1)) (on i (b i))) (hb2 : ∀ i, i + 1 < n → sub (b i) (back i (b (i+1)))) (h : ∀ j, j < n → sub (b j) cur[j]!) :
    ∀ k, k < n → ∀ j, j < n → sub (b j) (sweepTo on back k cur)[j]! := by
  intro k
  induction k with
  | zero => intro _; exact h
  | succ k ih =>
    intro hk
    have := low_sweepAt g (i := k) (cur := sweepTo on back k cur) (by rw [sweepTo_length]; omega) (hb1 k hk) (hb2 k hk) (fun j hj => ih (by omega) j (by rw [sweepTo_length] at hj; omega))
    rw [sweepTo_length, ← hn] at this
    exact this
theorem low_rounds (g : Gaps R on back) {b : Nat → Span} {n m : Nat} (hn : n = l.length) (hm : m < n)
    (hb1 : ∀ i, i + 1 < n → sub (b (i+1)) (on i (b i))) (hb2 : ∀ i, i + 1 < n → sub (b i) (back i (b (i+1)))) (h : ∀ j, j < n → sub (b j) l[j]!) :
    ∀ r, ∀ j, j < n → sub (b j) (roundsS on back m r l)[j]! := by
  intro r
  induction r with
  | zero => exact h
  | succ r ih => exact low_sweepTo g (by rw [roundsS_length]; exact hn) hb1 hb2 ih m hm
/-- Sweeps only narrow. -/
theorem sweepAt_sub {i : Nat} {cur : List Span} (hi : i + 1 < cur.length) : ∀ j, j < cur.length → sub (sweepAt on back i cur)[j]! cur[j]! := by
  intro j hj
  rw [sweepAt_get hi hj]
  split
  · rename_i e; subst e; exact meet_sub_l _ _
  · split
    · rename_i e; subst e; exact meet_sub_l _ _
    · exact sub_refl _
theorem sweepTo_sub {cur : List Span} : ∀ k, k < cur.length → ∀ j, j < cur.length → sub (sweepTo on back k cur)[j]! cur[j]! := by
  intro k
  induction k with
  | zero => intro _ j _; exact sub_refl _
  | succ k ih =>
    intro hk j hj
    rw [sweepTo]
    exact sub_trans (sweepAt_sub (by rw [sweepTo_length]; omega) j (by rw [sweepTo_length]; exact hj)) (ih (by omega) j hj)
/-- After the sweep to k, what stands at k lies below fN. -/
theorem sweepTo_fN (g : Gaps R on back) {cur : List Span} (hl : cur.length = l.length) (h : ∀ j, j < l.length → sub cur[j]! l[j]!) : ∀ k, k < cur.length → sub (sweepTo on back k cur)[k]! (fN on l k) := by
  intro k
  induction k with
  | zero => intro h0; exact h 0 (by omega)
  | succ k ih =>
    intro hk
    rw [sweepTo, sweepAt_get (by rw [sweepTo_length]; omega) (by rw [sweepTo_length]; omega), if_neg (by omega), if_pos rfl, sweepTo_ge k (k+1) (by omega) hk (by omega), fN]
    exact sub_meet (sub_trans (meet_sub_l _ _) (h _ (by omega))) (sub_trans (meet_sub_r _ _) (g.mon _ _ _ (ih (by omega))))
theorem rounds_sub : ∀ r m, m < l.length → ∀ j, j < l.length → sub (roundsS on back m r l)[j]! l[j]! := by
  intro r m hm
  induction r with
  | zero => intro j _; exact sub_refl _
  | succ r ih =>
    intro j hj
    exact sub_trans (sweepTo_sub m (by rw [roundsS_length]; exact hm) j (by rw [roundsS_length]; exact hj)) (ih j hj)
/-- After a sweep all lies below fN. -/
theorem sweep_fN (g : Gaps R on back) {cur : List Span} (hl : cur.length = l.length) (h : ∀ j, j < l.length → sub cur[j]! l[j]!) {m : Nat} (hm : m + 1 = l.length) : ∀ j, j < l.length → sub (sweepTo on back m cur)[j]! (fN on l j) := by
  intro j hj
  by_cases e : j = m
  · subst e; exact sweepTo_fN g hl h j (by omega)
  · rw [sweepTo_lt (j+1) m j (by omega) (by omega) (by omega) (by omega), sweepTo]
    exact sub_trans (sweepAt_sub (by rw [sweepTo_length]; omega) j (by rw [sweepTo_length]; omega)) (sweepTo_fN g hl h j (by omega))
theorem rounds_bN (g : Gaps R on back) {m : Nat} (hm : m + 1 = l.length) : ∀ r, ∀ i, i < l.length → l.length ≤ i + r → 1 ≤ r → sub (roundsS on back m r l)[i]! (bN back (fL on l) i) := by
  have hFl : (fL on l).length = l.length := fL_length on l
  have hF : ∀ i, i < l.length → (fL on l)[i]! = fN on l i := fun i hi => by rw [getElem!_pos _ i (by rw [hFl]; exact hi), fL_at]
  intro r
  induction r with
  | zero => intro i _ _ h; omega
  | succ r ih =>
    intro i hi hir _
    have hs := sweep_fN g (cur := roundsS on back m r l) (roundsS_length ..) (rounds_sub r m (by omega)) hm
    by_cases e : i = m
    · subst e
      rw [bN_last (by omega), hF _ hi]
      exact hs i hi
    · rw [bN_step (by omega), hF _ hi]
      refine sub_meet (hs i hi) ?_
      rw [roundsS, sweepTo_lt (i+1) m i (by rw [roundsS_length]; omega) (by omega) (by omega) (by rw [roundsS_length]; omega), sweepTo, sweepAt_get (by rw [sweepTo_length, roundsS_length]; omega) (by rw [sweepTo_length, roundsS_length]; omega), if_pos rfl]
      refine sub_trans (meet_sub_r _ _) (g.mback _ _ _ (sub_trans (meet_sub_l _ _) ?_))
      rw [sweepTo_ge i (i+1) (by rw [roundsS_length]; omega) (by rw [roundsS_length]; omega) (by omega)]
      exact ih (i+1) (by omega) (by omega) (by omega)
/-- What all full forward spans give. -/
theorem bN_props (g : Gaps R on back) (hR : ∀ s ∈ l, R s) {m : Nat} (hm : m + 1 = l.length) (hf : ∀ i, i < l.length → full (fN on l i)) :
    ∀ d i, i + d = m → full (bN back (fL on l) i) ∧ sub (bN back (fL on l) i) (fN on l i) ∧ (i + 1 < l.length → sub (bN back (fL on l) (i+1)) (on i (bN back (fL on l) i)) ∧ sub (bN back (fL on l) i) (back i (bN back (fL on l) (i+1)))) := by
  have hFl : (fL on l).length = l.length := fL_length on l
  have hF : ∀ i, i < l.length → (fL on l)[i]! = fN on l i := fun i hi => by rw [getElem!_pos _ i (by rw [hFl]; exact hi), fL_at]
  have hRl : ∀ i, i < l.length → R l[i]! := fun i hi => by rw [getElem!_pos l i hi]; exact hR _ (List.getElem_mem _)
  have hRf : ∀ i, i < l.length → R (fN on l i) := fun i hi => by
    refine g.sub _ _ (hRl i hi) ?_
    cases i with
    | zero => exact sub_refl _
    | succ i => exact meet_sub_l _ _
  intro d
  induction d with
  | zero =>
    intro i hi
    have : i = m := by omega
    subst this
    rw [bN_last (by omega), hF _ (by omega)]
    exact ⟨hf _ (by omega), sub_refl _, fun h => by omega⟩
  | succ d ih =>
    intro i hi
    obtain ⟨h1, h2, _⟩ := ih (i + 1) (by omega)
    have h3 : sub (bN back (fL on l) (i+1)) (on i (fN on l i)) := sub_trans h2 (by rw [fN]; exact meet_sub_r _ _)
    rw [bN_step (j := i) (by omega), hF _ (by omega)]
    exact ⟨g.fullM i _ _ (hRf i (by omega)) (hf i (by omega)) h1 h3, meet_sub_l _ _, fun _ => ⟨g.gal i _ _ h3, meet_sub_r _ _⟩⟩
theorem rounds_full (g : Gaps R on back) (hR : ∀ s ∈ l, R s) {m r : Nat} (hm : m + 1 = l.length) (hr : l.length ≤ r) (hf : ∀ i, i < l.length → full (fN on l i)) :
    roundsS on back m r l = bwdS back 0 (fL on l) ∧ ∀ s ∈ roundsS on back m r l, full s := by
  have hFl : (fL on l).length = l.length := fL_length on l
  have hp := bN_props g hR hm hf
  have hp' : ∀ i, i < l.length → _ := fun i hi => hp (m - i) i (by omega)
  have hfl : ∀ i, i < l.length → sub (fN on l i) l[i]! := fun i _ => by
    cases i with
    | zero => exact sub_refl _
    | succ i => exact meet_sub_l _ _
  have hlow := low_rounds g (b := bN back (fL on l)) (l := l) rfl (m := m) (by omega) (fun i hi => ((hp' i (by omega)).2.2 hi).1) (fun i hi => ((hp' i (by omega)).2.2 hi).2) (fun j hj => sub_trans (hp' j hj).2.1 (hfl j hj)) r
  have hup := rounds_bN g hm r
  have he : ∀ i, i < l.length → (roundsS on back m r l)[i]! = bN back (fL on l) i := fun i hi => sub_antisymm (hup i hi (by omega) (by omega)) (hlow i hi)
  have hbl : (bwdS back 0 (fL on l)).length = l.length := by rw [bwdS_length, hFl]
  constructor
  · refine List.ext_getElem (by rw [roundsS_length, hbl]) fun i h1 h2 => ?_
    have := he i (by omega)
    rw [getElem!_pos _ i h1, bN, getElem!_pos _ i h2] at this
    exact this
  · intro s hs
    obtain ⟨i, hi, rfl⟩ := List.getElem_of_mem hs
    rw [roundsS_length] at hi
    have := he i hi
    rw [getElem!_pos _ i (by rw [roundsS_length]; exact hi)] at this
    rw [this]
    exact (hp' i hi).1
theorem rounds_empty (g : Gaps R on back) {m r : Nat} (hm : m + 1 = l.length) (hr : 1 ≤ r) (hf : ∃ i, i < l.length ∧ ¬ full (fN on l i)) :
    ¬ ∀ s ∈ roundsS on back m r l, full s := by
  obtain ⟨i, hi, hn⟩ := hf
  intro h
  cases r with
  | zero => omega
  | succ r =>
    have hs := sweep_fN g (cur := roundsS on back m r l) (roundsS_length ..) (rounds_sub r m (by omega)) hm i hi
    have h1 := h (roundsS on back m (r+1) l)[i]! (by rw [getElem!_pos _ i (by rw [roundsS_length]; exact hi)]; exact List.getElem_mem _)
    rw [roundsS] at h1
    unfold full at *; unfold sub at hs; omega
end
end Go.Proofs.YtnomliioadjdgaaGreat.Vm
