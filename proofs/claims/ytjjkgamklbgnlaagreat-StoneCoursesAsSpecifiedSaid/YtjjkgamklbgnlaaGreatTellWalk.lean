/- What a course tells of a life: the program's function tell. -/
import Derived.Test.YtjjkgamklbgnlaaGreatTextWalk
namespace Go.Proofs.YtjjkgamklbgnlaaGreat.Vm
open Go
set_option linter.unusedSimpArgs false
set_option linter.unusedVariables false
set_option maxHeartbeats 4000000

structure Told where
  boxes : Sl Box
  heights : Sl Span
  letters : Sl (List UInt8)
  deriving Inhabited
@[simp] def Told.cells (s : Told) : List PV := [(s.boxes).pv Box.cells 4, (s.heights).pv Span.cells 2, (s.letters).pv strF 1]
@[simp] theorem Told.eta (s : Told) : (⟨s.boxes, s.heights, s.letters⟩ : Told) = s := rfl
@[simp] theorem putIn_Told {l : List Told} {i : Nat} (x0 : Sl Box) (x1 : Sl Span) (x2 : Sl (List UInt8)) (h : i < l.length) : putIn (.cells true (rowOf Told.cells l)) 3 (i * 3) [.pure ((x0).pv Box.cells 4), .pure ((x1).pv Span.cells 2), .pure ((x2).pv strF 1)] = some (.cells true (rowOf Told.cells (l.set i ⟨x0, x1, x2⟩))) := putIn_rowG (f := Told.cells) (a := ⟨x0, x1, x2⟩) (fun _ => rfl) (fun _ => by first | rfl | simp) (by decide) h

/-! ### Right lives -/
structure Right (l : Life) : Prop where
  habit : habitS l.habit = true
  one : 1 ≤ l.sights.xs.length
  nine : l.sights.xs.length ≤ 9
  notes : l.notes.xs.length ≤ 20
  sight : ∀ s ∈ l.sights.xs, sightR s = true
  years : ∀ i (h : i + 1 < l.sights.xs.length), l.sights.xs[i].year < l.sights.xs[i+1].year
  note : ∀ m ∈ l.notes.xs, noteS m = true
  ids : l.ids.Nodup
theorem allFrom_iff {p : Nat → Bool} {n : Nat} : ∀ k, k ≤ n → (allFrom p n k = true ↔ ∀ i, n - k ≤ i → i < n → p i = true) := by
  intro k
  induction k with
  | zero => intro _; simp only [allFrom, true_iff]; intro i h1 h2; omega
  | succ k ih =>
    intro hk
    simp only [allFrom, Bool.and_eq_true, ih (by omega)]
    constructor
    · rintro ⟨h1, h2⟩ i h3 h4
      by_cases h5 : i = n - (k + 1)
      · rw [h5]; exact h1
      · exact h2 i (by omega) h4
    · intro h
      exact ⟨h _ (Nat.le_refl _) (by omega), fun i h1 h2 => h i (by omega) h2⟩
theorem allL_iff {α : Type} {p : α → Bool} : ∀ {l : List α}, allL p l = true ↔ ∀ a ∈ l, p a = true
  | [] => by simp [allL]
  | a :: l => by simp [allL, allL_iff (l := l)]
theorem right_iff (l : Life) : checkS l = 0 ↔ Right l := by
  unfold checkS
  constructor
  · intro h
    split at h
    · simp at h
    · split at h
      · simp at h
      · split at h
        · simp at h
        · split at h
          · simp at h
          · split at h
            · rename_i h1 h2 h3 h4 h5
              have h3' := (allFrom_iff l.sights.xs.length (Nat.le_refl _)).1 (by simpa using h3)
              refine ⟨by simpa using h1, by omega, by omega, by omega, fun s hs => ?_, fun i hi => ?_, fun m hm => allL_iff.1 (by simpa using h4) m hm, h5⟩
              · obtain ⟨i, hi, rfl⟩ := List.getElem_of_mem hs
                have := h3' i (by omega) hi
                rw [sightsOk_at hi] at this
                simp at this
                exact this.1
              · have := h3' (i + 1) (by omega) hi
                rw [sightsOk_at hi] at this
                simp at this
                exact this.2
            · simp at h
  · intro h
    rw [if_neg (by simp [h.habit]), if_neg (by have := h.one; have := h.nine; have := h.notes; omega), if_neg, if_neg, if_pos h.ids]
    · rw [Bool.not_eq_false, allL_iff]; exact h.note
    · rw [Bool.not_eq_false, allFrom_iff _ (Nat.le_refl _)]
      intro i _ hi
      rw [sightsOk_at hi, h.sight _ (List.getElem_mem hi)]
      cases i with
      | zero => simp
      | succ i => simpa using h.years i hi
theorem Right.sp {l : Life} (h : Right l) {s : Sight} (hs : s ∈ l.sights.xs) : okSp s.box.x ∧ okSp s.box.y ∧ okSp s.height ∧ 0 ≤ s.height.lo ∧ s.height.hi ≤ 100 ∧ s.box.x.lo ≤ s.box.x.hi ∧ s.box.y.lo ≤ s.box.y.hi ∧ s.height.lo ≤ s.height.hi ∧ 0 ≤ s.year ∧ s.year ≤ 4000 ∧ s.letters.length ≤ 8 := by
  have := h.sight s hs
  simp [sightR, properR, validS, heightS, patR] at this
  unfold okSp
  omega
theorem Right.yr {l : Life} (h : Right l) {k : Nat} (hk : k + 1 < l.sights.xs.length) : 0 ≤ l.sights.xs[k+1].year - l.sights.xs[k].year ∧ l.sights.xs[k+1].year - l.sights.xs[k].year ≤ 4000 := by
  have h1 := h.sp (List.getElem_mem (l := l.sights.xs) (n := k) (by omega))
  have h2 := h.sp (List.getElem_mem (l := l.sights.xs) (n := k+1) hk)
  have := h.years k hk
  omega

/-! ### tell -/
def yrS (l : List Sight) (k : Nat) : Int := l[k+1]!.year - l[k]!.year
def onX (l : Life) (c : List Int) (k : Nat) (s : Span) : Span := onD (farD l.habit c[k]!) s
def onH (l : Life) (c : List Int) (k : Nat) (s : Span) : Span := if k + 1 < l.sights.xs.length then upH l.habit c[k]! (yrS l.sights.xs k) s else s
def backH (l : Life) (c : List Int) (k : Nat) (s : Span) : Span := if k + 1 < l.sights.xs.length then downH l.habit c[k]! (yrS l.sights.xs k) s else s
def thX (l : Life) (c : List Int) : Option (List Span) := throughS (onX l c) (onX l c) (l.sights.xs.map (·.box.x))
def thY (l : Life) (c : List Int) : Option (List Span) := throughS (onX l c) (onX l c) (l.sights.xs.map (·.box.y))
def thH (l : Life) (c : List Int) : Option (List Span) := throughS (onH l c) (backH l c) (l.sights.xs.map (·.height))
structure TellR where
  boxes : List Box
  heights : List Span
  letters : List (List UInt8)
def tellS (l : Life) (c : List Int) : Option TellR := if allL (fun m => notedS l.sights.xs m c) l.notes.xs = true then match thX l c, thY l c, thH l c, lettersS l.sights.xs c with
  | some x, some y, some h, some t => some ⟨x.zipWith Box.mk y, h, t⟩
  | _, _, _, _ => none else none
def TellR.told (t : TellR) : Told := ⟨Sl.of t.boxes, Sl.of t.heights, Sl.of t.letters⟩
def tellPV : Option TellR → PV
  | none => .tup [.agg [.nils, .nils, .nils], .bool false]
  | some t => .tup [.agg t.told.cells, .bool true]
theorem throughS_length {on back : Nat → Span → Span} {l m : List Span} (h : throughS on back l = some m) : m.length = l.length := by
  have main : ∀ (l : List Span) (k : Nat) (p : Option Span) (m : List Span), fwdS on k p l = some m → m.length = l.length := by
    intro l
    induction l with
    | nil => intro k p m h; simp [fwdS] at h; subst h; rfl
    | cons s r ih =>
      intro k p m h
      rw [fwdS] at h
      split at h
      · simp at h
      · rw [Option.map_eq_some_iff] at h
        obtain ⟨m', h1, rfl⟩ := h
        simp [ih _ _ _ h1]
  unfold throughS at h
  rw [Option.map_eq_some_iff] at h
  obtain ⟨m', h1, rfl⟩ := h
  rw [bwdS_length, main _ _ _ _ h1]
theorem far_le {h : Habit} {k : Int} (hh : habitS h = true) : 0 ≤ farD h k ∧ farD h k ≤ 1000000 := by
  simp [habitS, inB] at hh
  unfold farD
  split
  · omega
  · split <;> omega
theorem onX_wide {l : Life} (hr : Right l) (c : List Int) (k : Nat) (t : Span) (ht : okSp t) : wideS (onX l c k t) := by
  have := far_le (k := c[k]!) hr.habit
  unfold okSp at ht; unfold wideS onX onD; simp only; omega
theorem onH_wide {l : Life} (hr : Right l) (c : List Int) (k : Nat) (t : Span) (ht : okSp t) : wideS (onH l c k t) ∧ wideS (backH l c k t) := by
  unfold okSp at ht
  unfold onH backH
  by_cases hk : k + 1 < l.sights.xs.length
  · rw [if_pos hk, if_pos hk]
    have h1 := hr.yr hk
    have h2 : yrS l.sights.xs k = l.sights.xs[k+1].year - l.sights.xs[k].year := by rw [yrS, getElem!_pos _ k (by omega), getElem!_pos _ (k+1) hk]
    have := sink_le hr.habit h1
    rw [← h2] at this
    unfold wideS upH downH
    split <;> (simp only; omega)
  · rw [if_neg hk, if_neg hk]
    unfold wideS; omega
theorem boxes_len {l : Life} {c : List Int} {x y : List Span} (hx : thX l c = some x) (hy : thY l c = some y) : x.length = l.sights.xs.length ∧ y.length = l.sights.xs.length := by
  have h1 := throughS_length hx
  have h2 := throughS_length hy
  simp at h1 h2
  exact ⟨h1, h2⟩

theorem thX_call (n : Nat) (H : Heap) (l : Life) (c : Sl Int) (hr : Right l) (hc : c.xs.length + 1 = l.sights.xs.length) (hk : ∀ k ∈ c.xs, 0 ≤ k ∧ k ≤ 2) :
    doCall (calleeOf G (n + 6)) H (.pure (.func 83 [])) [.pure (.agg l.cells), .pure (l.sights.pv Sight.cells 9), .pure (.func 84 []), .pure (.func 81 [.ptr false [c.pv intF 1] 0, .ptr false l.cells 0])] = some (.val (.pure (thrPV (thX l c.xs)))) := by
  refine call_pureC (ps := [_, _, _, _]) (caps := []) (by decide) ?_
  refine through_eq n l _ _ (·.box.x) (onX l c.xs) (onX l c.xs) (fun k => .func 139 [.ptr false [.int .i64 (farD l.habit c.xs[k]!)] 0]) (fun k => .func 139 [.ptr false [.int .i64 (farD l.habit c.xs[k]!)] 0]) (yrS l.sights.xs) hr.one hr.nine (fun s hs => (hr.sp hs).1) (onX_wide hr _) (onX_wide hr _) ?_ ?_ ?_ ?_ ?_ (fun _ => rfl) (fun _ => rfl)
  · intro k h
    have := hr.yr h
    rw [wrap64 (by omega) (by omega), yrS, getElem!_pos _ k (by omega), getElem!_pos _ (k+1) h]
  · intro H s; exact d84 _ H s.id s.year s.box.x.lo s.box.x.hi s.box.y.lo s.box.y.hi s.letters s.height.lo s.height.hi
  · intro H k h
    have h1 := d81 (n + 2) H l.habit.step l.habit.place l.habit.sink l.sights l.notes c k (by omega) (by rw [getElem!_pos c.xs k (by omega)]; exact hk _ (List.getElem_mem _))
    exact h1
  · intro H k s h hs
    exact d139 _ H s.lo s.hi _ _ hs (far_le hr.habit)
  · intro H k s h hs
    exact d139 _ H s.lo s.hi _ _ hs (far_le hr.habit)
theorem thY_call (n : Nat) (H : Heap) (l : Life) (c : Sl Int) (hr : Right l) (hc : c.xs.length + 1 = l.sights.xs.length) (hk : ∀ k ∈ c.xs, 0 ≤ k ∧ k ≤ 2) :
    doCall (calleeOf G (n + 6)) H (.pure (.func 83 [])) [.pure (.agg l.cells), .pure (l.sights.pv Sight.cells 9), .pure (.func 85 []), .pure (.func 81 [.ptr false [c.pv intF 1] 0, .ptr false l.cells 0])] = some (.val (.pure (thrPV (thY l c.xs)))) := by
  refine call_pureC (ps := [_, _, _, _]) (caps := []) (by decide) ?_
  refine through_eq n l _ _ (·.box.y) (onX l c.xs) (onX l c.xs) (fun k => .func 139 [.ptr false [.int .i64 (farD l.habit c.xs[k]!)] 0]) (fun k => .func 139 [.ptr false [.int .i64 (farD l.habit c.xs[k]!)] 0]) (yrS l.sights.xs) hr.one hr.nine (fun s hs => (hr.sp hs).2.1) (onX_wide hr _) (onX_wide hr _) ?_ ?_ ?_ ?_ ?_ (fun _ => rfl) (fun _ => rfl)
  · intro k h
    have := hr.yr h
    rw [wrap64 (by omega) (by omega), yrS, getElem!_pos _ k (by omega), getElem!_pos _ (k+1) h]
  · intro H s; exact d85 _ H s.id s.year s.box.x.lo s.box.x.hi s.box.y.lo s.box.y.hi s.letters s.height.lo s.height.hi
  · intro H k h
    have h1 := d81 (n + 2) H l.habit.step l.habit.place l.habit.sink l.sights l.notes c k (by omega) (by rw [getElem!_pos c.xs k (by omega)]; exact hk _ (List.getElem_mem _))
    exact h1
  · intro H k s h hs
    exact d139 _ H s.lo s.hi _ _ hs (far_le hr.habit)
  · intro H k s h hs
    exact d139 _ H s.lo s.hi _ _ hs (far_le hr.habit)
theorem thH_call (n : Nat) (H : Heap) (l : Life) (c : Sl Int) (hr : Right l) (hc : c.xs.length + 1 = l.sights.xs.length) :
    doCall (calleeOf G (n + 6)) H (.pure (.func 83 [])) [.pure (.agg l.cells), .pure (l.sights.pv Sight.cells 9), .pure (.func 86 []), .pure (.func 87 [.ptr false l.cells 0, .ptr false [c.pv intF 1] 0])] = some (.val (.pure (thrPV (thH l c.xs)))) := by
  refine call_pureC (ps := [_, _, _, _]) (caps := []) (by decide) ?_
  refine through_eq n l _ _ (·.height) (onH l c.xs) (backH l c.xs) (fun k => upF l.habit c.xs[k]!) (fun k => downF l.habit c.xs[k]!) (yrS l.sights.xs) hr.one hr.nine (fun s hs => (hr.sp hs).2.2.1) (fun k t h => (onH_wide hr _ k t h).1) (fun k t h => (onH_wide hr _ k t h).2) ?_ ?_ ?_ ?_ ?_ (fun _ => upF_cells ..) (fun _ => downF_cells ..)
  · intro k h
    have := hr.yr h
    rw [wrap64 (by omega) (by omega), yrS, getElem!_pos _ k (by omega), getElem!_pos _ (k+1) h]
  · intro H s; exact d86 _ H s.id s.year s.box.x.lo s.box.x.hi s.box.y.lo s.box.y.hi s.letters s.height.lo s.height.hi
  · intro H k h
    have h1 := d87 (n + 3) H l.habit.step l.habit.place l.habit.sink l.sights l.notes c k (by omega)
    exact h1
  · intro H k s h hs
    have h1 := hr.yr h
    have h2 : yrS l.sights.xs k = l.sights.xs[k+1].year - l.sights.xs[k].year := by rw [yrS, getElem!_pos _ k (by omega), getElem!_pos _ (k+1) h]
    rw [← h2] at h1
    simp only [upF, onH, if_pos h]
    by_cases hk0 : c.xs[k]! = 0
    · rw [if_pos hk0, hk0]
      exact d113 _ H s.lo s.hi _ l.habit.step l.habit.place l.habit.sink hs hr.habit h1
    · rw [if_neg hk0]
      have := d112 (n + 4) H s.lo s.hi (yrS l.sights.xs k)
      rw [show upH l.habit c.xs[k]! (yrS l.sights.xs k) s = ⟨0, 100⟩ from by rw [upH, if_neg hk0]]
      exact this
  · intro H k s h hs
    have h1 := hr.yr h
    have h2 : yrS l.sights.xs k = l.sights.xs[k+1].year - l.sights.xs[k].year := by rw [yrS, getElem!_pos _ k (by omega), getElem!_pos _ (k+1) h]
    rw [← h2] at h1
    simp only [downF, backH, if_pos h]
    by_cases hk0 : c.xs[k]! = 0
    · rw [if_pos hk0, hk0]
      exact d114 _ H s.lo s.hi _ l.habit.step l.habit.place l.habit.sink hs hr.habit h1
    · rw [if_neg hk0]
      have := d112 (n + 4) H s.lo s.hi (yrS l.sights.xs k)
      rw [show downH l.habit c.xs[k]! (yrS l.sights.xs k) s = ⟨0, 100⟩ from by rw [downH, if_neg hk0]]
      exact this

theorem sh42 : G.shared 42 = false := by decide
theorem e42 (n : Nat) (l : Life) (c : Sl Int) (hr : Right l) (hc : c.xs.length + 1 = l.sights.xs.length) (hk : ∀ k ∈ c.xs, 0 ≤ k ∧ k ≤ 2) : callP G (n + 7) 42 [.agg l.cells, c.pv intF 1] = some (tellPV (tellS l c.xs)) := by
  refine callP_of (ext_none _) rfl g42 rfl ?_
  have h1 := hr.one
  have h9 := hr.nine
  have h20 := hr.notes
  have hl8 : ∀ s ∈ l.sights.xs, s.letters.length ≤ 20 := fun s hs => by have := hr.sp hs; omega
  have hP : Hide (tellPV (tellS l c.xs) = tellPV (if allL (fun m => notedS l.sights.xs m c.xs) l.notes.xs = true then match thX l c.xs, thY l c.xs, thH l c.xs, lettersS l.sights.xs c.xs with
    | some x, some y, some h, some t => some ⟨x.zipWith Box.mk y, h, t⟩
    | _, _, _, _ => none else none)) := ⟨rfl⟩
  generalize tellPV (tellS l c.xs) = P at *
  have hcx := fun H => thX_call n H l c hr hc hk
  have hcy := fun H => thY_call n H l c hr hc hk
  have hch := fun H => thH_call n H l c hr hc
  have hcl : ∀ H, doCall (calleeOf G (n + 6)) H (.pure (.func 89 [])) [.pure (.agg l.cells), .pure (c.pv intF 1)] = some (.val (.pure (letPV (lettersS l.sights.xs c.xs)))) := fun H => d89 (n + 2) H l.habit.step l.habit.place l.habit.sink l.sights l.notes c hc h9 hl8
  simp only [Life.cells] at hcx hcy hch hcl
  (repeat' first | simp [*, initEnv, c42] | (refine wpIf_two (fun _ h => ?_) (fun _ h => ?_) <;> try simp [-Nat.le_zero_eq] at h) | (apply wpE_appendV; (focus (first | assumption | (repeat' first | assumption | with_reducible apply GrowV.setNew | with_reducible apply GrowV.alloc | with_reducible apply GrowV.set | (with_reducible show ¬ Names _ _; simp [*]; done)))); (focus (exact fun _ => rfl)); (focus decide); (focus (intro a; first | rfl | simp)); (focus (simp [maxCells] <;> omega))) | (refine after_intro fun v2 H2 hv2 hnx2 hget2 hnew2 hone2 hcel2 => ?_))
  refine wp_loopF [(5, 5), (7, 7), (18, 28)] (fun (i : Nat) env H => env 18 = .pure (.int .i64 i) ∧ i ≤ l.notes.xs.length ∧ H.get 0 = .cells true [.pure .nils, .pure .nils, .pure .nils] ∧ Hide (allL (fun m => notedS l.sights.xs m c.xs) l.notes.xs = allL (fun m => notedS l.sights.xs m c.xs) (l.notes.xs.drop i))) (fun i => l.notes.xs.length - i) 0 ?_ ?_ ?_ ?_
  · decide
  · simp
  · simp only [loopFuel]; omega
  rintro i env H ⟨h18, hi, hg0, hn⟩
  have hfit : i < 9223372036854775807 := by omega
  have hnx := nx_of_get hg0
  have hnx0 : ¬ (0 = H.nx) := by omega
  have hnx1 : 0 < H.nx + 1 := by omega
  have hc2 : c.xs.length + 1 ≤ l.sights.xs.length := by omega
  have hl3 : l.sights.xs.length < 1000 := by omega
  have hl4 : c.xs.length < 1000 := by omega
  (repeat' first | simp [*, initEnv] | (refine wpIf_two (fun _ h => ?_) (fun _ h => ?_) <;> try simp [-Nat.le_zero_eq] at h) | (apply wpE_appendV; (focus (first | assumption | (repeat' first | assumption | with_reducible apply GrowV.setNew | with_reducible apply GrowV.alloc | with_reducible apply GrowV.set | (with_reducible show ¬ Names _ _; simp [*]; done)))); (focus (exact fun _ => rfl)); (focus decide); (focus (intro a; first | rfl | simp)); (focus (simp [maxCells] <;> omega))) | (refine after_intro fun v2 H2 hv2 hnx2 hget2 hnew2 hone2 hcel2 => ?_))
  · have hlt : i < l.notes.xs.length := by assumption
    have hf : notedS l.sights.xs l.notes.xs[i] c.xs = true := by assumption
    exact ⟨i + 1, by omega, by simp, by omega, ⟨by rw [hn.h, allL_drop hlt, hf]; rfl⟩⟩
  · -- a note that is not so
    have hlt : i < l.notes.xs.length := by assumption
    have hf : notedS l.sights.xs l.notes.xs[i] c.xs = false := by assumption
    rw [hP.h, hn.h, allL_drop hlt, hf]
    rfl
  have hA : allL (fun m => notedS l.sights.xs m c.xs) l.notes.xs = true := by rw [hn.h, allL_end (by omega)]
  have hP2 : Hide (P = tellPV (match thX l c.xs, thY l c.xs, thH l c.xs, lettersS l.sights.xs c.xs with
    | some x, some y, some h, some t => some ⟨x.zipWith Box.mk y, h, t⟩
    | _, _, _, _ => none)) := ⟨by rw [hP.h, if_pos hA]⟩
  clear hP hn hA
  cases hx : thX l c.xs with
  | none =>
    have : P = .tup [.agg [.nils, .nils, .nils], .bool false] := by rw [hP2.h, hx]; rfl
    (repeat' first | simp [*, initEnv, thrPV] | (refine wpIf_two (fun _ h => ?_) (fun _ h => ?_) <;> try simp [-Nat.le_zero_eq] at h) | (apply wpE_appendV; (focus (first | assumption | (repeat' first | assumption | with_reducible apply GrowV.setNew | with_reducible apply GrowV.alloc | with_reducible apply GrowV.set | (with_reducible show ¬ Names _ _; simp [*]; done)))); (focus (exact fun _ => rfl)); (focus decide); (focus (intro a; first | rfl | simp)); (focus (simp [maxCells] <;> omega))) | (refine after_intro fun v2 H2 hv2 hnx2 hget2 hnew2 hone2 hcel2 => ?_))
  | some x =>
    cases hy : thY l c.xs with
    | none =>
      have : P = .tup [.agg [.nils, .nils, .nils], .bool false] := by rw [hP2.h, hx, hy]; rfl
      (repeat' first | simp [*, initEnv, thrPV] | (refine wpIf_two (fun _ h => ?_) (fun _ h => ?_) <;> try simp [-Nat.le_zero_eq] at h) | (apply wpE_appendV; (focus (first | assumption | (repeat' first | assumption | with_reducible apply GrowV.setNew | with_reducible apply GrowV.alloc | with_reducible apply GrowV.set | (with_reducible show ¬ Names _ _; simp [*]; done)))); (focus (exact fun _ => rfl)); (focus decide); (focus (intro a; first | rfl | simp)); (focus (simp [maxCells] <;> omega))) | (refine after_intro fun v2 H2 hv2 hnx2 hget2 hnew2 hone2 hcel2 => ?_))
    | some y =>
      cases hh : thH l c.xs with
      | none =>
        have : P = .tup [.agg [.nils, .nils, .nils], .bool false] := by rw [hP2.h, hx, hy, hh]; rfl
        (repeat' first | simp [*, initEnv, thrPV] | (refine wpIf_two (fun _ h => ?_) (fun _ h => ?_) <;> try simp [-Nat.le_zero_eq] at h) | (apply wpE_appendV; (focus (first | assumption | (repeat' first | assumption | with_reducible apply GrowV.setNew | with_reducible apply GrowV.alloc | with_reducible apply GrowV.set | (with_reducible show ¬ Names _ _; simp [*]; done)))); (focus (exact fun _ => rfl)); (focus decide); (focus (intro a; first | rfl | simp)); (focus (simp [maxCells] <;> omega))) | (refine after_intro fun v2 H2 hv2 hnx2 hget2 hnew2 hone2 hcel2 => ?_))
      | some hs =>
        cases ht : lettersS l.sights.xs c.xs with
        | none =>
          have : P = .tup [.agg [.nils, .nils, .nils], .bool false] := by rw [hP2.h, hx, hy, hh, ht]; rfl
          (repeat' first | simp [*, initEnv, thrPV, letPV] | (refine wpIf_two (fun _ h => ?_) (fun _ h => ?_) <;> try simp [-Nat.le_zero_eq] at h) | (apply wpE_appendV; (focus (first | assumption | (repeat' first | assumption | with_reducible apply GrowV.setNew | with_reducible apply GrowV.alloc | with_reducible apply GrowV.set | (with_reducible show ¬ Names _ _; simp [*]; done)))); (focus (exact fun _ => rfl)); (focus decide); (focus (intro a; first | rfl | simp)); (focus (simp [maxCells] <;> omega))) | (refine after_intro fun v2 H2 hv2 hnx2 hget2 hnew2 hone2 hcel2 => ?_))
        | some t =>
          have hP3 : Hide (P = tellPV (some ⟨x.zipWith Box.mk y, hs, t⟩)) := ⟨by rw [hP2.h, hx, hy, hh, ht]⟩
          obtain ⟨hxl, hyl⟩ := boxes_len hx hy
          have hhl : hs.length = l.sights.xs.length := by have := throughS_length hh; simpa using this
          (repeat' first | simp [*, initEnv, thrPV, letPV] | (refine wpIf_two (fun _ h => ?_) (fun _ h => ?_) <;> try simp [-Nat.le_zero_eq] at h) | (apply wpE_appendV; (focus (first | assumption | (repeat' first | assumption | with_reducible apply GrowV.setNew | with_reducible apply GrowV.alloc | with_reducible apply GrowV.set | (with_reducible show ¬ Names _ _; simp [*]; done)))); (focus (exact fun _ => rfl)); (focus decide); (focus (intro a; first | rfl | simp)); (focus (simp [maxCells] <;> omega))) | (refine after_intro fun v2 H2 hv2 hnx2 hget2 hnew2 hone2 hcel2 => ?_))
          have hzl : (x.zipWith Box.mk y).length = l.sights.xs.length := by simp [hxl, hyl]
          refine wp_loopF [(14, 14), (76, 102)] (fun (s : Nat × AV × AV) env2 H2 => env2 76 = .pure (.int .i64 s.1) ∧ s.1 ≤ l.sights.xs.length ∧ H2.get 0 = .cells true [.pure .nils, .pure .nils, .pure .nils] ∧
            H2.get H.nx = .cells true [s.2.1, s.2.2, .pure ((Sl.of t).pv strF 1)] ∧ GrowV Box.cells 4 H2 s.2.1 ((x.zipWith Box.mk y).take s.1) ∧ GrowV Span.cells 2 H2 s.2.2 (hs.take s.1) ∧
            (∀ id, Names s.2.2 id → ¬ Names s.2.1 id) ∧ ¬ Names s.2.1 0 ∧ ¬ Names s.2.2 0 ∧ ¬ Names s.2.1 H.nx ∧ ¬ Names s.2.2 H.nx) (fun s => l.sights.xs.length - s.1) (0, .pure .nils, .pure .nils) ?_ ?_ ?_ ?_
          · decide
          · have hno : ∀ id, ¬ Names (.pure .nils) id := fun id ⟨_, _, _, h⟩ => by simp at h
            simp [*, GrowV.nil]
          · simp only [loopFuel]; omega
          rintro ⟨j, va, vb⟩ env2 H2 ⟨h76, hj, hg02, hgB, hva, hvb, hdis, hna0, hnb0, hnaB, hnbB⟩
          simp only at h76 hj hgB hva hvb hdis hna0 hnb0 hnaB hnbB
          have hfit2 : j < 9223372036854775807 := by omega
          have hB2 := nx_of_get hgB
          have h02 := nx_of_get hg02
          have hB3 : ¬ (H.nx = H2.nx) := by omega
          have h03 : ¬ (0 = H2.nx) := by omega
          have hB4 : H.nx < H2.nx + 1 := by omega
          have h04 : 0 < H2.nx + 1 := by omega
          have hfa := hva.1.fresh
          have hfb := hvb.1.fresh
          have hjx : j < l.sights.xs.length → j < x.length := fun h => by omega
          have hjy : j < l.sights.xs.length → j < y.length := fun h => by omega
          have hjh : j < l.sights.xs.length → j < hs.length := fun h => by omega
          have hon1 := hva.1.one
          have hon2 := hvb.1.one
          clear hcx hcy hch hcl hx hy hh ht hP2
          (repeat' first | simp [*, initEnv] | (refine wpIf_two (fun _ h => ?_) (fun _ h => ?_) <;> try simp [-Nat.le_zero_eq] at h) | (apply wpE_appendV; (focus (first | assumption | (repeat' first | assumption | with_reducible apply GrowV.setNew | with_reducible apply GrowV.alloc | with_reducible apply GrowV.set | (with_reducible show ¬ Names _ _; simp [*]; done)))); (focus (exact fun _ => rfl)); (focus decide); (focus (intro a; first | rfl | simp)); (focus (simp [maxCells] <;> omega))) | (refine after_intro fun v2 H2 hv2 hnx2 hget2 hnew2 hone2 hcel2 => ?_))
          · have hlt : j < l.sights.xs.length := by assumption
            have hB5 : H.nx < H2.nx := by simp at hnx2; omega
            have h05 : 0 < H2.nx := by omega
            obtain ⟨hvb3, hdis3⟩ := After.grow ⟨hnx2, hget2, hnew2⟩ (hvb.alloc _) hdis
            have hv3 := hv2
            have hnB3 : ¬ Names v2 H.nx := fun h => by have := hnew2 _ h; simp at this <;> omega
            have hn03 : ¬ Names v2 0 := fun h => by have := hnew2 _ h; simp at this <;> omega
            have hg03 : H2.get 0 = .cells true [.pure .nils, .pure .nils, .pure .nils] := by
              rw [hget2 0 (by simp <;> omega) hna0, get_alloc_lt h02]; exact hg02
            have hfb3 := hvb3.1.fresh
            have hfv3 := hv3.1.fresh
            have hB6 : ¬ (H.nx = H2.nx) := by omega
            have h06 : ¬ (0 = H2.nx) := by omega
            have hB7 : H.nx < H2.nx + 1 := by omega
            have h07 : 0 < H2.nx + 1 := by omega
            have h0B : ¬ (0 = H.nx) := by omega
            clear hv2 hget2 hnew2 hnx2 hone2 hva hvb hdis
            generalize v2 = v3 at *
            generalize H2 = H3 at *
            (repeat' first | simp [*, initEnv] | (refine wpIf_two (fun _ h => ?_) (fun _ h => ?_) <;> try simp [-Nat.le_zero_eq] at h) | (apply wpE_appendV; (focus (first | assumption | (repeat' first | assumption | with_reducible apply GrowV.setNew | with_reducible apply GrowV.alloc | with_reducible apply GrowV.set | (with_reducible show ¬ Names _ _; simp [*]; done)))); (focus (exact fun _ => rfl)); (focus decide); (focus (intro a; first | rfl | simp)); (focus (simp [maxCells] <;> omega))) | (refine after_intro fun v2 H2 hv2 hnx2 hget2 hnew2 hone2 hcel2 => ?_))
            have hgB3 : H2.get H.nx = .cells true [v3, vb, .pure ((Sl.of t).pv strF 1)] := by
              rw [hget2 H.nx (by simp <;> omega) hnbB, get_alloc_lt (by simp <;> omega), get_set_own hB5]
            have hg04 : H2.get 0 = .cells true [.pure .nils, .pure .nils, .pure .nils] := by
              rw [hget2 0 (by simp <;> omega) hnb0, get_alloc_lt (by simp <;> omega), get_set_ne (by omega)]; exact hg03
            obtain ⟨hva4, hdis4⟩ := After.grow ⟨hnx2, hget2, hnew2⟩ ((hv3.set hnB3 _).alloc _) (fun id h h' => hdis3 id h' h)
            have hnB4 : ¬ Names v2 H.nx := fun h => by have := hnew2 _ h; simp at this <;> omega
            have hn04 : ¬ Names v2 0 := fun h => by have := hnew2 _ h; simp at this <;> omega
            have hB8 : H.nx < H2.nx := nx_of_get hgB3
            have e1 : (H2.set H.nx (.cells true [v3, v2, .pure ((Sl.of t).pv strF 1)])).get 0 = .cells true [.pure .nils, .pure .nils, .pure .nils] := by rw [get_set_ne (by omega)]; exact hg04
            refine ⟨j + 1, by omega, by simp, by omega, v3, v2, ?_⟩
            refine ⟨get_set_own hB8, (hva4.set hnB3 _).cast ?_, (hv2.set hnB4 _).cast ?_, fun id h h' => hdis4 id h' h, hn03, hn04, hnB3, hnB4⟩
            · rw [← take_succ' (by omega)]; simp
            · first | rfl | rw [take_succ']
          · have hje : j = l.sights.xs.length := by omega
            subst hje
            rw [List.take_of_length_le (by omega)] at hva hvb
            have fa : FrzK (H2.set 0 (.cells true [va, vb, .pure ((Sl.of t).pv strF 1)])) false 11 (aggV [va, vb, .pure ((Sl.of t).pv strF 1)]) (.agg [(Sl.of (x.zipWith Box.mk y)).pv Box.cells 4, (Sl.of hs).pv Span.cells 2, (Sl.of t).pv strF 1]) :=
              FrzK.aggV (.cons ((hva.set hna0 _).res (fun _ => rfl)) (.cons ((hvb.set hnb0 _).res (fun _ => rfl)) (.cons (.pure _) .nil)))
            obtain ⟨ids, hids⟩ := fa
            have hP4 : P = .tup [.agg [(Sl.of (x.zipWith Box.mk y)).pv Box.cells 4, (Sl.of hs).pv Span.cells 2, (Sl.of t).pv strF 1], .bool true] := hP3.h
            (repeat' first | simp [*, initEnv] | (refine wpIf_two (fun _ h => ?_) (fun _ h => ?_) <;> try simp [-Nat.le_zero_eq] at h) | (apply wpE_appendV; (focus (first | assumption | (repeat' first | assumption | with_reducible apply GrowV.setNew | with_reducible apply GrowV.alloc | with_reducible apply GrowV.set | (with_reducible show ¬ Names _ _; simp [*]; done)))); (focus (exact fun _ => rfl)); (focus decide); (focus (intro a; first | rfl | simp)); (focus (simp [maxCells] <;> omega))) | (refine after_intro fun v2 H2 hv2 hnx2 hget2 hnew2 hone2 hcel2 => ?_))
@[simp] theorem d42 (n : Nat) (H : Heap) (l_habit_step : Int) (l_habit_place : Int) (l_habit_sink : Int) (l_sights : Sl Sight) (l_notes : Sl Note) (c : Sl Int) (hr : (fun (l : Life) => Right l) (⟨⟨l_habit_step, l_habit_place, l_habit_sink⟩, l_sights, l_notes⟩ : Life)) (hc : (fun (l : Life) => c.xs.length + 1 = l.sights.xs.length) (⟨⟨l_habit_step, l_habit_place, l_habit_sink⟩, l_sights, l_notes⟩ : Life)) (hk : ∀ k ∈ c.xs, 0 ≤ k ∧ k ≤ 2) : doCall (calleeOf G (n + 7)) H (.pure (.func 42 [])) [.pure (.agg [.int .i64 l_habit_step, .int .i64 l_habit_place, .int .i64 l_habit_sink, (l_sights).pv Sight.cells 9, (l_notes).pv Note.cells 4]), .pure (c.pv intF 1)] = some (.val (.pure ((fun (l : Life) => tellPV (tellS l c.xs)) (⟨⟨l_habit_step, l_habit_place, l_habit_sink⟩, l_sights, l_notes⟩ : Life)))) :=
  call_pureC (ps := [_, _]) (caps := []) sh42 (e42 n (⟨⟨l_habit_step, l_habit_place, l_habit_sink⟩, l_sights, l_notes⟩ : Life) c hr hc hk)

/-! ### What asks tell -/
def shortS (l : Life) : Prop := l.sights.xs.length ≤ 9 → l.notes.xs.length ≤ 20 → ∀ s ∈ l.sights.xs, s.letters.length ≤ 20
def givenS (l : Life) (c : List Int) : Int := if checkS l = 0 then (if kindsS l c = true then 0 else 50) else checkS l
theorem given_zero {l : Life} {c : List Int} (h : givenS l c = 0) : Right l ∧ c.length + 1 = l.sights.xs.length ∧ ∀ k ∈ c, 0 ≤ k ∧ k ≤ 2 := by
  unfold givenS at h
  split at h
  · rename_i hc
    have hr := (right_iff l).1 hc
    split at h
    · rename_i hk
      simp [kindsS] at hk
      refine ⟨hr, by have := hr.one; omega, fun k hm => ?_⟩
      have := hk.2 k hm
      simp [gapB] at this
      exact this
    · simp at h
  · rename_i hc; exact absurd h hc
theorem sh41 : G.shared 41 = false := by decide
theorem e41 (n : Nat) (l : Life) (c : Sl Int) (hs : shortS l) (hc : c.xs.length < 1000) : callP G (n + 6) 41 [.agg l.cells, c.pv intF 1] = some (.int .i64 (givenS l c.xs)) := by
  refine callP_of (ext_none _) rfl g41 rfl ?_
  have hl : checkS l = 0 → l.sights.xs.length < 1000 := fun h => by have := ((right_iff l).1 h).nine; omega
  have hcc : ∀ H, doCall (calleeOf G (n + 5)) H (.pure (.func 15 [])) [.pure (.agg l.cells)] = some (.val (.pure (.int .i64 (checkS l)))) := fun H => d15 n H l.habit.step l.habit.place l.habit.sink l.sights l.notes hs
  simp only [Life.cells] at hcc
  have hP : Hide (givenS l c.xs = if checkS l = 0 then (if kindsS l c.xs = true then 0 else 50) else checkS l) := ⟨rfl⟩
  generalize givenS l c.xs = P at *
  (repeat' first | simp [*, initEnv, c41] | (refine wpIf_two (fun _ h => ?_) (fun _ h => ?_) <;> try simp [-Nat.le_zero_eq] at h) | (apply wpE_appendV; (focus (first | assumption | (repeat' first | assumption | with_reducible apply GrowV.setNew | with_reducible apply GrowV.alloc | with_reducible apply GrowV.set | (with_reducible show ¬ Names _ _; simp [*]; done)))); (focus (exact fun _ => rfl)); (focus decide); (focus (intro a; first | rfl | simp)); (focus (simp [maxCells] <;> omega))) | (refine after_intro fun v2 H2 hv2 hnx2 hget2 hnew2 hone2 hcel2 => ?_))
  all_goals (rw [hP.h]; simp [*])
@[simp] theorem d41 (n : Nat) (H : Heap) (l_habit_step : Int) (l_habit_place : Int) (l_habit_sink : Int) (l_sights : Sl Sight) (l_notes : Sl Note) (c : Sl Int) (hs : (fun (l : Life) => shortS l) (⟨⟨l_habit_step, l_habit_place, l_habit_sink⟩, l_sights, l_notes⟩ : Life)) (hc : c.xs.length < 1000) : doCall (calleeOf G (n + 6)) H (.pure (.func 41 [])) [.pure (.agg [.int .i64 l_habit_step, .int .i64 l_habit_place, .int .i64 l_habit_sink, (l_sights).pv Sight.cells 9, (l_notes).pv Note.cells 4]), .pure (c.pv intF 1)] = some (.val (.pure ((fun (l : Life) => .int .i64 (givenS l c.xs)) (⟨⟨l_habit_step, l_habit_place, l_habit_sink⟩, l_sights, l_notes⟩ : Life)))) :=
  call_pureC (ps := [_, _]) (caps := []) sh41 (e41 n (⟨⟨l_habit_step, l_habit_place, l_habit_sink⟩, l_sights, l_notes⟩ : Life) c hs hc)
def tellEPV (l : Life) (c : List Int) : PV := if givenS l c = 0 then (match tellS l c with
  | some t => .tup [.agg t.told.cells, .int .i64 0]
  | none => .tup [.agg [.nils, .nils, .nils], .int .i64 9]) else .tup [.agg [.nils, .nils, .nils], .int .i64 (givenS l c)]
theorem sh45 : G.shared 45 = false := by decide
theorem e45 (n : Nat) (l : Life) (c : Sl Int) (hs : shortS l) (hc : c.xs.length < 1000) : callP G (n + 8) 45 [.agg l.cells, c.pv intF 1] = some (tellEPV l c.xs) := by
  refine callP_of (ext_none _) rfl g45 rfl ?_
  have hP : Hide (tellEPV l c.xs = if givenS l c.xs = 0 then (match tellS l c.xs with
    | some t => .tup [.agg t.told.cells, .int .i64 0]
    | none => .tup [.agg [.nils, .nils, .nils], .int .i64 9]) else .tup [.agg [.nils, .nils, .nils], .int .i64 (givenS l c.xs)]) := ⟨rfl⟩
  generalize tellEPV l c.xs = P at *
  by_cases hg : givenS l c.xs = 0
  · obtain ⟨hr, h1, h2⟩ := given_zero hg
    have hct : ∀ H, doCall (calleeOf G (n + 7)) H (.pure (.func 42 [])) [.pure (.agg l.cells), .pure (c.pv intF 1)] = some (.val (.pure (tellPV (tellS l c.xs)))) := fun H => d42 n H l.habit.step l.habit.place l.habit.sink l.sights l.notes c hr h1 h2
    simp only [Life.cells] at hct
    cases ht : tellS l c.xs with
    | none =>
      have hP2 : P = .tup [.agg [.nils, .nils, .nils], .int .i64 9] := by rw [hP.h, if_pos hg, ht]
      (repeat' first | simp [*, initEnv, c45, tellPV] | (refine wpIf_two (fun _ h => ?_) (fun _ h => ?_) <;> try simp [-Nat.le_zero_eq] at h) | (apply wpE_appendV; (focus (first | assumption | (repeat' first | assumption | with_reducible apply GrowV.setNew | with_reducible apply GrowV.alloc | with_reducible apply GrowV.set | (with_reducible show ¬ Names _ _; simp [*]; done)))); (focus (exact fun _ => rfl)); (focus decide); (focus (intro a; first | rfl | simp)); (focus (simp [maxCells] <;> omega))) | (refine after_intro fun v2 H2 hv2 hnx2 hget2 hnew2 hone2 hcel2 => ?_))
    | some t =>
      have hP2 : P = .tup [.agg t.told.cells, .int .i64 0] := by rw [hP.h, if_pos hg, ht]
      (repeat' first | simp [*, initEnv, c45, tellPV] | (refine wpIf_two (fun _ h => ?_) (fun _ h => ?_) <;> try simp [-Nat.le_zero_eq] at h) | (apply wpE_appendV; (focus (first | assumption | (repeat' first | assumption | with_reducible apply GrowV.setNew | with_reducible apply GrowV.alloc | with_reducible apply GrowV.set | (with_reducible show ¬ Names _ _; simp [*]; done)))); (focus (exact fun _ => rfl)); (focus decide); (focus (intro a; first | rfl | simp)); (focus (simp [maxCells] <;> omega))) | (refine after_intro fun v2 H2 hv2 hnx2 hget2 hnew2 hone2 hcel2 => ?_))
  · have hP2 : P = .tup [.agg [.nils, .nils, .nils], .int .i64 (givenS l c.xs)] := by rw [hP.h, if_neg hg]
    (repeat' first | simp [*, initEnv, c45] | (refine wpIf_two (fun _ h => ?_) (fun _ h => ?_) <;> try simp [-Nat.le_zero_eq] at h) | (apply wpE_appendV; (focus (first | assumption | (repeat' first | assumption | with_reducible apply GrowV.setNew | with_reducible apply GrowV.alloc | with_reducible apply GrowV.set | (with_reducible show ¬ Names _ _; simp [*]; done)))); (focus (exact fun _ => rfl)); (focus decide); (focus (intro a; first | rfl | simp)); (focus (simp [maxCells] <;> omega))) | (refine after_intro fun v2 H2 hv2 hnx2 hget2 hnew2 hone2 hcel2 => ?_))
@[simp] theorem d45 (n : Nat) (H : Heap) (l_habit_step : Int) (l_habit_place : Int) (l_habit_sink : Int) (l_sights : Sl Sight) (l_notes : Sl Note) (c : Sl Int) (hs : (fun (l : Life) => shortS l) (⟨⟨l_habit_step, l_habit_place, l_habit_sink⟩, l_sights, l_notes⟩ : Life)) (hc : c.xs.length < 1000) : doCall (calleeOf G (n + 8)) H (.pure (.func 45 [])) [.pure (.agg [.int .i64 l_habit_step, .int .i64 l_habit_place, .int .i64 l_habit_sink, (l_sights).pv Sight.cells 9, (l_notes).pv Note.cells 4]), .pure (c.pv intF 1)] = some (.val (.pure ((fun (l : Life) => tellEPV l c.xs) (⟨⟨l_habit_step, l_habit_place, l_habit_sink⟩, l_sights, l_notes⟩ : Life)))) :=
  call_pureC (ps := [_, _]) (caps := []) sh45 (e45 n (⟨⟨l_habit_step, l_habit_place, l_habit_sink⟩, l_sights, l_notes⟩ : Life) c hs hc)
theorem sh9 : G.shared 9 = false := by decide
theorem e9 (n : Nat) (l : Life) (c : Sl Int) (hs : shortS l) (hc : c.xs.length < 1000) : callP G (n + 8) 9 [.agg l.cells, c.pv intF 1] = some ((if givenS l c.xs = 0 then .tup [.bool (tellS l c.xs).isSome, .int .i64 0] else .tup [.bool false, .int .i64 (givenS l c.xs)])) := by
  refine callP_of (ext_none _) rfl g9 rfl ?_
  by_cases hg : givenS l c.xs = 0
  · obtain ⟨hr, h1, h2⟩ := given_zero hg
    have hct : ∀ H, doCall (calleeOf G (n + 7)) H (.pure (.func 42 [])) [.pure (.agg l.cells), .pure (c.pv intF 1)] = some (.val (.pure (tellPV (tellS l c.xs)))) := fun H => d42 n H l.habit.step l.habit.place l.habit.sink l.sights l.notes c hr h1 h2
    simp only [Life.cells] at hct
    cases ht : tellS l c.xs with
    | none => (repeat' first | simp [*, initEnv, c9, tellPV] | (refine wpIf_two (fun _ h => ?_) (fun _ h => ?_) <;> try simp [-Nat.le_zero_eq] at h) | (apply wpE_appendV; (focus (first | assumption | (repeat' first | assumption | with_reducible apply GrowV.setNew | with_reducible apply GrowV.alloc | with_reducible apply GrowV.set | (with_reducible show ¬ Names _ _; simp [*]; done)))); (focus (exact fun _ => rfl)); (focus decide); (focus (intro a; first | rfl | simp)); (focus (simp [maxCells] <;> omega))) | (refine after_intro fun v2 H2 hv2 hnx2 hget2 hnew2 hone2 hcel2 => ?_))
    | some t => (repeat' first | simp [*, initEnv, c9, tellPV] | (refine wpIf_two (fun _ h => ?_) (fun _ h => ?_) <;> try simp [-Nat.le_zero_eq] at h) | (apply wpE_appendV; (focus (first | assumption | (repeat' first | assumption | with_reducible apply GrowV.setNew | with_reducible apply GrowV.alloc | with_reducible apply GrowV.set | (with_reducible show ¬ Names _ _; simp [*]; done)))); (focus (exact fun _ => rfl)); (focus decide); (focus (intro a; first | rfl | simp)); (focus (simp [maxCells] <;> omega))) | (refine after_intro fun v2 H2 hv2 hnx2 hget2 hnew2 hone2 hcel2 => ?_))
  · (repeat' first | simp [*, initEnv, c9] | (refine wpIf_two (fun _ h => ?_) (fun _ h => ?_) <;> try simp [-Nat.le_zero_eq] at h) | (apply wpE_appendV; (focus (first | assumption | (repeat' first | assumption | with_reducible apply GrowV.setNew | with_reducible apply GrowV.alloc | with_reducible apply GrowV.set | (with_reducible show ¬ Names _ _; simp [*]; done)))); (focus (exact fun _ => rfl)); (focus decide); (focus (intro a; first | rfl | simp)); (focus (simp [maxCells] <;> omega))) | (refine after_intro fun v2 H2 hv2 hnx2 hget2 hnew2 hone2 hcel2 => ?_))
@[simp] theorem d9 (n : Nat) (H : Heap) (l_habit_step : Int) (l_habit_place : Int) (l_habit_sink : Int) (l_sights : Sl Sight) (l_notes : Sl Note) (c : Sl Int) (hs : (fun (l : Life) => shortS l) (⟨⟨l_habit_step, l_habit_place, l_habit_sink⟩, l_sights, l_notes⟩ : Life)) (hc : c.xs.length < 1000) : doCall (calleeOf G (n + 8)) H (.pure (.func 9 [])) [.pure (.agg [.int .i64 l_habit_step, .int .i64 l_habit_place, .int .i64 l_habit_sink, (l_sights).pv Sight.cells 9, (l_notes).pv Note.cells 4]), .pure (c.pv intF 1)] = some (.val (.pure ((fun (l : Life) => (if givenS l c.xs = 0 then .tup [.bool (tellS l c.xs).isSome, .int .i64 0] else .tup [.bool false, .int .i64 (givenS l c.xs)])) (⟨⟨l_habit_step, l_habit_place, l_habit_sink⟩, l_sights, l_notes⟩ : Life)))) :=
  call_pureC (ps := [_, _]) (caps := []) sh9 (e9 n (⟨⟨l_habit_step, l_habit_place, l_habit_sink⟩, l_sights, l_notes⟩ : Life) c hs hc)
def fieldE (g : TellR → PV) (l : Life) (c : List Int) : PV := if givenS l c = 0 then (match tellS l c with
  | some t => .tup [g t, .int .i64 0]
  | none => .tup [.nils, .int .i64 9]) else .tup [.nils, .int .i64 (givenS l c)]
theorem sh11 : G.shared 11 = false := by decide
theorem e11 (n : Nat) (l : Life) (c : Sl Int) (hs : shortS l) (hc : c.xs.length < 1000) : callP G (n + 9) 11 [.agg l.cells, c.pv intF 1] = some (fieldE (fun t => (Sl.of t.boxes).pv Box.cells 4) l c.xs) := by
  refine callP_of (ext_none _) rfl g11 rfl ?_
  by_cases hg : givenS l c.xs = 0
  · cases ht : tellS l c.xs with
    | none => (repeat' first | simp [*, initEnv, c11, tellEPV, fieldE] | (refine wpIf_two (fun _ h => ?_) (fun _ h => ?_) <;> try simp [-Nat.le_zero_eq] at h) | (apply wpE_appendV; (focus (first | assumption | (repeat' first | assumption | with_reducible apply GrowV.setNew | with_reducible apply GrowV.alloc | with_reducible apply GrowV.set | (with_reducible show ¬ Names _ _; simp [*]; done)))); (focus (exact fun _ => rfl)); (focus decide); (focus (intro a; first | rfl | simp)); (focus (simp [maxCells] <;> omega))) | (refine after_intro fun v2 H2 hv2 hnx2 hget2 hnew2 hone2 hcel2 => ?_))
    | some t => (repeat' first | simp [*, initEnv, c11, tellEPV, fieldE, TellR.told] | (refine wpIf_two (fun _ h => ?_) (fun _ h => ?_) <;> try simp [-Nat.le_zero_eq] at h) | (apply wpE_appendV; (focus (first | assumption | (repeat' first | assumption | with_reducible apply GrowV.setNew | with_reducible apply GrowV.alloc | with_reducible apply GrowV.set | (with_reducible show ¬ Names _ _; simp [*]; done)))); (focus (exact fun _ => rfl)); (focus decide); (focus (intro a; first | rfl | simp)); (focus (simp [maxCells] <;> omega))) | (refine after_intro fun v2 H2 hv2 hnx2 hget2 hnew2 hone2 hcel2 => ?_))
  · (repeat' first | simp [*, initEnv, c11, tellEPV, fieldE] | (refine wpIf_two (fun _ h => ?_) (fun _ h => ?_) <;> try simp [-Nat.le_zero_eq] at h) | (apply wpE_appendV; (focus (first | assumption | (repeat' first | assumption | with_reducible apply GrowV.setNew | with_reducible apply GrowV.alloc | with_reducible apply GrowV.set | (with_reducible show ¬ Names _ _; simp [*]; done)))); (focus (exact fun _ => rfl)); (focus decide); (focus (intro a; first | rfl | simp)); (focus (simp [maxCells] <;> omega))) | (refine after_intro fun v2 H2 hv2 hnx2 hget2 hnew2 hone2 hcel2 => ?_))
@[simp] theorem d11 (n : Nat) (H : Heap) (l_habit_step : Int) (l_habit_place : Int) (l_habit_sink : Int) (l_sights : Sl Sight) (l_notes : Sl Note) (c : Sl Int) (hs : (fun (l : Life) => shortS l) (⟨⟨l_habit_step, l_habit_place, l_habit_sink⟩, l_sights, l_notes⟩ : Life)) (hc : c.xs.length < 1000) : doCall (calleeOf G (n + 9)) H (.pure (.func 11 [])) [.pure (.agg [.int .i64 l_habit_step, .int .i64 l_habit_place, .int .i64 l_habit_sink, (l_sights).pv Sight.cells 9, (l_notes).pv Note.cells 4]), .pure (c.pv intF 1)] = some (.val (.pure ((fun (l : Life) => fieldE (fun t => (Sl.of t.boxes).pv Box.cells 4) l c.xs) (⟨⟨l_habit_step, l_habit_place, l_habit_sink⟩, l_sights, l_notes⟩ : Life)))) :=
  call_pureC (ps := [_, _]) (caps := []) sh11 (e11 n (⟨⟨l_habit_step, l_habit_place, l_habit_sink⟩, l_sights, l_notes⟩ : Life) c hs hc)
theorem sh12 : G.shared 12 = false := by decide
theorem e12 (n : Nat) (l : Life) (c : Sl Int) (hs : shortS l) (hc : c.xs.length < 1000) : callP G (n + 9) 12 [.agg l.cells, c.pv intF 1] = some (fieldE (fun t => (Sl.of t.heights).pv Span.cells 2) l c.xs) := by
  refine callP_of (ext_none _) rfl g12 rfl ?_
  by_cases hg : givenS l c.xs = 0
  · cases ht : tellS l c.xs with
    | none => (repeat' first | simp [*, initEnv, c12, tellEPV, fieldE] | (refine wpIf_two (fun _ h => ?_) (fun _ h => ?_) <;> try simp [-Nat.le_zero_eq] at h) | (apply wpE_appendV; (focus (first | assumption | (repeat' first | assumption | with_reducible apply GrowV.setNew | with_reducible apply GrowV.alloc | with_reducible apply GrowV.set | (with_reducible show ¬ Names _ _; simp [*]; done)))); (focus (exact fun _ => rfl)); (focus decide); (focus (intro a; first | rfl | simp)); (focus (simp [maxCells] <;> omega))) | (refine after_intro fun v2 H2 hv2 hnx2 hget2 hnew2 hone2 hcel2 => ?_))
    | some t => (repeat' first | simp [*, initEnv, c12, tellEPV, fieldE, TellR.told] | (refine wpIf_two (fun _ h => ?_) (fun _ h => ?_) <;> try simp [-Nat.le_zero_eq] at h) | (apply wpE_appendV; (focus (first | assumption | (repeat' first | assumption | with_reducible apply GrowV.setNew | with_reducible apply GrowV.alloc | with_reducible apply GrowV.set | (with_reducible show ¬ Names _ _; simp [*]; done)))); (focus (exact fun _ => rfl)); (focus decide); (focus (intro a; first | rfl | simp)); (focus (simp [maxCells] <;> omega))) | (refine after_intro fun v2 H2 hv2 hnx2 hget2 hnew2 hone2 hcel2 => ?_))
  · (repeat' first | simp [*, initEnv, c12, tellEPV, fieldE] | (refine wpIf_two (fun _ h => ?_) (fun _ h => ?_) <;> try simp [-Nat.le_zero_eq] at h) | (apply wpE_appendV; (focus (first | assumption | (repeat' first | assumption | with_reducible apply GrowV.setNew | with_reducible apply GrowV.alloc | with_reducible apply GrowV.set | (with_reducible show ¬ Names _ _; simp [*]; done)))); (focus (exact fun _ => rfl)); (focus decide); (focus (intro a; first | rfl | simp)); (focus (simp [maxCells] <;> omega))) | (refine after_intro fun v2 H2 hv2 hnx2 hget2 hnew2 hone2 hcel2 => ?_))
@[simp] theorem d12 (n : Nat) (H : Heap) (l_habit_step : Int) (l_habit_place : Int) (l_habit_sink : Int) (l_sights : Sl Sight) (l_notes : Sl Note) (c : Sl Int) (hs : (fun (l : Life) => shortS l) (⟨⟨l_habit_step, l_habit_place, l_habit_sink⟩, l_sights, l_notes⟩ : Life)) (hc : c.xs.length < 1000) : doCall (calleeOf G (n + 9)) H (.pure (.func 12 [])) [.pure (.agg [.int .i64 l_habit_step, .int .i64 l_habit_place, .int .i64 l_habit_sink, (l_sights).pv Sight.cells 9, (l_notes).pv Note.cells 4]), .pure (c.pv intF 1)] = some (.val (.pure ((fun (l : Life) => fieldE (fun t => (Sl.of t.heights).pv Span.cells 2) l c.xs) (⟨⟨l_habit_step, l_habit_place, l_habit_sink⟩, l_sights, l_notes⟩ : Life)))) :=
  call_pureC (ps := [_, _]) (caps := []) sh12 (e12 n (⟨⟨l_habit_step, l_habit_place, l_habit_sink⟩, l_sights, l_notes⟩ : Life) c hs hc)
theorem sh13 : G.shared 13 = false := by decide
theorem e13 (n : Nat) (l : Life) (c : Sl Int) (hs : shortS l) (hc : c.xs.length < 1000) : callP G (n + 9) 13 [.agg l.cells, c.pv intF 1] = some (fieldE (fun t => (Sl.of t.letters).pv strF 1) l c.xs) := by
  refine callP_of (ext_none _) rfl g13 rfl ?_
  by_cases hg : givenS l c.xs = 0
  · cases ht : tellS l c.xs with
    | none => (repeat' first | simp [*, initEnv, c13, tellEPV, fieldE] | (refine wpIf_two (fun _ h => ?_) (fun _ h => ?_) <;> try simp [-Nat.le_zero_eq] at h) | (apply wpE_appendV; (focus (first | assumption | (repeat' first | assumption | with_reducible apply GrowV.setNew | with_reducible apply GrowV.alloc | with_reducible apply GrowV.set | (with_reducible show ¬ Names _ _; simp [*]; done)))); (focus (exact fun _ => rfl)); (focus decide); (focus (intro a; first | rfl | simp)); (focus (simp [maxCells] <;> omega))) | (refine after_intro fun v2 H2 hv2 hnx2 hget2 hnew2 hone2 hcel2 => ?_))
    | some t => (repeat' first | simp [*, initEnv, c13, tellEPV, fieldE, TellR.told] | (refine wpIf_two (fun _ h => ?_) (fun _ h => ?_) <;> try simp [-Nat.le_zero_eq] at h) | (apply wpE_appendV; (focus (first | assumption | (repeat' first | assumption | with_reducible apply GrowV.setNew | with_reducible apply GrowV.alloc | with_reducible apply GrowV.set | (with_reducible show ¬ Names _ _; simp [*]; done)))); (focus (exact fun _ => rfl)); (focus decide); (focus (intro a; first | rfl | simp)); (focus (simp [maxCells] <;> omega))) | (refine after_intro fun v2 H2 hv2 hnx2 hget2 hnew2 hone2 hcel2 => ?_))
  · (repeat' first | simp [*, initEnv, c13, tellEPV, fieldE] | (refine wpIf_two (fun _ h => ?_) (fun _ h => ?_) <;> try simp [-Nat.le_zero_eq] at h) | (apply wpE_appendV; (focus (first | assumption | (repeat' first | assumption | with_reducible apply GrowV.setNew | with_reducible apply GrowV.alloc | with_reducible apply GrowV.set | (with_reducible show ¬ Names _ _; simp [*]; done)))); (focus (exact fun _ => rfl)); (focus decide); (focus (intro a; first | rfl | simp)); (focus (simp [maxCells] <;> omega))) | (refine after_intro fun v2 H2 hv2 hnx2 hget2 hnew2 hone2 hcel2 => ?_))
@[simp] theorem d13 (n : Nat) (H : Heap) (l_habit_step : Int) (l_habit_place : Int) (l_habit_sink : Int) (l_sights : Sl Sight) (l_notes : Sl Note) (c : Sl Int) (hs : (fun (l : Life) => shortS l) (⟨⟨l_habit_step, l_habit_place, l_habit_sink⟩, l_sights, l_notes⟩ : Life)) (hc : c.xs.length < 1000) : doCall (calleeOf G (n + 9)) H (.pure (.func 13 [])) [.pure (.agg [.int .i64 l_habit_step, .int .i64 l_habit_place, .int .i64 l_habit_sink, (l_sights).pv Sight.cells 9, (l_notes).pv Note.cells 4]), .pure (c.pv intF 1)] = some (.val (.pure ((fun (l : Life) => fieldE (fun t => (Sl.of t.letters).pv strF 1) l c.xs) (⟨⟨l_habit_step, l_habit_place, l_habit_sink⟩, l_sights, l_notes⟩ : Life)))) :=
  call_pureC (ps := [_, _]) (caps := []) sh13 (e13 n (⟨⟨l_habit_step, l_habit_place, l_habit_sink⟩, l_sights, l_notes⟩ : Life) c hs hc)
end Go.Proofs.YtjjkgamklbgnlaaGreat.Vm
