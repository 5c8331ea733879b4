/- StoneCoursesAsSpecified answers true on all data, for the machine of values. -/
import Derived.Test.YtjjkgamklbgnlaaGreatLawWalk
import Derived.Test.YtjjkgamklbgnlaaGreatSanity
namespace Go.Proofs.YtjjkgamklbgnlaaGreat.Vm
open Go
set_option linter.unusedSimpArgs false
set_option linter.unusedVariables false
set_option maxHeartbeats 4000000
theorem sh_sanity : G.shared 8 = false := by decide
@[simp] theorem d_sanity (H : Heap) : doCall (calleeOf G 60) H (.pure (.func 8 [])) [] = some (.val (.pure (.bool true))) := call_pure (ps := []) sh_sanity sanity_run

section
variable (l : Life) (c : Sl Int)
theorem lawFits (hs : shortS l) (hc : c.xs.length < 1000) : ∃ b e, (∀ H, doCall (calleeOf G 60) H (.pure (.func 9 [])) [.pure (.agg l.cells), .pure (c.pv intF 1)] = some (.val (.pure (.tup [.bool b, .int .i64 e])))) ∧
    (∀ H, doCall (calleeOf G 60) H (.pure (.func 10 [])) [.pure (.agg l.cells), .pure (c.pv intF 1)] = some (.val (.pure (.tup [.bool b, .int .i64 e])))) := by
  have h1 : ∀ H, doCall (calleeOf G 60) H (.pure (.func 9 [])) [.pure (.agg l.cells), .pure (c.pv intF 1)] = some (.val (.pure (if givenS l c.xs = 0 then .tup [.bool (tellS l c.xs).isSome, .int .i64 0] else .tup [.bool false, .int .i64 (givenS l c.xs)]))) := fun H => d9 52 H l.habit.step l.habit.place l.habit.sink l.sights l.notes c hs hc
  have h2 : ∀ H, doCall (calleeOf G 60) H (.pure (.func 10 [])) [.pure (.agg l.cells), .pure (c.pv intF 1)] = some (.val (.pure (if givenS l c.xs = 0 then .tup [.bool (canS l c.xs), .int .i64 0] else .tup [.bool false, .int .i64 (givenS l c.xs)]))) := fun H => d10 53 H l.habit.step l.habit.place l.habit.sink l.sights l.notes c hs hc
  by_cases hg : givenS l c.xs = 0
  · obtain ⟨hr, h3, h4⟩ := given_zero hg
    have : (tellS l c.xs).isSome = canS l c.xs := fit_can hr h3
    rw [if_pos hg, this] at h1
    rw [if_pos hg] at h2
    exact ⟨_, _, h1, h2⟩
  · rw [if_neg hg] at h1 h2
    exact ⟨_, _, h1, h2⟩
theorem lawTell (hs : shortS l) (hc : c.xs.length < 1000) : ∃ (A : Sl Box) (B : Sl Span) (C : Sl (List UInt8)) (e : Int), (A.xs.length < 1000 ∧ B.xs.length < 1000 ∧ C.xs.length < 1000) ∧
    (∀ H, doCall (calleeOf G 60) H (.pure (.func 11 [])) [.pure (.agg l.cells), .pure (c.pv intF 1)] = some (.val (.pure (.tup [A.pv Box.cells 4, .int .i64 e])))) ∧
    (∀ H, doCall (calleeOf G 60) H (.pure (.func 12 [])) [.pure (.agg l.cells), .pure (c.pv intF 1)] = some (.val (.pure (.tup [B.pv Span.cells 2, .int .i64 e])))) ∧
    (∀ H, doCall (calleeOf G 60) H (.pure (.func 13 [])) [.pure (.agg l.cells), .pure (c.pv intF 1)] = some (.val (.pure (.tup [C.pv strF 1, .int .i64 e])))) ∧
    (∀ H, doCall (calleeOf G 60) H (.pure (.func 14 [])) [.pure (.agg l.cells), .pure (c.pv intF 1)] = some (.val (.pure (.agg [A.pv Box.cells 4, B.pv Span.cells 2, C.pv strF 1, .int .i64 e])))) := by
  have h1 : ∀ H, doCall (calleeOf G 60) H (.pure (.func 11 [])) [.pure (.agg l.cells), .pure (c.pv intF 1)] = some (.val (.pure (fieldE (fun t => (Sl.of t.boxes).pv Box.cells 4) l c.xs))) := fun H => d11 51 H l.habit.step l.habit.place l.habit.sink l.sights l.notes c hs hc
  have h2 : ∀ H, doCall (calleeOf G 60) H (.pure (.func 12 [])) [.pure (.agg l.cells), .pure (c.pv intF 1)] = some (.val (.pure (fieldE (fun t => (Sl.of t.heights).pv Span.cells 2) l c.xs))) := fun H => d12 51 H l.habit.step l.habit.place l.habit.sink l.sights l.notes c hs hc
  have h3 : ∀ H, doCall (calleeOf G 60) H (.pure (.func 13 [])) [.pure (.agg l.cells), .pure (c.pv intF 1)] = some (.val (.pure (fieldE (fun t => (Sl.of t.letters).pv strF 1) l c.xs))) := fun H => d13 51 H l.habit.step l.habit.place l.habit.sink l.sights l.notes c hs hc
  have h4 : ∀ H, doCall (calleeOf G 60) H (.pure (.func 14 [])) [.pure (.agg l.cells), .pure (c.pv intF 1)] = some (.val (.pure (.agg (refTell l c.xs)))) := fun H => d14 53 H l.habit.step l.habit.place l.habit.sink l.sights l.notes c hs hc
  have hnil : (Sl.nil : Sl Box).xs.length < 1000 ∧ (Sl.nil : Sl Span).xs.length < 1000 ∧ (Sl.nil : Sl (List UInt8)).xs.length < 1000 := by simp
  unfold fieldE at h1 h2 h3
  unfold refTell at h4
  by_cases hg : givenS l c.xs = 0
  · obtain ⟨hr, h5, h6⟩ := given_zero hg
    have h9 := hr.nine
    rw [if_pos hg] at h4
    simp only [if_pos hg] at h1 h2 h3
    rw [tell_can hr h5] at h1 h2 h3
    by_cases hcan : canS l c.xs = true
    · simp only [if_pos hcan] at h1 h2 h3 h4
      refine ⟨_, _, _, _, ?_, h1, h2, h3, h4⟩
      refine ⟨?_, ?_, ?_⟩
      · simp [narX, narY, roundsS_length]; omega
      · simp [narH, roundsS_length]; omega
      · have := letters_length (l := l.sights.xs) (c := c.xs) h9
        simpa using this
    · simp only [if_neg hcan] at h1 h2 h3 h4
      exact ⟨.nil, .nil, .nil, 9, hnil, h1, h2, h3, h4⟩
  · simp only [if_neg hg] at h1 h2 h3 h4
    exact ⟨.nil, .nil, .nil, _, hnil, h1, h2, h3, h4⟩
theorem lawCheck (hs : shortS l) : (∀ H, doCall (calleeOf G 60) H (.pure (.func 15 [])) [.pure (.agg l.cells)] = some (.val (.pure (.int .i64 (checkS l))))) ∧ (∀ H, doCall (calleeOf G 60) H (.pure (.func 16 [])) [.pure (.agg l.cells)] = some (.val (.pure (.int .i64 (checkS l))))) :=
  ⟨fun H => d15 55 H l.habit.step l.habit.place l.habit.sink l.sights l.notes hs, fun H => d16 55 H l.habit.step l.habit.place l.habit.sink l.sights l.notes hs⟩
theorem lawKinds (hs : shortS l) : ∃ (K : Sl Int) (e : Int), K.xs.length < 1000 ∧ (∀ H, doCall (calleeOf G 60) H (.pure (.func 20 [])) [.pure (.agg l.cells)] = some (.val (.pure (.tup [K.pv intF 1, .int .i64 e])))) ∧ (∀ H, doCall (calleeOf G 60) H (.pure (.func 21 [])) [.pure (.agg l.cells)] = some (.val (.pure (.agg [K.pv intF 1, .int .i64 e])))) := by
  have h1 : ∀ H, doCall (calleeOf G 60) H (.pure (.func 20 [])) [.pure (.agg l.cells)] = some (.val (.pure (if checkS l = 0 then (if (kindsTo (fitP l) (l.sights.xs.length - 1) (3 ^ (l.sights.xs.length - 1))).2 = true then .tup [(Sl.mk false (kindsTo (fitP l) (l.sights.xs.length - 1) (3 ^ (l.sights.xs.length - 1))).1).pv intF 1, .int .i64 0] else .tup [.nils, .int .i64 9]) else .tup [.nils, .int .i64 (checkS l)]))) := fun H => d20 50 H l.habit.step l.habit.place l.habit.sink l.sights l.notes hs
  have h2 : ∀ H, doCall (calleeOf G 60) H (.pure (.func 21 [])) [.pure (.agg l.cells)] = some (.val (.pure (.agg (if checkS l = 0 then (if (kindsTo (canS l) (l.sights.xs.length - 1) (3 ^ (l.sights.xs.length - 1))).2 = true then [(Sl.mk false (kindsTo (canS l) (l.sights.xs.length - 1) (3 ^ (l.sights.xs.length - 1))).1).pv intF 1, .int .i64 0] else [.nils, .int .i64 9]) else [.nils, .int .i64 (checkS l)])))) := fun H => d21 52 H l.habit.step l.habit.place l.habit.sink l.sights l.notes hs
  by_cases hg : checkS l = 0
  · have hr := (right_iff l).1 hg
    have h9 := hr.nine
    simp only [if_pos hg] at h1 h2
    rw [kinds_eq hr] at h1
    by_cases h : (kindsTo (canS l) (l.sights.xs.length - 1) (3 ^ (l.sights.xs.length - 1))).2 = true
    · simp only [if_pos h] at h1 h2
      exact ⟨_, _, by simp [kindsTo_length]; omega, h1, h2⟩
    · simp only [if_neg h] at h1 h2
      exact ⟨.nil, _, by simp, h1, h2⟩
  · simp only [if_neg hg] at h1 h2
    exact ⟨.nil, _, by simp, h1, h2⟩
theorem lawCourses (hs : shortS l) : ∃ (K : Sl Int) (e : Int), K.xs.length < 1000 ∧ (∀ H, doCall (calleeOf G 60) H (.pure (.func 22 [])) [.pure (.agg l.cells)] = some (.val (.pure (.tup [K.pv intF 1, .int .i64 e])))) ∧ (∀ H, doCall (calleeOf G 60) H (.pure (.func 23 [])) [.pure (.agg l.cells)] = some (.val (.pure (.agg [K.pv intF 1, .int .i64 e])))) := by
  have h1 : ∀ H, doCall (calleeOf G 60) H (.pure (.func 22 [])) [.pure (.agg l.cells)] = some (.val (.pure (if checkS l = 0 then .tup [(Sl.mk false (byTo (fitP l) (l.sights.xs.length - 1) (3 ^ (l.sights.xs.length - 1)))).pv intF 1, .int .i64 0] else .tup [.nils, .int .i64 (checkS l)]))) := fun H => d22 50 H l.habit.step l.habit.place l.habit.sink l.sights l.notes hs
  have h2 : ∀ H, doCall (calleeOf G 60) H (.pure (.func 23 [])) [.pure (.agg l.cells)] = some (.val (.pure (.agg (if checkS l = 0 then [(Sl.mk false (byTo (canS l) (l.sights.xs.length - 1) (3 ^ (l.sights.xs.length - 1)))).pv intF 1, .int .i64 0] else [.nils, .int .i64 (checkS l)])))) := fun H => d23 52 H l.habit.step l.habit.place l.habit.sink l.sights l.notes hs
  by_cases hg : checkS l = 0
  · have hr := (right_iff l).1 hg
    have h9 := hr.nine
    simp only [if_pos hg] at h1 h2
    rw [courses_eq hr] at h1
    exact ⟨_, _, by simp [byTo_length]; omega, h1, h2⟩
  · simp only [if_neg hg] at h1 h2
    exact ⟨.nil, _, by simp, h1, h2⟩
end

theorem courses_law (l : Life) (c : Sl Int) : callP G 61 3 [.agg l.cells, c.pv intF 1] = some (.bool true) := by
  refine callP_of (n := 60) (ext_none _) rfl g3 rfl ?_
  have hfew : ∀ H, doCall (calleeOf G 60) H (.pure (.func 7 [])) [.pure (.agg l.cells)] = some (.val (.pure (.bool (fewS l)))) := fun H => d7 59 H l.habit.step l.habit.place l.habit.sink l.sights l.notes
  by_cases hf : fewS l = true
  · by_cases hc : c.xs.length ≤ 20
    · have hs := few_short hf
      have hc' : c.xs.length < 1000 := by omega
      obtain ⟨b, e, f1, f2⟩ := lawFits l c hs hc'
      obtain ⟨A, B, C, e1, ⟨a1, a2, a3⟩, t1, t2, t3, t4⟩ := lawTell l c hs hc'
      obtain ⟨c1, c2⟩ := lawCheck l hs
      obtain ⟨K, e2, k0, k1, k2⟩ := lawKinds l hs
      obtain ⟨L, e3, l0, l1, l2⟩ := lawCourses l hs
      generalize checkS l = e4 at *
      rw [hf] at hfew
      clear hs hf
      simp only [Life.cells] at f1 f2 t1 t2 t3 t4 c1 c2 k1 k2 l1 l2 hfew
      (repeat' first | simp [*, initEnv, c3] | (refine wpIf_two (fun _ h => ?_) (fun _ h => ?_) <;> try simp [-Nat.le_zero_eq] at h) | (apply wpE_appendV; (focus (first | assumption | (repeat' first | assumption | with_reducible apply GrowV.setNew | with_reducible apply GrowV.alloc | with_reducible apply GrowV.set | (with_reducible show ¬ Names _ _; simp [*]; done)))); (focus (exact fun _ => rfl)); (focus decide); (focus (intro a; first | rfl | simp)); (focus (simp [maxCells] <;> omega))) | (refine after_intro fun v2 H2 hv2 hnx2 hget2 hnew2 hone2 hcel2 => ?_))
    · rw [hf] at hfew
      simp only [Life.cells] at hfew
      (repeat' first | simp [*, initEnv, c3] | (refine wpIf_two (fun _ h => ?_) (fun _ h => ?_) <;> try simp [-Nat.le_zero_eq] at h) | (apply wpE_appendV; (focus (first | assumption | (repeat' first | assumption | with_reducible apply GrowV.setNew | with_reducible apply GrowV.alloc | with_reducible apply GrowV.set | (with_reducible show ¬ Names _ _; simp [*]; done)))); (focus (exact fun _ => rfl)); (focus decide); (focus (intro a; first | rfl | simp)); (focus (simp [maxCells] <;> omega))) | (refine after_intro fun v2 H2 hv2 hnx2 hget2 hnew2 hone2 hcel2 => ?_))
      omega
  · simp only [Bool.not_eq_true] at hf
    rw [hf] at hfew
    simp only [Life.cells] at hfew
    (repeat' first | simp [*, initEnv, c3] | (refine wpIf_two (fun _ h => ?_) (fun _ h => ?_) <;> try simp [-Nat.le_zero_eq] at h) | (apply wpE_appendV; (focus (first | assumption | (repeat' first | assumption | with_reducible apply GrowV.setNew | with_reducible apply GrowV.alloc | with_reducible apply GrowV.set | (with_reducible show ¬ Names _ _; simp [*]; done)))); (focus (exact fun _ => rfl)); (focus decide); (focus (intro a; first | rfl | simp)); (focus (simp [maxCells] <;> omega))) | (refine after_intro fun v2 H2 hv2 hnx2 hget2 hnew2 hone2 hcel2 => ?_))
end Go.Proofs.YtjjkgamklbgnlaaGreat.Vm
