/- What the program tells of a course is what the specification tells: plain Lean. -/
import Derived.Test.YtjjkgamklbgnlaaGreatSpanLaw
import Derived.Test.YtjjkgamklbgnlaaGreatKindsWalk
namespace Go.Proofs.YtjjkgamklbgnlaaGreat.Vm
open Go
set_option linter.unusedSimpArgs false
set_option linter.unusedVariables false
set_option maxHeartbeats 4000000

theorem allL_full (l : List Span) : someS l = true ↔ ∀ s ∈ l, full s := by
  unfold someS
  rw [allL_iff]
  simp [full]
theorem getElem!_mem_or {c : List Int} (k : Nat) : c[k]! ∈ c ∨ c[k]! = 0 := by
  by_cases h : k < c.length
  · left; rw [getElem!_pos c k h]; exact List.getElem_mem _
  · right; rw [getElem!_neg c k h]; rfl
/-- The gaps of x and of y. -/
theorem gapsX {l : Life} (hr : Right l) (c : List Int) : Gaps (fun _ => True) (onX l c) (onX l c) := by
  have hd := fun (k : Nat) => far_le (k := c[k]!) hr.habit
  refine ⟨?_, ?_, ?_, ?_, fun _ _ _ _ => trivial⟩
  · intro k s t h; unfold sub onX onD at *; simp only; omega
  · intro k s t h; unfold sub onX onD at *; simp only; omega
  · intro k f t h
    have := hd k
    unfold sub onX onD meetS at *; simp only at *; omega
  · intro k f t _ hf ht h
    have := hd k
    unfold full sub onX onD meetS at *; simp only at *; omega
/-- The gaps of heights. -/
theorem gapsH {l : Life} (hr : Right l) (c : List Int) : Gaps (fun s => 0 ≤ s.lo ∧ s.hi ≤ 100) (onH l c) (backH l c) := by
  have hy : ∀ k, k + 1 < l.sights.xs.length → 0 ≤ l.habit.sink * yrS l.sights.xs k := fun k hk => by
    have h1 := hr.yr hk
    have h2 : yrS l.sights.xs k = l.sights.xs[k+1].year - l.sights.xs[k].year := by rw [yrS, getElem!_pos _ k (by omega), getElem!_pos _ (k+1) hk]
    rw [h2]
    exact (sink_le hr.habit h1).1
  refine ⟨?_, ?_, ?_, ?_, ?_⟩
  · intro k s t h
    unfold onH
    by_cases hk : k + 1 < l.sights.xs.length
    · rw [if_pos hk, if_pos hk]; unfold upH sub at *
      split <;> (simp only; omega)
    · rw [if_neg hk, if_neg hk]; exact h
  · intro k s t h
    unfold backH
    by_cases hk : k + 1 < l.sights.xs.length
    · rw [if_pos hk, if_pos hk]; unfold downH sub at *
      split <;> (simp only; omega)
    · rw [if_neg hk, if_neg hk]; exact h
  · intro k f t h
    unfold onH backH at *
    by_cases hk : k + 1 < l.sights.xs.length
    · rw [if_pos hk] at *; unfold upH downH sub meetS at *
      have := hy k hk
      split <;> rename_i h0 <;> simp only [h0, if_true, if_false] at h ⊢ <;> omega
    · rw [if_neg hk] at *
      rw [if_neg hk]
      exact sub_meet h (sub_refl _)
  · intro k f t hR hf ht h
    unfold onH backH at *
    by_cases hk : k + 1 < l.sights.xs.length
    · rw [if_pos hk] at *; unfold upH downH sub meetS full at *
      have := hy k hk
      split <;> rename_i h0 <;> simp only [h0, if_true, if_false] at h ⊢ <;> omega
    · rw [if_neg hk] at *
      unfold sub full meetS at *; simp only; omega
  · intro s t h1 h2
    unfold sub at h2; omega
/-- Rounds are once forth and once back. -/
theorem rounds_through {R : Span → Prop} {on back : Nat → Span → Span} {l : List Span} (g : Gaps R on back) (hR : ∀ s ∈ l, R s) {m r : Nat} (hm : m + 1 = l.length) (hr : l.length ≤ r) :
    throughS on back l = if someS (roundsS on back m r l) = true then some (roundsS on back m r l) else none := by
  by_cases h : ∀ i, i < l.length → full (fN on l i)
  · obtain ⟨h1, h2⟩ := rounds_full g hR hm hr h
    rw [through_some h, if_pos ((allL_full _).2 h2), h1]
  · have h' : ∃ i, i < l.length ∧ ¬ full (fN on l i) := Classical.byContradiction fun hc => h fun i hi => Classical.byContradiction fun hn => hc ⟨i, hi, hn⟩
    rw [through_none h', if_neg (fun e => rounds_empty g hm (by omega) h' ((allL_full _).1 e))]
section
variable {l : Life} {c : List Int}
theorem thX_eq (hr : Right l) (hc : c.length + 1 = l.sights.xs.length) : thX l c = if someS (narX l c) = true then some (narX l c) else none :=
  rounds_through (gapsX hr c) (fun _ _ => trivial) (by simpa using hc) (by simp; omega)
theorem thY_eq (hr : Right l) (hc : c.length + 1 = l.sights.xs.length) : thY l c = if someS (narY l c) = true then some (narY l c) else none :=
  rounds_through (gapsX hr c) (fun _ _ => trivial) (by simpa using hc) (by simp; omega)
theorem thH_eq (hr : Right l) (hc : c.length + 1 = l.sights.xs.length) : thH l c = if someS (narH l c) = true then some (narH l c) else none :=
  rounds_through (gapsH hr c) (fun s hs => by obtain ⟨a, ha, rfl⟩ := List.mem_map.1 hs; have := hr.sp ha; omega) (by simpa using hc) (by simp; omega)
/-- What the program tells is what the specification tells. -/
theorem tell_can (hr : Right l) (hc : c.length + 1 = l.sights.xs.length) : tellS l c = if canS l c = true then some ⟨(narX l c).zipWith Box.mk (narY l c), narH l c, (lettersS l.sights.xs c).getD []⟩ else none := by
  unfold tellS canS
  rw [thX_eq hr hc, thY_eq hr hc, thH_eq hr hc]
  by_cases h0 : allL (fun m => notedS l.sights.xs m c) l.notes.xs = true
  · rw [if_pos h0, h0]
    by_cases h1 : someS (narX l c) = true <;> by_cases h2 : someS (narY l c) = true <;> by_cases h3 : someS (narH l c) = true <;> cases h4 : lettersS l.sights.xs c <;> simp [h1, h2, h3, h4]
  · rw [if_neg h0]
    simp at h0
    simp [h0]
theorem fit_can (hr : Right l) (hc : c.length + 1 = l.sights.xs.length) : fitP l c = canS l c := by
  unfold fitP
  rw [tell_can hr hc]
  split
  · rename_i h; simp [h]
  · rename_i h; simp at h; simp [h]
theorem byTo_congr {p q : List Int → Bool} {m : Nat} (h : ∀ j, p (toC m j) = q (toC m j)) : ∀ j, byTo p m j = byTo q m j
  | 0 => rfl
  | j + 1 => by rw [byTo, byTo, byTo_congr h j, h j]
theorem kindsTo_congr {p q : List Int → Bool} {m : Nat} (h : ∀ j, p (toC m j) = q (toC m j)) : ∀ j, kindsTo p m j = kindsTo q m j
  | 0 => rfl
  | j + 1 => by rw [kindsTo, kindsTo, kindsTo_congr h j, h j]
theorem courses_eq (hr : Right l) (j : Nat) : byTo (fitP l) (l.sights.xs.length - 1) j = byTo (canS l) (l.sights.xs.length - 1) j :=
  byTo_congr (fun j => fit_can hr (by rw [toC_length]; have := hr.one; omega)) j
theorem kinds_eq (hr : Right l) (j : Nat) : kindsTo (fitP l) (l.sights.xs.length - 1) j = kindsTo (canS l) (l.sights.xs.length - 1) j :=
  kindsTo_congr (fun j => fit_can hr (by rw [toC_length]; have := hr.one; omega)) j
end
end Go.Proofs.YtjjkgamklbgnlaaGreat.Vm
