/- Once forth and once back is what narrowing again and again comes to: plain Lean. -/
import Derived.Test.YtjjkgamklbgnlaaGreatRefTell
namespace Go.Proofs.YtjjkgamklbgnlaaGreat.Vm
open Go
set_option linter.unusedSimpArgs false
set_option linter.unusedVariables false
set_option maxHeartbeats 4000000

def sub (s t : Span) : Prop := t.lo ≤ s.lo ∧ s.hi ≤ t.hi
def full (s : Span) : Prop := s.lo ≤ s.hi
theorem sub_refl (s : Span) : sub s s := ⟨Int.le_refl _, Int.le_refl _⟩
theorem sub_trans {a b c : Span} (h : sub a b) (h' : sub b c) : sub a c := by unfold sub at *; omega
theorem sub_antisymm {a b : Span} (h : sub a b) (h' : sub b a) : a = b := by
  unfold sub at *
  cases a; cases b; simp at *; omega
theorem sub_meet {a b c : Span} (h : sub a b) (h' : sub a c) : sub a (meetS b c) := by unfold sub meetS at *; simp only; omega
theorem meet_sub_l (a b : Span) : sub (meetS a b) a := by unfold sub meetS; simp only; omega
theorem meet_sub_r (a b : Span) : sub (meetS a b) b := by unfold sub meetS; simp only; omega

/-- What gaps do, as the proof needs it; R: spans that occur. -/
structure Gaps (R : Span → Prop) (on back : Nat → Span → Span) : Prop where
  mon : ∀ k s t, sub s t → sub (on k s) (on k t)
  mback : ∀ k s t, sub s t → sub (back k s) (back k t)
  gal : ∀ k f t, sub t (on k f) → sub t (on k (meetS f (back k t)))
  fullM : ∀ k f t, R f → full f → full t → sub t (on k f) → full (meetS f (back k t))
  sub : ∀ s t, R t → sub s t → R s

section
variable {R : Span → Prop} {on back : Nat → Span → Span} {l : List Span}
def fN (on : Nat → Span → Span) (l : List Span) : Nat → Span
  | 0 => l[0]!
  | k + 1 => meetS l[k+1]! (on k (fN on l k))
theorem fwd_from (on : Nat → Span → Span) (l : List Span) : ∀ (m k : Nat), m = l.length - k → k ≤ l.length →
    ((∀ i, k ≤ i → i < l.length → full (fN on l i)) → fwdS on k (if k = 0 then none else some (fN on l (k-1))) (l.drop k) = some (((List.range l.length).drop k).map (fN on l))) ∧
    ((∃ i, k ≤ i ∧ i < l.length ∧ ¬ full (fN on l i)) → fwdS on k (if k = 0 then none else some (fN on l (k-1))) (l.drop k) = none) := by
  intro m
  induction m with
  | zero =>
    intro k hm hk
    have : k = l.length := by omega
    subst this
    refine ⟨fun _ => ?_, fun ⟨i, h1, h2, _⟩ => by omega⟩
    rw [List.drop_length, List.drop_eq_nil_of_le (by simp)]
    rfl
  | succ m ih =>
    intro k hm hk
    have hlt : k < l.length := by omega
    have hh : headF on k (if k = 0 then none else some (fN on l (k-1))) l[k] = fN on l k := by
      cases k with
      | zero => simp [headF, fN, getElem!_pos l 0 hlt]
      | succ k => simp [headF, fN, getElem!_pos l (k+1) hlt]
    have hst := fwdS_step (on := on) (p := if k = 0 then none else some (fN on l (k-1))) hlt hh.symm
    have ih' := ih (k + 1) (by omega) (by omega)
    rw [if_neg (by omega), Nat.add_sub_cancel] at ih'
    have hr : (List.range l.length).drop k = k :: (List.range l.length).drop (k + 1) := by
      rw [List.drop_eq_getElem_cons (by simpa using hlt)]; simp
    constructor
    · intro hall
      rw [hst, if_neg (by have := hall k (Nat.le_refl _) hlt; unfold full at this; omega), ih'.1 (fun i h1 h2 => hall i (by omega) h2), hr]
      rfl
    · rintro ⟨i, h1, h2, h3⟩
      rw [hst]
      by_cases hf : (fN on l k).hi < (fN on l k).lo
      · rw [if_pos hf]
      · rw [if_neg hf]
        have hik : i ≠ k := fun e => by subst e; exact h3 (by unfold full; omega)
        rw [ih'.2 ⟨i, by omega, h2, h3⟩]; rfl
def fL (on : Nat → Span → Span) (l : List Span) : List Span := (List.range l.length).map (fN on l)
theorem fL_length (on : Nat → Span → Span) (l : List Span) : (fL on l).length = l.length := by simp [fL]
theorem fL_at (on : Nat → Span → Span) (l : List Span) (i : Nat) (h : i < (fL on l).length) : (fL on l)[i] = fN on l i := by simp [fL]
theorem through_some (h : ∀ i, i < l.length → full (fN on l i)) : throughS on back l = some (bwdS back 0 (fL on l)) := by
  have := (fwd_from on l l.length 0 (by omega) (by omega)).1 (fun i _ hi => h i hi)
  simp only [if_true, List.drop_zero] at this
  rw [throughS, this]; rfl
theorem through_none (h : ∃ i, i < l.length ∧ ¬ full (fN on l i)) : throughS on back l = none := by
  obtain ⟨i, h1, h2⟩ := h
  have := (fwd_from on l l.length 0 (by omega) (by omega)).2 ⟨i, by omega, h1, h2⟩
  simp only [if_true, List.drop_zero] at this
  rw [throughS, this]; rfl

/-! ### Back -/
theorem bwd_drop (back : Nat → Span → Span) : ∀ (l : List Span) (k j : Nat), (bwdS back k l).drop j = bwdS back (k + j) (l.drop j)
  | [], k, j => by simp [bwdS]
  | s :: r, k, 0 => rfl
  | s :: r, k, j + 1 => by
    have ih := bwd_drop back r (k + 1) j
    have e : k + 1 + j = k + (j + 1) := by omega
    rw [e] at ih
    rw [List.drop_succ_cons, ← ih, bwdS]
    have hl := bwdS_length back r (k+1)
    cases hb : bwdS back (k+1) r with
    | nil => rw [hb] at hl; simp
    | cons t r' => rfl
def bN (back : Nat → Span → Span) (F : List Span) (i : Nat) : Span := (bwdS back 0 F)[i]!
theorem bN_step {F : List Span} {j : Nat} (hj : j + 1 < F.length) : bN back F j = meetS F[j]! (back j (bN back F (j+1))) := by
  have hl := bwdS_length back F 0
  have h1 := bwd_drop back F 0 j
  have h2 := bwd_drop back F 0 (j + 1)
  simp only [Nat.zero_add] at h1 h2
  have h3 := bwdS_step (back := back) hj
  have e : ∀ h, (bwdS back (j+1) (F.drop (j+1)))[0]'h = (bwdS back 0 F)[j+1]'(by omega) := fun h => by
    have := congrArg (fun x => x[0]?) h2
    simp only [List.getElem?_drop, Nat.add_zero] at this
    rw [List.getElem?_eq_getElem (by omega), List.getElem?_eq_getElem h] at this
    exact (Option.some.inj this).symm
  rw [e, ← h1] at h3
  have h4 := congrArg (fun x => x[0]?) h3
  simp only [List.getElem?_drop, Nat.add_zero, List.getElem?_cons_zero] at h4
  rw [List.getElem?_eq_getElem (by omega)] at h4
  simp only [bN]
  rw [getElem!_pos (bwdS back 0 F) j (by omega), getElem!_pos (bwdS back 0 F) (j+1) (by omega), getElem!_pos F j (by omega)]
  exact Option.some.inj h4
theorem bN_last {F : List Span} {j : Nat} (hj : j + 1 = F.length) : bN back F j = F[j]! := by
  have hl := bwdS_length back F 0
  have h1 := bwd_drop back F 0 j
  simp only [Nat.zero_add] at h1
  rw [bwdS_last hj] at h1
  have h4 := congrArg (fun x => x[0]?) h1
  simp only [List.getElem?_drop, Nat.add_zero] at h4
  simp only [bN]
  rw [getElem!_pos (bwdS back 0 F) j (by omega), getElem!_pos F j (by omega)]
  rw [List.getElem?_eq_getElem (by omega), List.getElem?_eq_getElem (by omega)] at h4
  exact Option.some.inj h4

/-! ### Sweeps -/
theorem sweepAt_get {i j : Nat} {cur : List Span} (hi : i + 1 < cur.length) (hj : j < cur.length) :
    (sweepAt on back i cur)[j]! = if j = i then meetS cur[i]! (back i (meetS cur[i+1]! (on i cur[i]!))) else if j = i + 1 then meetS cur[i+1]! (on i cur[i]!) else cur[j]! := by
  rw [getElem!_pos _ j (by rw [sweepAt_length]; exact hj)]
  unfold sweepAt
  rw [List.getElem_set]
  by_cases h : j = i
  · rw [if_pos h.symm, if_pos h]
  · rw [if_neg (fun e => h e.symm), if_neg h, List.getElem_set]
    by_cases h2 : j = i + 1
    · rw [if_pos h2.symm, if_pos h2]
    · rw [if_neg (fun e => h2 e.symm), if_neg h2, getElem!_pos cur j hj]
/-- A sweep, seen from the front: what stands at i, i+1 after k steps. -/
theorem sweepTo_ge {cur : List Span} : ∀ (k j : Nat), k < cur.length → j < cur.length → k < j → (sweepTo on back k cur)[j]! = cur[j]! := by
  intro k
  induction k with
  | zero => intro j _ _ _; rfl
  | succ k ih =>
    intro j hk hj hkj
    rw [sweepTo, sweepAt_get (by rw [sweepTo_length]; omega) (by rw [sweepTo_length]; omega), if_neg (by omega), if_neg (by omega)]
    exact ih j (by omega) hj (by omega)
theorem sweepTo_lt {cur : List Span} : ∀ (k m j : Nat), m < cur.length → k ≤ m → j + 1 = k → j < cur.length → (sweepTo on back m cur)[j]! = (sweepTo on back (j+1) cur)[j]! := by
  intro k m
  induction m with
  | zero => intro j _ _ _ _; omega
  | succ m ih =>
    intro j hm hk hj hjl
    by_cases h : j = m
    · subst h; rfl
    · rw [sweepTo, sweepAt_get (by rw [sweepTo_length]; omega) (by rw [sweepTo_length]; omega), if_neg h, if_neg (by omega)]
      exact ih j (by omega) (by omega) (by omega) hjl
/-- A lower bound that the gaps keep stays one. -/
theorem low_sweepAt (g : Gaps R on back) {b : Nat → Span} {i : Nat} {cur : List Span} (hi : i + 1 < cur.length)
    (hb1 : sub (b (i+1)) (on i (b i))) (hb2 : sub (b i) (back i (b (i+1)))) (h : ∀ j, j < cur.length → sub (b j) cur[j]!) :
    ∀ j, j < cur.length → sub (b j) (sweepAt on back i cur)[j]! := by
  intro j hj
  have h1 : sub (b (i+1)) (meetS cur[i+1]! (on i cur[i]!)) := sub_meet (h _ hi) (sub_trans hb1 (g.mon _ _ _ (h _ (by omega))))
  rw [sweepAt_get hi hj]
  split
  · rename_i e; subst e
    exact sub_meet (h _ hj) (sub_trans hb2 (g.mback _ _ _ h1))
  · split
    · rename_i e; subst e; exact h1
    · exact h j hj
theorem low_sweepTo (g : Gaps R on back) {b : Nat → Span} {cur : List Span} {n : Nat} (hn : n = cur.length)
    (hb1 : ∀ i, i + 1 < n → sub (b (i+1)) (on i (b i))) (hb2 : ∀ i, i + 1 < n → sub (b i) (back i (b (i+1)))) (h : ∀ j, j < n → sub (b j) cur[j]!) :
    ∀ k, k < n → ∀ j, j < n → sub (b j) (sweepTo on back k cur)[j]! := by
  intro k
  induction k with
  | zero => intro _; exact h
  | succ k ih =>
    intro hk
    have := low_sweepAt g (i := k) (cur := sweepTo on back k cur) (by rw [sweepTo_length]; omega) (hb1 k hk) (hb2 k hk) (fun j hj => ih (by omega) j (by rw [sweepTo_length] at hj; omega))
    rw [sweepTo_length, ← hn] at this
    exact this
theorem low_rounds (g : Gaps R on back) {b : Nat → Span} {n m : Nat} (hn : n = l.length) (hm : m < n)
    (hb1 : ∀ i, i + 1 < n → sub (b (i+1)) (on i (b i))) (hb2 : ∀ i, i + 1 < n → sub (b i) (back i (b (i+1)))) (h : ∀ j, j < n → sub (b j) l[j]!) :
    ∀ r, ∀ j, j < n → sub (b j) (roundsS on back m r l)[j]! := by
  intro r
  induction r with
  | zero => exact h
  | succ r ih => exact low_sweepTo g (by rw [roundsS_length]; exact hn) hb1 hb2 ih m hm
/-- Sweeps only narrow. -/
theorem sweepAt_sub {i : Nat} {cur : List Span} (hi : i + 1 < cur.length) : ∀ j, j < cur.length → sub (sweepAt on back i cur)[j]! cur[j]! := by
  intro j hj
  rw [sweepAt_get hi hj]
  split
  · rename_i e; subst e; exact meet_sub_l _ _
  · split
    · rename_i e; subst e; exact meet_sub_l _ _
    · exact sub_refl _
theorem sweepTo_sub {cur : List Span} : ∀ k, k < cur.length → ∀ j, j < cur.length → sub (sweepTo on back k cur)[j]! cur[j]! := by
  intro k
  induction k with
  | zero => intro _ j _; exact sub_refl _
  | succ k ih =>
    intro hk j hj
    rw [sweepTo]
    exact sub_trans (sweepAt_sub (by rw [sweepTo_length]; omega) j (by rw [sweepTo_length]; exact hj)) (ih (by omega) j hj)
/-- After the sweep to k, what stands at k lies below fN. -/
theorem sweepTo_fN (g : Gaps R on back) {cur : List Span} (hl : cur.length = l.length) (h : ∀ j, j < l.length → sub cur[j]! l[j]!) : ∀ k, k < cur.length → sub (sweepTo on back k cur)[k]! (fN on l k) := by
  intro k
  induction k with
  | zero => intro h0; exact h 0 (by omega)
  | succ k ih =>
    intro hk
    rw [sweepTo, sweepAt_get (by rw [sweepTo_length]; omega) (by rw [sweepTo_length]; omega), if_neg (by omega), if_pos rfl, sweepTo_ge k (k+1) (by omega) hk (by omega), fN]
    exact sub_meet (sub_trans (meet_sub_l _ _) (h _ (by omega))) (sub_trans (meet_sub_r _ _) (g.mon _ _ _ (ih (by omega))))
theorem rounds_sub : ∀ r m, m < l.length → ∀ j, j < l.length → sub (roundsS on back m r l)[j]! l[j]! := by
  intro r m hm
  induction r with
  | zero => intro j _; exact sub_refl _
  | succ r ih =>
    intro j hj
    exact sub_trans (sweepTo_sub m (by rw [roundsS_length]; exact hm) j (by rw [roundsS_length]; exact hj)) (ih j hj)
/-- After a sweep all lies below fN. -/
theorem sweep_fN (g : Gaps R on back) {cur : List Span} (hl : cur.length = l.length) (h : ∀ j, j < l.length → sub cur[j]! l[j]!) {m : Nat} (hm : m + 1 = l.length) : ∀ j, j < l.length → sub (sweepTo on back m cur)[j]! (fN on l j) := by
  intro j hj
  by_cases e : j = m
  · subst e; exact sweepTo_fN g hl h j (by omega)
  · rw [sweepTo_lt (j+1) m j (by omega) (by omega) (by omega) (by omega), sweepTo]
    exact sub_trans (sweepAt_sub (by rw [sweepTo_length]; omega) j (by rw [sweepTo_length]; omega)) (sweepTo_fN g hl h j (by omega))
theorem rounds_bN (g : Gaps R on back) {m : Nat} (hm : m + 1 = l.length) : ∀ r, ∀ i, i < l.length → l.length ≤ i + r → 1 ≤ r → sub (roundsS on back m r l)[i]! (bN back (fL on l) i) := by
  have hFl : (fL on l).length = l.length := fL_length on l
  have hF : ∀ i, i < l.length → (fL on l)[i]! = fN on l i := fun i hi => by rw [getElem!_pos _ i (by rw [hFl]; exact hi), fL_at]
  intro r
  induction r with
  | zero => intro i _ _ h; omega
  | succ r ih =>
    intro i hi hir _
    have hs := sweep_fN g (cur := roundsS on back m r l) (roundsS_length ..) (rounds_sub r m (by omega)) hm
    by_cases e : i = m
    · subst e
      rw [bN_last (by omega), hF _ hi]
      exact hs i hi
    · rw [bN_step (by omega), hF _ hi]
      refine sub_meet (hs i hi) ?_
      rw [roundsS, sweepTo_lt (i+1) m i (by rw [roundsS_length]; omega) (by omega) (by omega) (by rw [roundsS_length]; omega), sweepTo, sweepAt_get (by rw [sweepTo_length, roundsS_length]; omega) (by rw [sweepTo_length, roundsS_length]; omega), if_pos rfl]
      refine sub_trans (meet_sub_r _ _) (g.mback _ _ _ (sub_trans (meet_sub_l _ _) ?_))
      rw [sweepTo_ge i (i+1) (by rw [roundsS_length]; omega) (by rw [roundsS_length]; omega) (by omega)]
      exact ih (i+1) (by omega) (by omega) (by omega)
/-- What all full forward spans give. -/
theorem bN_props (g : Gaps R on back) (hR : ∀ s ∈ l, R s) {m : Nat} (hm : m + 1 = l.length) (hf : ∀ i, i < l.length → full (fN on l i)) :
    ∀ d i, i + d = m → full (bN back (fL on l) i) ∧ sub (bN back (fL on l) i) (fN on l i) ∧ (i + 1 < l.length → sub (bN back (fL on l) (i+1)) (on i (bN back (fL on l) i)) ∧ sub (bN back (fL on l) i) (back i (bN back (fL on l) (i+1)))) := by
  have hFl : (fL on l).length = l.length := fL_length on l
  have hF : ∀ i, i < l.length → (fL on l)[i]! = fN on l i := fun i hi => by rw [getElem!_pos _ i (by rw [hFl]; exact hi), fL_at]
  have hRl : ∀ i, i < l.length → R l[i]! := fun i hi => by rw [getElem!_pos l i hi]; exact hR _ (List.getElem_mem _)
  have hRf : ∀ i, i < l.length → R (fN on l i) := fun i hi => by
    refine g.sub _ _ (hRl i hi) ?_
    cases i with
    | zero => exact sub_refl _
    | succ i => exact meet_sub_l _ _
  intro d
  induction d with
  | zero =>
    intro i hi
    have : i = m := by omega
    subst this
    rw [bN_last (by omega), hF _ (by omega)]
    exact ⟨hf _ (by omega), sub_refl _, fun h => by omega⟩
  | succ d ih =>
    intro i hi
    obtain ⟨h1, h2, _⟩ := ih (i + 1) (by omega)
    have h3 : sub (bN back (fL on l) (i+1)) (on i (fN on l i)) := sub_trans h2 (by rw [fN]; exact meet_sub_r _ _)
    rw [bN_step (j := i) (by omega), hF _ (by omega)]
    exact ⟨g.fullM i _ _ (hRf i (by omega)) (hf i (by omega)) h1 h3, meet_sub_l _ _, fun _ => ⟨g.gal i _ _ h3, meet_sub_r _ _⟩⟩
theorem rounds_full (g : Gaps R on back) (hR : ∀ s ∈ l, R s) {m r : Nat} (hm : m + 1 = l.length) (hr : l.length ≤ r) (hf : ∀ i, i < l.length → full (fN on l i)) :
    roundsS on back m r l = bwdS back 0 (fL on l) ∧ ∀ s ∈ roundsS on back m r l, full s := by
  have hFl : (fL on l).length = l.length := fL_length on l
  have hp := bN_props g hR hm hf
  have hp' : ∀ i, i < l.length → _ := fun i hi => hp (m - i) i (by omega)
  have hfl : ∀ i, i < l.length → sub (fN on l i) l[i]! := fun i _ => by
    cases i with
    | zero => exact sub_refl _
    | succ i => exact meet_sub_l _ _
  have hlow := low_rounds g (b := bN back (fL on l)) (l := l) rfl (m := m) (by omega) (fun i hi => ((hp' i (by omega)).2.2 hi).1) (fun i hi => ((hp' i (by omega)).2.2 hi).2) (fun j hj => sub_trans (hp' j hj).2.1 (hfl j hj)) r
  have hup := rounds_bN g hm r
  have he : ∀ i, i < l.length → (roundsS on back m r l)[i]! = bN back (fL on l) i := fun i hi => sub_antisymm (hup i hi (by omega) (by omega)) (hlow i hi)
  have hbl : (bwdS back 0 (fL on l)).length = l.length := by rw [bwdS_length, hFl]
  constructor
  · refine List.ext_getElem (by rw [roundsS_length, hbl]) fun i h1 h2 => ?_
    have := he i (by omega)
    rw [getElem!_pos _ i h1, bN, getElem!_pos _ i h2] at this
    exact this
  · intro s hs
    obtain ⟨i, hi, rfl⟩ := List.getElem_of_mem hs
    rw [roundsS_length] at hi
    have := he i hi
    rw [getElem!_pos _ i (by rw [roundsS_length]; exact hi)] at this
    rw [this]
    exact (hp' i hi).1
theorem rounds_empty (g : Gaps R on back) {m r : Nat} (hm : m + 1 = l.length) (hr : 1 ≤ r) (hf : ∃ i, i < l.length ∧ ¬ full (fN on l i)) :
    ¬ ∀ s ∈ roundsS on back m r l, full s := by
  obtain ⟨i, hi, hn⟩ := hf
  intro h
  cases r with
  | zero => omega
  | succ r =>
    have hs := sweep_fN g (cur := roundsS on back m r l) (roundsS_length ..) (rounds_sub r m (by omega)) hm i hi
    have h1 := h (roundsS on back m (r+1) l)[i]! (by rw [getElem!_pos _ i (by rw [roundsS_length]; exact hi)]; exact List.getElem_mem _)
    rw [roundsS] at h1
    unfold full at *; unfold sub at hs; omega
end
end Go.Proofs.YtjjkgamklbgnlaaGreat.Vm
