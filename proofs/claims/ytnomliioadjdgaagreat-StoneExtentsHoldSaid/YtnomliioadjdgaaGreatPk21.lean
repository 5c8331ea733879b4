/- Appending in a chain: onto an empty literal, and rows of more than one. -/
import Derived.Test.YtnomliioadjdgaaGreatPk16
namespace Go.Proofs.YtnomliioadjdgaaGreat.Vm
open Go
set_option linter.unusedSimpArgs false
set_option linter.unusedVariables false

def sliceLV (sz : Nat) (v : AV) (lo hi : Option AV) : Option Eff := match v with
  | .pure p => sliceV Heap.empty sz (.pure p) lo hi
  | _ => none
@[simp] theorem sliceLV_pure (sz : Nat) (p : PV) (lo hi : Option AV) : sliceLV sz (.pure p) lo hi = sliceV Heap.empty sz (.pure p) lo hi := rfl
@[simp] theorem st_sliceL' {cl : Callee} {env : Env} {H : Heap} (sz : Nat) (x : Opnd) (lo hi : Option Opnd) : step cl env H (.sliceL sz x lo hi) = sliceLV sz (x.eval env) (lo.map (·.eval env)) (hi.map (·.eval env)) := by
  have h1 := st_slice (cl := cl) (env := env) (H := Heap.empty) sz x lo hi
  simp only [step] at h1 ⊢
  cases hx : x.eval env with
  | pure p =>
    rw [hx] at h1
    rw [sliceLV_pure, ← h1]
    cases p <;> rfl
  | _ => simp only [sliceLV]
def doAppendE (H : Heap) (sz bytes : Nat) (a b : AV) : Option Eff := match sliceCells H sz b with
    | none => none
    | some (new, m) => if !new.all AV.one then none else match a with
      | .void id s => if s = sz then (if m = 0 then some (.val (.row id sz 0 0)) else
          if m * sz ≤ maxCells ∧ m * bytes ≤ maxCells then some (.new (.cells true new) fun id => .row id sz 0 m) else none) else none
      | _ => none
@[simp] theorem st_appendE' {cl : Callee} {env : Env} {H : Heap} (sz bytes : Nat) (a b : Opnd) : step cl env H (.appendE sz bytes a b) = doAppendE H sz bytes (a.eval env) (b.eval env) := by simp only [step, doAppendE]; rfl

section
variable {α : Type} {f : α → List PV} {sz : Nat} {H : Heap} {v : AV} {l : List α}
/-- A row onto an empty literal. -/
theorem wpE_appendE {bytes pre id : Nat} {b : AV} {k : AV → Heap → Prop} {u} (hb : sliceCells H sz b = some (rowOf f l, l.length)) (hid : H.get id = .cells true []) (hone : ∀ a, (f a).all PV.one = true)
    (hm : l.length * sz ≤ maxCells ∧ l.length * bytes ≤ maxCells)
    (hk : ∀ v' H', OwnV f sz H' v' l → H.nx ≤ H'.nx → (∀ i, i < H.nx → H'.get i = H.get i) → (∀ i, Names v' i → i = id ∨ H.nx ≤ i) → k v' H') : wpE pre (doAppendE H sz bytes (.void id sz) b) H k u := by
  have ho := rowOf_one' hone l
  simp only [doAppendE, hb, ho]
  simp only [Bool.not_true, Bool.false_eq_true, if_false, if_true]
  by_cases h0 : l.length = 0
  · have hl : l = [] := List.eq_nil_of_length_eq_zero h0
    subst hl
    rw [if_pos (show ([] : List α).length = 0 from rfl), wpE_val]
    exact hk _ _ (.inr ⟨id, rfl, by rw [hid]; rfl⟩) (Nat.le_refl _) (fun _ _ => rfl) fun i ⟨_, _, _, h⟩ => by simp at h; exact .inl h.1.symm
  · rw [if_neg h0, if_pos hm, wpE_new]
    refine hk _ _ (.inr ⟨H.nx, rfl, get_alloc_nx _⟩) (Nat.le_succ _) (fun i hi => get_alloc_lt hi) fun i ⟨_, _, _, h⟩ => ?_
    simp at h
    exact .inr (by omega)

/-- A row is appended. -/
theorem wpE_appendL {bytes : Nat} {b : AV} {m : List α} {k : AV → Heap → Prop} {u} (hv : OwnV f sz H v l) (hf : ∀ a, (f a).length = sz) (h0 : 0 < sz) (hone : ∀ a, (f a).all PV.one = true)
    (hb : sliceCells H sz b = some (rowOf f m, m.length)) (hm : (l.length + m.length) * sz ≤ maxCells ∧ (l.length + m.length) * bytes ≤ maxCells)
    (hk : ∀ v' H', OwnV f sz H' v' (l ++ m) → H.nx ≤ H'.nx → (∀ i, i < H.nx → ¬ Names v i → H'.get i = H.get i) → (∀ i, Names v' i → Names v i ∨ H.nx ≤ i) → k v' H') : wpE 0 (doAppend H sz bytes v b) H k u := by
  have ho := rowOf_one' hone m
  rcases hv with ⟨rfl, rfl⟩ | ⟨id, rfl, hid⟩
  · simp only [List.length_nil, Nat.zero_add] at hm
    by_cases hm0 : m.length = 0
    · have hl : m = [] := List.eq_nil_of_length_eq_zero hm0
      subst hl
      have : doAppend H sz bytes (.pure .nils) b = some (.val (.pure .nils)) := by
        simp only [doAppend, hb, ho]
        simp
      rw [this, wpE_val]
      exact hk _ _ (.inl ⟨rfl, rfl⟩) (Nat.le_refl _) (fun _ _ _ => rfl) fun i h => .inl h
    · have : doAppend H sz bytes (.pure .nils) b = some (.new (.cells true (rowOf f m)) fun id => .row id sz 0 m.length) := by
        simp only [doAppend, hb, ho]
        simp only [Bool.not_true, Bool.false_eq_true, if_false]
        rw [if_neg hm0, if_pos hm]
      rw [this, wpE_new]
      refine hk _ _ (.inr ⟨H.nx, by simp, by rw [List.nil_append]; exact get_alloc_nx _⟩) (Nat.le_succ _) (fun i hi _ => get_alloc_lt hi) fun i ⟨_, _, _, h⟩ => .inr ?_
      simp at h; omega
  · have hlen := rowOf_length hf l
    by_cases hm0 : m.length = 0
    · have hl : m = [] := List.eq_nil_of_length_eq_zero hm0
      subst hl
      have : doAppend H sz bytes (.row id sz 0 l.length) b = some (.upd (.row id sz 0 l.length) (H.set id (.cells true (rowOf f l)))) := by
        simp only [doAppend, hb, ho, hid, rowOf_nil]
        simp only [Bool.not_true, Bool.false_eq_true, if_false, if_true, List.all_nil, List.length_nil, Nat.add_zero, Nat.zero_mul, Nat.zero_add, List.append_nil]
        rw [if_pos (by rw [hlen]; exact Nat.le_refl _), List.take_of_length_le (by rw [hlen]; exact Nat.le_refl _), List.drop_eq_nil_of_le (by rw [hlen]; exact Nat.le_refl _), List.append_nil]
      rw [this, wpE_upd]
      refine hk _ _ (.inr ⟨id, by simp, ?_⟩) (Nat.le_refl _) (fun i hi hn => get_set_ne fun e => hn (by subst e; exact ⟨_, _, _, rfl⟩)) fun i h => ?_
      · rw [get_set_same (nx_of_get hid), List.append_nil]
      · obtain ⟨_, _, _, h⟩ := h
        simp at h
        exact .inl ⟨_, _, _, by rw [h.1]⟩
    · have hnot : ¬ (0 * sz + (l.length + m.length) * sz ≤ (rowOf f l).length) := by
        rw [hlen, Nat.add_mul]
        have := Nat.mul_pos (Nat.pos_of_ne_zero hm0) h0
        omega
      have : doAppend H sz bytes (.row id sz 0 l.length) b = some (.upd (.row H.nx sz 0 (l.length + m.length)) ((H.set id .dead).alloc (.cells true (rowOf f l ++ rowOf f m)))) := by
        simp only [doAppend, hb, ho, hid]
        simp only [Bool.not_true, Bool.false_eq_true, if_false, if_true]
        rw [if_neg hnot]
        simp only [true_and]
        rw [if_pos ⟨hlen.symm, hm⟩]
      rw [this, wpE_upd]
      refine hk _ _ (.inr ⟨H.nx, by simp, ?_⟩) (Nat.le_succ _) (fun i hi hn => ?_) fun i ⟨_, _, _, h⟩ => .inr ?_
      · have : (H.set id .dead).nx = H.nx := rfl
        rw [← this, get_alloc_nx, rowOf_append]
      · rw [get_alloc_lt (by exact hi), get_set_ne]
        intro e
        subst e
        exact hn ⟨_, _, _, rfl⟩
      · simp at h; omega

theorem OwnV.mkRes {n : Nat} (h : OwnV f sz H v l) (hf : ∀ a, (f a).length = sz) (hl : l ≠ []) : FrzK H false (n + 2) v ((Sl.mk false l).pv f sz) := by
  rcases h.frz (k := false) (n := n) hf with h1 | ⟨h1, _⟩
  · cases l with
    | nil => exact absurd rfl hl
    | cons a l => exact h1
  · exact absurd h1 hl
end
end Go.Proofs.YtnomliioadjdgaaGreat.Vm
