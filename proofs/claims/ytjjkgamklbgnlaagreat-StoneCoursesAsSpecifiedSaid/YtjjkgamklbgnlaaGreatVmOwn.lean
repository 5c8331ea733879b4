/- Slices of one's own that grow by append. -/
import Derived.Test.YtjjkgamklbgnlaaGreatVmSim
namespace Go.Proofs.YtjjkgamklbgnlaaGreat.Vm
open Go

/-- The cells of a row of things, each of which takes the cells f. -/
def rowOf {α : Type} (f : α → List PV) (l : List α) : List AV := (l.map fun a => (f a).map AV.pure).flatten
def bytesF (c : UInt8) : List PV := [.int .u8 c.toNat]
theorem rowB_eq (l : List UInt8) : rowB l = rowOf bytesF l := by
  induction l with
  | nil => rfl
  | cons c l ih =>
    simp only [rowB] at ih
    simp [rowB, rowOf, bytesF, ih]
theorem rowOf_append {α : Type} (f : α → List PV) (l m : List α) : rowOf f (l ++ m) = rowOf f l ++ rowOf f m := by simp [rowOf]
theorem rowOf_one {α : Type} (f : α → List PV) (a : α) : rowOf f [a] = (f a).map .pure := by simp [rowOf]
theorem rowOf_length {α : Type} {f : α → List PV} {sz : Nat} (hf : ∀ a, (f a).length = sz) (l : List α) : (rowOf f l).length = l.length * sz := by
  induction l with
  | nil => simp [rowOf]
  | cons a l ih =>
    have : rowOf f (a :: l) = (f a).map .pure ++ rowOf f l := by simp [rowOf]
    rw [this, List.length_append, ih]
    simp [hf, Nat.add_mul, Nat.add_comm]

/-- A slice that is nil, or one's own. -/
def OwnV {α : Type} (f : α → List PV) (sz : Nat) (H : Heap) (v : AV) (l : List α) : Prop :=
  (l = [] ∧ v = .pure .nils) ∨ ∃ id, v = .row id sz 0 l.length ∧ H.get id = .cells true (rowOf f l)

section
variable {α : Type} {f : α → List PV} {sz : Nat} {H : Heap} {v : AV} {l : List α}
theorem OwnV.nil : OwnV f sz H (.pure .nils) [] := .inl ⟨rfl, rfl⟩
theorem OwnV.alloc (h : OwnV f sz H v l) (o : AObj) : OwnV f sz (H.alloc o) v l := by
  rcases h with h | ⟨id, h1, h2⟩
  · exact .inl h
  · exact .inr ⟨id, h1, by rw [get_alloc_lt (nx_of_get h2)]; exact h2⟩
theorem OwnV.keep {H' : Heap} (h : OwnV f sz H v l) (hk : ∀ id, (∃ n, v = .row id sz 0 n) → H'.get id = H.get id) : OwnV f sz H' v l := by
  rcases h with h | ⟨id, h1, h2⟩
  · exact .inl h
  · exact .inr ⟨id, h1, by rw [hk id ⟨_, h1⟩]; exact h2⟩

theorem sliceCells_row1 {id n : Nat} {own : Bool} {cs : List AV} (h : H.get id = .cells own cs) (hl : n * sz ≤ cs.length) : sliceCells H sz (.row id sz 0 n) = some (cs.take (n * sz), n) := by
  simp only [sliceCells, if_true, h, Nat.zero_mul, Nat.zero_add, if_pos hl, List.drop_zero]

theorem all_one_pures (ps : List PV) (h : ps.all PV.one = true) : (ps.map AV.pure).all AV.one = true := by
  simp only [List.all_map, List.all_eq_true] at h ⊢
  intro p hp
  have := h p hp
  cases p <;> first | rfl | simp [PV.one] at this

/-- One thing is appended. -/
theorem wpE_append {bytes : Nat} {b : AV} {a : α} {k : AV → Heap → Prop} {u} (hv : OwnV f sz H v l) (hf : ∀ a, (f a).length = sz) (h0 : 0 < sz) (hone : (f a).all PV.one = true)
    (hb : sliceCells H sz b = some ((f a).map .pure, 1)) (hm : (l.length + 1) * sz ≤ maxCells ∧ (l.length + 1) * bytes ≤ maxCells)
    (hk : ∀ v' H', OwnV f sz H' v' (l ++ [a]) → H.nx ≤ H'.nx → (∀ id, H.get id ≠ .dead → (∀ n, v ≠ .row id sz 0 n) → H'.get id = H.get id) → (∀ id, (∃ n, v' = .row id sz 0 n) → (∃ n, v = .row id sz 0 n) ∨ H.nx ≤ id) → k v' H') : wpE 0 (doAppend H sz bytes v b) H k u := by
  have ho := all_one_pures _ hone
  rcases hv with ⟨rfl, rfl⟩ | ⟨id, rfl, hid⟩
  · have : doAppend H sz bytes (.pure .nils) b = some (.new (.cells true ((f a).map .pure)) fun id => .row id sz 0 1) := by
      simp only [doAppend, hb, ho]
      have h1 : 1 * sz ≤ maxCells ∧ 1 * bytes ≤ maxCells := by simpa using hm
      simp only [Bool.not_true, Bool.false_eq_true, if_false]
      rw [if_neg (by simp), if_pos h1]
    rw [this, wpE_new]
    refine hk _ _ (.inr ⟨H.nx, rfl, ?_⟩) (Nat.le_succ _) (fun id hd _ => get_alloc_lt (lt_of_get hd)) fun id ⟨n, hn⟩ => .inr ?_
    · rw [get_alloc_nx]; simp [rowOf]
    · simp at hn; omega
  · have hlen := rowOf_length hf l
    have hnot : ¬ (0 * sz + (l.length + 1) * sz ≤ (rowOf f l).length) := by rw [hlen, Nat.add_mul]; omega
    have : doAppend H sz bytes (.row id sz 0 l.length) b = some (.upd (.row H.nx sz 0 (l.length + 1)) ((H.set id .dead).alloc (.cells true (rowOf f l ++ (f a).map .pure)))) := by
      simp only [doAppend, hb, ho, hid]
      simp only [Bool.not_true, Bool.false_eq_true, if_false, if_true]
      rw [if_neg hnot]
      simp only [true_and]
      rw [if_pos ⟨hlen.symm, hm⟩]
    rw [this, wpE_upd]
    refine hk _ _ (.inr ⟨H.nx, by simp, ?_⟩) (Nat.le_succ _) (fun i hd hne => ?_) fun i ⟨n, hn⟩ => .inr ?_
    · have : (H.set id .dead).nx = H.nx := rfl
      rw [← this, get_alloc_nx, rowOf_append, rowOf_one]
    · have hlt := lt_of_get hd
      rw [get_alloc_lt (by exact hlt), get_set_ne]
      intro e
      subst e
      exact hne _ rfl
    · simp at hn; omega
theorem OwnV.toStr {v : AV} {l : List UInt8} (h : OwnV bytesF 1 H v l) : toStrV H v = some (.val (.pure (.str ⟨l.toArray⟩))) := by
  rcases h with ⟨rfl, rfl⟩ | ⟨id, rfl, h⟩
  · rfl
  · rw [toStrV_row, h, ← rowB_eq, toStrIn_rowB rfl]
end
end Go.Proofs.YtjjkgamklbgnlaaGreat.Vm
