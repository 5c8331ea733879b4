/- Appending in a chain: onto an empty literal, and rows of more than one. Maps: what single operations come to; sets of numbers, and tables from numbers. -/
import Derived.Test.YtnomliioadjdgaaGreatPk16
namespace Go.Proofs.YtnomliioadjdgaaGreat.Vm
open Go
set_option linter.unusedSimpArgs false
set_option linter.unusedVariables false

def sliceLV (sz : Nat) (v : AV) (lo hi : Option AV) : Option Eff := match v with
  | .pure p => sliceV Heap.empty sz (.pure p) lo hi
  | _ => none
@[simp] theorem sliceLV_pure (sz : Nat) (p : PV) (lo hi : Option AV) : sliceLV sz (.pure p) lo hi = sliceV Heap.empty sz (.pure p) lo hi := rfl
@[simp] theorem st_sliceL' {cl : Callee} {env : Env} {H : Heap} (sz : Nat) (x : Opnd) (lo hi : Option Opnd) : step cl env H (.sliceL sz x lo hi) = sliceLV sz (x.eval env) (lo.map (·.eval env)) (hi.map (·.eval env)) := by
  have h1 := st_slice (cl := cl) (env := env) (H := Heap.empty) sz x lo hi
  simp only [step] at h1 ⊢
  cases hx : x.eval env with
  | pure p =>
    rw [hx] at h1
    rw [sliceLV_pure, ← h1]
    cases p <;> rfl
  | _ => simp only [sliceLV]
def doAppendE (H : Heap) (sz bytes : Nat) (a b : AV) : Option Eff := match sliceCells H sz b with
    | none => none
    | some (new, m) => if !new.all AV.one then none else match a with
      | .void id s => if s = sz then (if m = 0 then some (.val (.row id sz 0 0)) else
          if m * sz ≤ maxCells ∧ m * bytes ≤ maxCells then some (.new (.cells true new) fun id => .row id sz 0 m) else none) else none
      | _ => none
@[simp] theorem st_appendE' {cl : Callee} {env : Env} {H : Heap} (sz bytes : Nat) (a b : Opnd) : step cl env H (.appendE sz bytes a b) = doAppendE H sz bytes (a.eval env) (b.eval env) := by simp only [step, doAppendE]; rfl

section
variable {α : Type} {f : α → List PV} {sz : Nat} {H : Heap} {v : AV} {l : List α}
/-- A row onto an empty literal. -/
theorem wpE_appendE {bytes pre id : Nat} {b : AV} {k : AV → Heap → Prop} {u} (hb : sliceCells H sz b = some (rowOf f l, l.length)) (hid : H.get id = .cells true []) (hone : ∀ a, (f a).all PV.one = true)
    (hm : l.length * sz ≤ maxCells ∧ l.length * bytes ≤ maxCells)
    (hk : ∀ v' H', OwnV f sz H' v' l → H.nx ≤ H'.nx → (∀ i, i < H.nx → H'.get i = H.get i) → (∀ i, Names v' i → i = id ∨ H.nx ≤ i) → k v' H') : wpE pre (doAppendE H sz bytes (.void id sz) b) H k u := by
  have ho := rowOf_one' hone l
  simp only [doAppendE, hb, ho]
  simp only [Bool.not_true, Bool.false_eq_true, if_false, if_true]
  by_cases h0 : l.length = 0
  · have hl : l = [] := List.eq_nil_of_length_eq_zero h0
    subst hl
    rw [if_pos (show ([] : List α).length = 0 from rfl), wpE_val]
    exact hk _ _ (.inr ⟨id, rfl, by rw [hid]; rfl⟩) (Nat.le_refl _) (fun _ _ => rfl) fun i ⟨_, _, _, h⟩ => by simp at h; exact .inl h.1.symm
  · rw [if_neg h0, if_pos hm, wpE_new]
    refine hk _ _ (.inr ⟨H.nx, rfl, get_alloc_nx _⟩) (Nat.le_succ _) (fun i hi => get_alloc_lt hi) fun i ⟨_, _, _, h⟩ => ?_
    simp at h
    exact .inr (by omega)

/-- A row is appended. -/
theorem wpE_appendL {bytes : Nat} {b : AV} {m : List α} {k : AV → Heap → Prop} {u} (hv : OwnV f sz H v l) (hf : ∀ a, (f a).length = sz) (h0 : 0 < sz) (hone : ∀ a, (f a).all PV.one = true)
    (hb : sliceCells H sz b = some (rowOf f m, m.length)) (hm : (l.length + m.length) * sz ≤ maxCells ∧ (l.length + m.length) * bytes ≤ maxCells)
    (hk : ∀ v' H', OwnV f sz H' v' (l ++ m) → H.nx ≤ H'.nx → (∀ i, i < H.nx → ¬ Names v i → H'.get i = H.get i) → (∀ i, Names v' i → Names v i ∨ H.nx ≤ i) → k v' H') : wpE 0 (doAppend H sz bytes v b) H k u := by
  have ho := rowOf_one' hone m
  rcases hv with ⟨rfl, rfl⟩ | ⟨id, rfl, hid⟩
  · simp only [List.length_nil, Nat.zero_add] at hm
    by_cases hm0 : m.length = 0
    · have hl : m = [] := List.eq_nil_of_length_eq_zero hm0
      subst hl
      have : doAppend H sz bytes (.pure .nils) b = some (.val (.pure .nils)) := by
        simp only [doAppend, hb, ho]
        simp
      rw [this, wpE_val]
      exact hk _ _ (.inl ⟨rfl, rfl⟩) (Nat.le_refl _) (fun _ _ _ => rfl) fun i h => .inl h
    · have : doAppend H sz bytes (.pure .nils) b = some (.new (.cells true (rowOf f m)) fun id => .row id sz 0 m.length) := by
        simp only [doAppend, hb, ho]
        simp only [Bool.not_true, Bool.false_eq_true, if_false]
        rw [if_neg hm0, if_pos hm]
      rw [this, wpE_new]
      refine hk _ _ (.inr ⟨H.nx, by simp, by rw [List.nil_append]; exact get_alloc_nx _⟩) (Nat.le_succ _) (fun i hi _ => get_alloc_lt hi) fun i ⟨_, _, _, h⟩ => .inr ?_
      simp at h; omega
  · have hlen := rowOf_length hf l
    by_cases hm0 : m.length = 0
    · have hl : m = [] := List.eq_nil_of_length_eq_zero hm0
      subst hl
      have : doAppend H sz bytes (.row id sz 0 l.length) b = some (.upd (.row id sz 0 l.length) (H.set id (.cells true (rowOf f l)))) := by
        simp only [doAppend, hb, ho, hid, rowOf_nil]
        simp only [Bool.not_true, Bool.false_eq_true, if_false, if_true, List.all_nil, List.length_nil, Nat.add_zero, Nat.zero_mul, Nat.zero_add, List.append_nil]
        rw [if_pos (by rw [hlen]; exact Nat.le_refl _), List.take_of_length_le (by rw [hlen]; exact Nat.le_refl _), List.drop_eq_nil_of_le (by rw [hlen]; exact Nat.le_refl _), List.append_nil]
      rw [this, wpE_upd]
      refine hk _ _ (.inr ⟨id, by simp, ?_⟩) (Nat.le_refl _) (fun i hi hn => get_set_ne fun e => hn (by subst e; exact ⟨_, _, _, rfl⟩)) fun i h => ?_
      · rw [get_set_same (nx_of_get hid), List.append_nil]
      · obtain ⟨_, _, _, h⟩ := h
        simp at h
        exact .inl ⟨_, _, _, by rw [h.1]⟩
    · have hnot : ¬ (0 * sz + (l.length + m.length) * sz ≤ (rowOf f l).length) := by
        rw [hlen, Nat.add_mul]
        have := Nat.mul_pos (Nat.pos_of_ne_zero hm0) h0
        omega
      have : doAppend H sz bytes (.row id sz 0 l.length) b = some (.upd (.row H.nx sz 0 (l.length + m.length)) ((H.set id .dead).alloc (.cells true (rowOf f l ++ rowOf f m)))) := by
        simp only [doAppend, hb, ho, hid]
        simp only [Bool.not_true, Bool.false_eq_true, if_false, if_true]
        rw [if_neg hnot]
        simp only [true_and]
        rw [if_pos ⟨hlen.symm, hm⟩]
      rw [this, wpE_upd]
      refine hk _ _ (.inr ⟨H.nx, by simp, ?_⟩) (Nat.le_succ _) (fun i hi hn => ?_) fun i ⟨_, _, _, h⟩ => .inr ?_
      · have : (H.set id .dead).nx = H.nx := rfl
        rw [← this, get_alloc_nx, rowOf_append]
      · rw [get_alloc_lt (by exact hi), get_set_ne]
        intro e
        subst e
        exact hn ⟨_, _, _, rfl⟩
      · simp at h; omega

theorem OwnV.mkRes {n : Nat} (h : OwnV f sz H v l) (hf : ∀ a, (f a).length = sz) (hl : l ≠ []) : FrzK H false (n + 2) v ((Sl.mk false l).pv f sz) := by
  rcases h.frz (k := false) (n := n) hf with h1 | ⟨h1, _⟩
  · cases l with
    | nil => exact absurd rfl hl
    | cons a l => exact h1
  · exact absurd h1 hl
end
end Go.Proofs.YtnomliioadjdgaaGreat.Vm

namespace Go.Proofs.YtnomliioadjdgaaGreat.Vm
open Go
set_option linter.unusedSimpArgs false
set_option linter.unusedVariables false

def lookIn (o : AObj) (str : Bool) (zero : PV) (ok : Bool) (key : PV) : Option Eff := match o with
  | .mapo es => match mapFind str key es with
    | some (some v) => some (.val (.pure (if ok then .tup [v, .bool true] else v)))
    | some none => some (.val (.pure (if ok then .tup [zero, .bool false] else zero)))
    | none => none
  | _ => none
def lookV (H : Heap) (str : Bool) (zero : PV) (ok : Bool) (m k : AV) : Option Eff := match m, k with
  | .mapv id, .pure key => lookIn (H.get id) str zero ok key
  | _, _ => none
def setIn (o : AObj) (str : Bool) (key v : PV) : Option AObj := match o with
  | .mapo es => (mapSet str key v es).map .mapo
  | _ => none
def putV (H : Heap) (str : Bool) (m k x : AV) : Option Eff := match m, k, x with
  | .mapv id, .pure key, .pure v => (setIn (H.get id) str key v).map fun o => .upd (.tup []) (H.set id o)
  | _, _, _ => none
def lenIn (o : AObj) : Option Eff := match o with
  | .mapo es => some (.val (.pure (.int .i64 es.length)))
  | _ => none
def lenMapV (H : Heap) (m : AV) : Option Eff := match m with
  | .mapv id => lenIn (H.get id)
  | _ => none
section
variable {cl : Callee} {env : Env} {H : Heap}
@[simp] theorem st_makeMap : step cl env H .makeMap = some (.new (.mapo []) fun id => .mapv id) := rfl
@[simp] theorem st_lookup (str : Bool) (z : PV) (ok : Bool) (m k : Opnd) : step cl env H (.lookup str z ok m k) = lookV H str z ok (m.eval env) (k.eval env) := by
  simp only [step, lookV, lookIn]; rfl
@[simp] theorem lookV_map (str : Bool) (z : PV) (ok : Bool) (id : Nat) (key : PV) : lookV H str z ok (.mapv id) (.pure key) = lookIn (H.get id) str z ok key := rfl
@[simp] theorem st_mapPut (str : Bool) (m k x : Opnd) : step cl env H (.mapPut str m k x) = putV H str (m.eval env) (k.eval env) (x.eval env) := by
  simp only [step, putV, setIn]
  cases m.eval env <;> try rfl
  rename_i id
  cases k.eval env <;> try rfl
  rename_i key
  cases x.eval env <;> try rfl
  rename_i v
  simp only
  generalize H.get id = o
  cases o <;> try rfl
  rename_i es
  simp only
  cases mapSet str key v es <;> rfl
@[simp] theorem putV_map (str : Bool) (id : Nat) (key v : PV) : putV H str (.mapv id) (.pure key) (.pure v) = (setIn (H.get id) str key v).map fun o => .upd (.tup []) (H.set id o) := rfl
@[simp] theorem st_lenMap (x : Opnd) : step cl env H (.lenMap x) = lenMapV H (x.eval env) := by
  simp only [step, lenMapV, lenIn]; rfl
@[simp] theorem lenMapV_map (id : Nat) : lenMapV H (.mapv id) = lenIn (H.get id) := rfl
@[simp] theorem cells_mapv (id : Nat) : AV.cells (.mapv id) = [.mapv id] := rfl
@[simp] theorem one_mapv (id : Nat) : AV.one (.mapv id) = true := rfl

/-! ### Room for more -/
def capV (v : AV) : Option Eff := match v with
  | .pure .nils => some (.val (.pure (.int .i64 0)))
  | _ => none
@[simp] theorem st_capSl (x : Opnd) : step cl env H (.capSl x) = capV (x.eval env) := by
  simp only [step, capV]; rfl
@[simp] theorem capV_nil : capV (.pure .nils) = some (.val (.pure (.int .i64 0))) := rfl
def appendZV (sz bytes : Nat) (zero : List PV) (a n : AV) : Option Eff := match a, n with
  | .pure .nils, .pure (.int _ k) =>
      if 0 ≤ k ∧ k.toNat * sz ≤ maxCells ∧ k.toNat * bytes ≤ maxCells ∧ k.toNat ≤ maxCells then
        if k = 0 then some (.val (.pure .nils)) else some (.new (.cells true ((List.replicate k.toNat (zero.map AV.pure)).flatten)) fun id => .row id sz 0 k.toNat)
      else none
  | _, _ => none
@[simp] theorem st_appendZ (sz bytes : Nat) (zero : List PV) (a n : Opnd) : step cl env H (.appendZ sz bytes zero a n) = appendZV sz bytes zero (a.eval env) (n.eval env) := by
  simp only [step, appendZV]; rfl
theorem appendZV_nil {sz bytes : Nat} {zero : List PV} {q : IntKind} {k : Nat} (h0 : k ≠ 0) (h : k * sz ≤ maxCells ∧ k * bytes ≤ maxCells ∧ k ≤ maxCells) : appendZV sz bytes zero (.pure .nils) (.pure (.int q (k : Int))) = some (.new (.cells true ((List.replicate k (zero.map AV.pure)).flatten)) fun id => .row id sz 0 k) := by
  simp only [appendZV, Int.toNat_natCast]
  rw [if_pos ⟨by omega, h⟩, if_neg (by omega)]

/-! ### Sets of numbers -/
def setO (l : List Int) : AObj := .mapo (l.map fun k => (.int .i64 k, .bool true))
@[simp] theorem setO_nil : setO [] = .mapo [] := rfl
def insS (l : List Int) (k : Int) : List Int := if k ∈ l then l else l ++ [k]
theorem mem_insS {l : List Int} {k x : Int} : x ∈ insS l k ↔ x ∈ l ∨ x = k := by
  unfold insS
  split
  · exact ⟨.inl, fun h => by rcases h with h | rfl <;> assumption⟩
  · simp
theorem find_set : ∀ (l : List Int) (k : Int), mapFind false (.int .i64 k) (l.map fun k => (PV.int .i64 k, PV.bool true)) = some (if k ∈ l then some (.bool true) else none)
  | [], k => by simp [mapFind]
  | a :: l, k => by
    simp only [List.map_cons, mapFind, keySame]
    simp only [and_self, if_true]
    by_cases h : k = a
    · subst h; simp
    · have : (k == a) = false := by simpa using h
      rw [this]
      simp only [find_set l k, List.mem_cons, h, false_or]
@[simp] theorem lookIn_set (l : List Int) (k : Int) : lookIn (setO l) false (.bool false) false (.int .i64 k) = some (.val (.pure (.bool (decide (k ∈ l))))) := by
  simp only [lookIn, setO, find_set]
  by_cases h : k ∈ l <;> simp [h]
@[simp] theorem lookIn_set0 (k : Int) : lookIn (.mapo []) false (.bool false) false (.int .i64 k) = some (.val (.pure (.bool false))) := rfl
theorem set_set : ∀ (l : List Int) (k : Int), mapSet false (.int .i64 k) (.bool true) (l.map fun k => (PV.int .i64 k, PV.bool true)) = some ((insS l k).map fun k => (PV.int .i64 k, PV.bool true))
  | [], k => by simp [mapSet, insS]
  | a :: l, k => by
    simp only [List.map_cons, mapSet, keySame]
    simp only [and_self, if_true]
    by_cases h : k = a
    · subst h; simp [insS]
    · have : (k == a) = false := by simpa using h
      rw [this]
      simp only [set_set l k, insS, List.mem_cons, h, false_or]
      split <;> simp
@[simp] theorem setIn_set (l : List Int) (k : Int) : setIn (setO l) false (.int .i64 k) (.bool true) = some (setO (insS l k)) := by
  simp only [setIn, setO, set_set, Option.map_some]
@[simp] theorem setIn_set0 (k : Int) : setIn (.mapo []) false (.int .i64 k) (.bool true) = some (setO [k]) := rfl
end
end Go.Proofs.YtnomliioadjdgaaGreat.Vm
