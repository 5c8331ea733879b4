/- Covering boxes; what a course tells has proper boxes; the least boxes of all courses. The least boxes of all places, as the program finds them. Extents and In, as the program answers. What is true of a life fits: plain Lean. -/
import Derived.Test.YtnomliioadjdgaaGreatPk18
namespace Go.Proofs.YtnomliioadjdgaaGreat.Vm
open Go
set_option linter.unusedSimpArgs false
set_option linter.unusedVariables false
set_option maxHeartbeats 4000000

def coverS (a b : Span) : Span := ⟨min a.lo b.lo, max a.hi b.hi⟩
def coverB (a b : Box) : Box := ⟨coverS a.x b.x, coverS a.y b.y⟩
theorem sh48 : G.shared 48 = false := by decide
theorem e48 (n : Nat) (a b : Span) : callP G (n + 1) 48 [.agg a.cells, .agg b.cells] = some (.agg (coverS a b).cells) := by
  refine callP_of (ext_none _) rfl g48 rfl ?_
  (repeat' first | simp [*, initEnv, c48, Span.cells, coverS] | (refine wpIf_two (fun _ h => ?_) (fun _ h => ?_) <;> try simp [-Nat.le_zero_eq] at h))
@[simp] theorem d48 (n : Nat) (H : Heap) (a_lo : Int) (a_hi : Int) (b_lo : Int) (b_hi : Int) : doCall (calleeOf G (n + 1)) H (.pure (.func 48 [])) [.pure (.agg [.int .i64 a_lo, .int .i64 a_hi]), .pure (.agg [.int .i64 b_lo, .int .i64 b_hi])] = some (.val (.pure ((fun (a : Span) => (fun (b : Span) => .agg (coverS a b).cells) (⟨b_lo, b_hi⟩ : Span)) (⟨a_lo, a_hi⟩ : Span)))) :=
  call_pureC (ps := [_, _]) (caps := []) sh48 (e48 n (⟨a_lo, a_hi⟩ : Span) (⟨b_lo, b_hi⟩ : Span))
theorem sh16 : G.shared 16 = false := by decide
theorem e16 (n : Nat) (a b : Box) (ha : properS a = true) (hb : properS b = true) : callP G (n + 4) 16 [.agg a.cells, .agg b.cells] = some (.tup [.agg (coverB a b).cells, .bool true]) := by
  refine callP_of (ext_none _) rfl g16 rfl ?_
  (repeat' first | simp [*, initEnv, c16, Box.cells, coverB] | (refine wpIf_two (fun _ h => ?_) (fun _ h => ?_) <;> try simp [-Nat.le_zero_eq] at h))
@[simp] theorem d16 (n : Nat) (H : Heap) (a_x_lo : Int) (a_x_hi : Int) (a_y_lo : Int) (a_y_hi : Int) (b_x_lo : Int) (b_x_hi : Int) (b_y_lo : Int) (b_y_hi : Int) (ha : (fun (a : Box) => properS a = true) (⟨⟨a_x_lo, a_x_hi⟩, ⟨a_y_lo, a_y_hi⟩⟩ : Box)) (hb : (fun (b : Box) => properS b = true) (⟨⟨b_x_lo, b_x_hi⟩, ⟨b_y_lo, b_y_hi⟩⟩ : Box)) : doCall (calleeOf G (n + 4)) H (.pure (.func 16 [])) [.pure (.agg [.int .i64 a_x_lo, .int .i64 a_x_hi, .int .i64 a_y_lo, .int .i64 a_y_hi]), .pure (.agg [.int .i64 b_x_lo, .int .i64 b_x_hi, .int .i64 b_y_lo, .int .i64 b_y_hi])] = some (.val (.pure ((fun (a : Box) => (fun (b : Box) => .tup [.agg (coverB a b).cells, .bool true]) (⟨⟨b_x_lo, b_x_hi⟩, ⟨b_y_lo, b_y_hi⟩⟩ : Box)) (⟨⟨a_x_lo, a_x_hi⟩, ⟨a_y_lo, a_y_hi⟩⟩ : Box)))) :=
  call_pureC (ps := [_, _]) (caps := []) sh16 (e16 n (⟨⟨a_x_lo, a_x_hi⟩, ⟨a_y_lo, a_y_hi⟩⟩ : Box) (⟨⟨b_x_lo, b_x_hi⟩, ⟨b_y_lo, b_y_hi⟩⟩ : Box) ha hb)
theorem sh47 : G.shared 47 = false := by decide
theorem e47 (n : Nat) (a b : Box) (ha : properR a = true) (hb : properR b = true) : callP G (n + 4) 47 [.agg a.cells, .agg b.cells] = some (.tup [.agg (coverB a b).cells, .bool true]) := by
  refine callP_of (ext_none _) rfl g47 rfl ?_
  (repeat' first | simp [*, initEnv, c47, Box.cells, coverB, coverS] | (refine wpIf_two (fun _ h => ?_) (fun _ h => ?_) <;> try simp [-Nat.le_zero_eq] at h))
@[simp] theorem d47 (n : Nat) (H : Heap) (a_x_lo : Int) (a_x_hi : Int) (a_y_lo : Int) (a_y_hi : Int) (b_x_lo : Int) (b_x_hi : Int) (b_y_lo : Int) (b_y_hi : Int) (ha : (fun (a : Box) => properR a = true) (⟨⟨a_x_lo, a_x_hi⟩, ⟨a_y_lo, a_y_hi⟩⟩ : Box)) (hb : (fun (b : Box) => properR b = true) (⟨⟨b_x_lo, b_x_hi⟩, ⟨b_y_lo, b_y_hi⟩⟩ : Box)) : doCall (calleeOf G (n + 4)) H (.pure (.func 47 [])) [.pure (.agg [.int .i64 a_x_lo, .int .i64 a_x_hi, .int .i64 a_y_lo, .int .i64 a_y_hi]), .pure (.agg [.int .i64 b_x_lo, .int .i64 b_x_hi, .int .i64 b_y_lo, .int .i64 b_y_hi])] = some (.val (.pure ((fun (a : Box) => (fun (b : Box) => .tup [.agg (coverB a b).cells, .bool true]) (⟨⟨b_x_lo, b_x_hi⟩, ⟨b_y_lo, b_y_hi⟩⟩ : Box)) (⟨⟨a_x_lo, a_x_hi⟩, ⟨a_y_lo, a_y_hi⟩⟩ : Box)))) :=
  call_pureC (ps := [_, _]) (caps := []) sh47 (e47 n (⟨⟨a_x_lo, a_x_hi⟩, ⟨a_y_lo, a_y_hi⟩⟩ : Box) (⟨⟨b_x_lo, b_x_hi⟩, ⟨b_y_lo, b_y_hi⟩⟩ : Box) ha hb)

theorem proper_iff {b : Box} : properS b = true ↔ (-1048576 ≤ b.x.lo ∧ b.x.lo ≤ b.x.hi ∧ b.x.hi ≤ 1048576) ∧ (-1048576 ≤ b.y.lo ∧ b.y.lo ≤ b.y.hi ∧ b.y.hi ≤ 1048576) := by
  simp only [properS, spanS, Bool.and_eq_true, decide_eq_true_eq]
  omega
theorem cover_proper {a b : Box} (ha : properS a = true) (hb : properS b = true) : properS (coverB a b) = true := by
  rw [proper_iff] at *
  simp only [coverB, coverS]
  omega
theorem nar_proper {l : Life} {c : List Int} (hr : Right l) (hc : c.length + 1 = l.sights.xs.length) (hx : someS (narX l c) = true) (hy : someS (narY l c) = true) : ∀ b ∈ (narX l c).zipWith Box.mk (narY l c), properS b = true := by
  intro b hb
  obtain ⟨i, hi, rfl⟩ := List.mem_iff_getElem.1 hb
  have hi' : i < (narX l c).length ∧ i < (narY l c).length := by simp at hi; omega
  have hl : (narX l c).length = l.sights.xs.length := by simp [narX, roundsS_length]
  have hli : i < l.sights.xs.length := by omega
  have sx := rounds_sub (on := onX l c) (back := onX l c) (l := l.sights.xs.map (·.box.x)) (2 * l.sights.xs.length) c.length (by simp; omega) i (by simpa using hli)
  have sy := rounds_sub (on := onX l c) (back := onX l c) (l := l.sights.xs.map (·.box.y)) (2 * l.sights.xs.length) c.length (by simp; omega) i (by simpa using hli)
  have fx := (allL_full _).1 hx _ (List.getElem_mem hi'.1)
  have fy := (allL_full _).1 hy _ (List.getElem_mem hi'.2)
  have hs := hr.sp (List.getElem_mem hli)
  rw [getElem!_pos (roundsS _ _ _ _ _) i (by simpa [roundsS_length] using hli), getElem!_pos (l.sights.xs.map _) i (by simpa using hli)] at sx sy
  rw [proper_iff]
  simp only [List.getElem_zipWith]
  have ex : (narX l c)[i]'hi'.1 = (roundsS (onX l c) (onX l c) c.length (2 * l.sights.xs.length) (l.sights.xs.map (·.box.x)))[i]'(by simpa [roundsS_length] using hli) := rfl
  have ey : (narY l c)[i]'hi'.2 = (roundsS (onX l c) (onX l c) c.length (2 * l.sights.xs.length) (l.sights.xs.map (·.box.y)))[i]'(by simpa [roundsS_length] using hli) := rfl
  rw [ex] at fx ⊢
  rw [ey] at fy ⊢
  simp only [List.getElem_map] at sx sy
  unfold sub at sx sy
  unfold full at fx fy
  unfold okSp at hs
  omega
theorem tell_proper {l : Life} {c : List Int} (hr : Right l) (hc : c.length + 1 = l.sights.xs.length) {t : TellR} (ht : tellS l c = some t) : t.boxes.length = l.sights.xs.length ∧ ∀ b ∈ t.boxes, properS b = true := by
  rw [tell_can hr hc] at ht
  split at ht
  · rename_i h
    simp only [Option.some.injEq] at ht
    subst ht
    unfold canS at h
    simp only [Bool.and_eq_true] at h
    refine ⟨by simp [narX, narY, roundsS_length], nar_proper hr hc (by simp [h]) (by simp [h])⟩
  · simp at ht

/-! ### The fold over all courses -/
def boxesP (l : Life) (c : List Int) : Option (List Box) := (tellS l c).map (·.boxes)
def covO (B : List Box) : Option (List Box) → List Box
  | none => B
  | some A => A.zipWith coverB B
def extTo (f : List Int → Option (List Box)) (most : Int) (m : Nat) : Nat → Option (List Box)
  | 0 => none
  | j + 1 => match f (toC m j) with
    | none => extTo f most m j
    | some B => if most < chg (toC m j) then extTo f most m j else some (covO B (extTo f most m j))
def okBs (n : Nat) (B : List Box) : Prop := B.length = n ∧ ∀ b ∈ B, properS b = true
theorem okBs_cover {n : Nat} {A B : List Box} (ha : okBs n A) (hb : okBs n B) : okBs n (A.zipWith coverB B) := by
  refine ⟨by simp [ha.1, hb.1], fun b h => ?_⟩
  obtain ⟨i, hi, rfl⟩ := List.mem_iff_getElem.1 h
  rw [List.getElem_zipWith]
  exact cover_proper (ha.2 _ (List.getElem_mem _)) (hb.2 _ (List.getElem_mem _))
theorem extTo_ok {f : List Int → Option (List Box)} {most : Int} {m n : Nat} (hf : ∀ j B, f (toC m j) = some B → okBs n B) : ∀ j A, extTo f most m j = some A → okBs n A
  | 0, A, h => by simp [extTo] at h
  | j + 1, A, h => by
    have ih := extTo_ok (most := most) hf j
    rw [extTo] at h
    split at h
    · exact ih _ h
    · rename_i B hB
      have hb := hf _ _ hB
      split at h
      · exact ih _ h
      · simp only [Option.some.injEq] at h
        subst h
        cases hA : extTo f most m j with
        | none => exact hb
        | some A' => exact okBs_cover (ih _ hA) hb
theorem boxes_ok {l : Life} (hr : Right l) : ∀ j B, boxesP l (toC (l.sights.xs.length - 1) j) = some B → okBs l.sights.xs.length B := fun j B h => by
  have h1 := hr.one
  unfold boxesP at h
  rw [Option.map_eq_some_iff] at h
  obtain ⟨t, ht, rfl⟩ := h
  exact tell_proper hr (by rw [toC_length]; omega) ht

/-! ### Lists changed place by place -/
def mixG {α : Type} (Z B : List α) (i : Nat) : List α := Z.take i ++ B.drop i
section
variable {α : Type} {Z B : List α} {i : Nat}
theorem mixG_length (h : Z.length = B.length) (hi : i ≤ B.length) : (mixG Z B i).length = B.length := by simp [mixG]; omega
theorem mixG_get (h : Z.length = B.length) (hi : i < B.length) (hj : i < (mixG Z B i).length) : (mixG Z B i)[i] = B[i] := by
  simp only [mixG]
  rw [List.getElem_append_right (by simp; omega)]
  simp [Nat.min_eq_left (show i ≤ Z.length by omega)]
theorem mixG_set (h : Z.length = B.length) (hi : i < B.length) : (mixG Z B i).set i (Z[i]'(by omega)) = mixG Z B (i + 1) := by
  have hl : (Z.take i).length = i := by simp; omega
  simp only [mixG]
  rw [List.set_append_right _ _ (by omega), hl, Nat.sub_self, List.drop_eq_getElem_cons hi, List.set_cons_zero, ← take_succ' (by omega), List.append_assoc]
  rfl
theorem mixG_end (h : Z.length = B.length) (hi : i = B.length) : mixG Z B i = Z := by
  simp only [mixG]
  rw [List.take_of_length_le (by omega), List.drop_eq_nil_of_le (by omega), List.append_nil]
end
end Go.Proofs.YtnomliioadjdgaaGreat.Vm

namespace Go.Proofs.YtnomliioadjdgaaGreat.Vm
open Go
set_option linter.unusedSimpArgs false
set_option linter.unusedVariables false
set_option maxHeartbeats 4000000

@[simp] theorem vbin_nil_row (i s o n : Nat) : vbin .eql .slice (.row i s o n) (.pure .nils) = some (.pure (.bool false)) := vbin_slNil rfl
@[simp] theorem vbin_nil_nils : vbin .eql .slice (.pure .nils) (.pure .nils) = some (.pure (.bool true)) := vbin_slNil rfl
@[simp] theorem vbin_nil_sl {α : Type} (f : α → List PV) (sz : Nat) (s : Sl α) : vbin .eql .slice (.pure (s.pv f sz)) (.pure .nils) = some (.pure (.bool s.isNil)) := vbin_slNil (by simp)
def extPV : Option (List Box) → PV
  | none => .nils
  | some B => (Sl.mk false B).pv Box.cells 4
/-- What the loop over courses leaves in the box. -/
def extJ (m idc : Nat) (H : Heap) : Option (List Box) → Prop
  | none => H.get 0 = .cells true [.pure .nils]
  | some B => ∃ id, 1 < id ∧ id ≠ idc ∧ H.get 0 = .cells true [.row id 4 0 m] ∧ H.get id = .cells true (rowOf Box.cells B)
theorem extJ.stab {m idc : Nat} {H1 H2 : Heap} {o : Option (List Box)} (hi : 1 < idc) (h : extJ m idc H1 o) (hs : ∀ i, i < H1.nx → i ≠ idc → i ≠ 1 → H2.get i = H1.get i) : extJ m idc H2 o := by
  cases o with
  | none =>
    have h : H1.get 0 = _ := h
    show H2.get 0 = _
    rw [hs 0 (nx_of_get h) (by omega) (by omega)]; exact h
  | some c =>
    obtain ⟨id, h2, h3, h0, hg⟩ := h
    exact ⟨id, h2, h3, by rw [hs 0 (nx_of_get h0) (by omega) (by omega)]; exact h0, by rw [hs id (nx_of_get hg) h3 (by omega)]; exact hg⟩

theorem sh42 : G.shared 42 = false := by decide
theorem e42 (n : Nat) (l : Life) (most : Int) (hr : Right l) : callP G (n + 10) 42 [.agg l.cells, .int .i64 most] = some (extPV (extTo (boxesP l) most (l.sights.xs.length - 1) (3 ^ (l.sights.xs.length - 1)))) := by
  refine callP_of (ext_none _) rfl g42 rfl ?_
  have h1 := hr.one
  have h9 := hr.nine
  (repeat' first | simp [*, initEnv, c42] | (refine wpIf_two (fun _ h => ?_) (fun _ h => ?_) <;> try simp [-Nat.le_zero_eq] at h))
  refine wp_coursesA (n := n) (l := l) hr (by simp) rfl (fun idc j H1 => 1 < idc ∧ extJ l.sights.xs.length idc H1 (extTo (boxesP l) most (l.sights.xs.length - 1) j)) ?_ ?_ ?_ ?_ ?_
  · rintro idc j H1 H2 ⟨hi, hJ⟩ hnx hsame
    exact ⟨hi, hJ.stab hi hsame⟩
  · intro idc hi
    exact ⟨by simpa using hi, by simp [extTo, extJ]⟩
  · rintro idc j H1 hj ht ⟨hi, hJ⟩
    refine ⟨hi, ?_⟩
    have : boxesP l (toC (l.sights.xs.length - 1) j) = none := by unfold boxesP; rw [ht]; rfl
    rw [extTo, this]; exact hJ
  · intro idc j t H1 hj ht hi hlt
    have hi2 : 1 < idc := by simpa using hi
    clear hi
    (repeat' first | simp [*, initEnv] | (refine wpIf_two (fun _ h => ?_) (fun _ h => ?_) <;> try simp [-Nat.le_zero_eq] at h))
    refine ⟨fun i hi => by rw [get_set_ne (by omega), get_alloc_lt hi], ?_⟩
    rintro Hb hbx hbs hJ gc hnx
    have gt := hbs H1.nx (by omega)
    rw [get_set_own (by simp)] at gt
    have lt1 := nx_of_get gt
    clear hbs hbx
    have hcl := toC_length (l.sights.xs.length - 1) j
    have hB : boxesP l (toC (l.sights.xs.length - 1) j) = some t.boxes := by unfold boxesP; rw [ht]; rfl
    obtain ⟨hbl, hbp⟩ := tell_proper hr (by omega) ht
    have hst : Hide (extTo (boxesP l) most (l.sights.xs.length - 1) (j + 1) = if most < chg (toC (l.sights.xs.length - 1) j) then extTo (boxesP l) most (l.sights.xs.length - 1) j else some (covO t.boxes (extTo (boxesP l) most (l.sights.xs.length - 1) j))) := ⟨by rw [extTo, hB]⟩
    have hAo : Hide (∀ A, extTo (boxesP l) most (l.sights.xs.length - 1) j = some A → okBs l.sights.xs.length A) := ⟨fun A => extTo_ok (boxes_ok hr) j A⟩
    obtain ⟨s1, hs1, hf1⟩ := row_sl (f := intF) (sz := 1) (n := 10) (fun _ => rfl) gc hcl
    have hc1 : callP G (n + 7) 76 [s1.pv intF 1] = some (.int .i64 (chg (toC (l.sights.xs.length - 1) j))) := by
      have := e76 (n + 6) s1 (by rw [hs1]; omega)
      rw [hs1] at this; exact this
    have hbT : t.told.boxes = Sl.mk false t.boxes := by
      show Sl.of t.boxes = _
      cases hb : t.boxes with
      | nil => rw [hb] at hbl; simp at hbl; omega
      | cons b bs => rfl
    rw [hbT] at gt
    generalize t.boxes = B at *
    generalize t.told.heights = Hs at *
    generalize t.told.letters = Ls at *
    generalize hO : extTo (boxesP l) most (l.sights.xs.length - 1) j = O at *
    generalize hm : l.sights.xs.length - 1 = m at *
    generalize hC : toC m j = C at *
    have hbp' : Hide _ := ⟨hbp⟩
    clear hO hC hj ht hlt hB hbT hbp
    (repeat' first | simp [*, initEnv] | (refine wpIf_two (fun _ h => ?_) (fun _ h => ?_) <;> try simp [-Nat.le_zero_eq] at h))
    refine wpE_own (caps := []) (by decide) (.cons hf1 .nil) hc1 rfl ?_
    (repeat' first | simp [*, initEnv] | (refine wpIf_two (fun _ h => ?_) (fun _ h => ?_) <;> try simp [-Nat.le_zero_eq] at h))
    · rename_i h
      rw [hst.h, if_pos h]; exact hJ
    · have hst2 : Hide (extTo (boxesP l) most m (j + 1) = some (covO B O)) := ⟨by rw [hst.h, if_neg (by omega)]⟩
      clear hst hf1 hc1 hs1
      generalize extTo (boxesP l) most m (j + 1) = O2 at *
      generalize hN : l.sights.xs.length = N at *
      cases O with
      | none =>
        have hJ : Hb.get 0 = .cells true [.pure .nils] := hJ
        have hL : O2 = some B := hst2.h
        subst hL
        have hsc : ∀ H, sliceCells H 4 (.pure ((Sl.mk false B).pv Box.cells 4)) = some (rowOf Box.cells B, B.length) := fun H => sliceCells_sl' (f := Box.cells) (sz := 4) (fun _ => rfl) _
        have hsc' : Hide _ := ⟨hsc⟩
        clear hsc hst2 hAo
        (repeat' first | simp [*, initEnv] | (refine wpIf_two (fun _ h => ?_) (fun _ h => ?_) <;> try simp [-Nat.le_zero_eq] at h))
        refine wpE_run (caps := []) (by decide) ?_
        refine clone_call (b := false) (fun _ => rfl) g89 (hsc'.h _) rfl (fun h => by cases h) (fun _ => rfl) (by decide) (fun _ => rfl) (by simp [maxCells]; omega) ?_
        rintro v' H' hov hnl hx hsame hnew
        rcases hov with h | ⟨id', hv, g'⟩
        · exfalso; obtain ⟨ha, hb⟩ := h; rw [hb] at hnl; simp [isNil] at hnl
        subst hv
        have hid' : Hb.nx ≤ id' := hnew id' ⟨_, _, _, rfl⟩
        have g0' : H'.get 0 = .cells true [.pure .nils] := by rw [hsame 0 (by omega)]; exact hJ
        have gc' : H'.get idc = .cells true (rowOf intF C) := by rw [hsame idc (nx_of_get gc)]; exact gc
        have g1' : Hide (H'.get 1 = Hb.get 1) := ⟨hsame 1 hnx⟩
        have l0 := nx_of_get g0'
        have lc := nx_of_get gc
        have n0 : ¬ (0 = id') := by omega
        have nc : ¬ (id' = idc) := by omega
        have c0 : ¬ (idc = 0) := by omega
        clear gc hsame hnew hnl hsc' hJ
        (repeat' first | simp [*, initEnv] | (refine wpIf_two (fun _ h => ?_) (fun _ h => ?_) <;> try simp [-Nat.le_zero_eq] at h))
        refine ⟨g1'.h, id', by omega, nc, by simp [*], ?_⟩
        rw [get_set_ne (by omega)]; exact g'
      | some A =>
        obtain ⟨id, i2, i3, g0, gi⟩ := hJ
        have hL : O2 = some (A.zipWith coverB B) := hst2.h
        subst hL
        obtain ⟨hAl, hAp⟩ := hAo.h A rfl
        have hAp' : Hide _ := ⟨hAp⟩
        obtain ⟨Z, hZ⟩ : ∃ Z, Z = A.zipWith coverB B := ⟨_, rfl⟩
        have hZl : Z.length = A.length := by rw [hZ]; simp; omega
        have hZg : Hide (∀ (k : Nat) (h : k < Z.length), Z[k] = coverB (A[k]'(by omega)) (B[k]'(by omega))) := ⟨fun k h => by subst hZ; simp⟩
        rw [← hZ]
        clear hst2 hAo hAp hZ
        have l0 := nx_of_get g0
        have li := nx_of_get gi
        have lc := nx_of_get gc
        have nt : ¬ (H1.nx = 0) := by intro e; rw [e, g0] at gt; simp at gt
        have nt1 : ¬ (H1.nx = id) := by
          intro e
          rw [e, gi] at gt
          simp only [AObj.cells.injEq, true_and] at gt
          have := congrArg List.length gt
          rw [rowOf_length (sz := 4) (fun _ => rfl)] at this
          simp at this
          omega
        (repeat' first | simp [*, initEnv] | (refine wpIf_two (fun _ h => ?_) (fun _ h => ?_) <;> try simp [-Nat.le_zero_eq] at h))
        refine wp_loopF [(8, 8), (15, 34)] (fun (k : Nat) env H3 => env 15 = .pure (.int .i64 k) ∧ k ≤ N ∧ H3.nx = Hb.nx ∧ H3.get 0 = .cells true [.row id 4 0 N] ∧ H3.get id = .cells true (rowOf Box.cells (mixG Z A k)) ∧ H3.get idc = .cells true (rowOf intF C) ∧ H3.get 1 = Hb.get 1 ∧
          H3.get H1.nx = .cells true [.pure ((Sl.mk false B).pv Box.cells 4), .pure (Hs.pv Span.cells 2), .pure (Ls.pv strF 1)]) (fun k => N - k) 0 ?_ ?_ ?_ ?_
        · decide
        · exact ⟨by simp, Nat.zero_le _, rfl, g0, by simpa [mixG] using gi, gc, rfl, gt⟩
        · simp only [loopFuel]; omega
        rintro k env H3 ⟨h15, hk, gn, k0, ki, kc, k1, kt⟩
        have hfit : k < 9223372036854775807 := by omega
        by_cases hkN : k < N
        · have hXl := mixG_length (Z := Z) (B := A) (i := k) hZl (by omega)
          have hXg := mixG_get (Z := Z) (B := A) (i := k) hZl (by omega) (by omega)
          have hXs := mixG_set (Z := Z) (B := A) (i := k) hZl (by omega)
          rw [hZg.h k (by omega)] at hXs
          rw [hAl] at hXl
          obtain ⟨X, kX, hXl, hXg, hXs⟩ : ∃ X : List Box, H3.get id = .cells true (rowOf Box.cells X) ∧ X.length = N ∧ (∀ h, X[k]'h = A[k]'(by omega)) ∧ X.set k (coverB (A[k]'(by omega)) (B[k]'(by omega))) = mixG Z A (k + 1) := ⟨_, ki, hXl, fun _ => hXg, hXs⟩
          have hXg' := hXg (by omega)
          have hcov : ∀ H, doCall (calleeOf G (n + 7)) H (.pure (.func 16 [])) [.pure (.agg (A[k]'(by omega)).cells), .pure (.agg (B[k]'(by omega)).cells)] = some (.val (.pure (.tup [.agg (coverB (A[k]'(by omega)) (B[k]'(by omega))).cells, .bool true]))) := fun H =>
            d16 (n + 3) H _ _ _ _ _ _ _ _ (hAp'.h _ (List.getElem_mem _)) (hbp'.h _ (List.getElem_mem _))
          simp only [Box.cells] at hcov
          have hXs' : Hide _ := ⟨hXs⟩
          have li3 := nx_of_get kX
          have ni0 : ¬ (0 = id) := by omega
          have ni1 : ¬ (1 = id) := by omega
          have nic : ¬ (idc = id) := fun e => i3 e.symm
          clear hXs hXg ki gi g0 gc gt hAp' hbp' hZg
          (repeat' first | simp [*, initEnv] | (refine wpIf_two (fun _ h => ?_) (fun _ h => ?_) <;> try simp [-Nat.le_zero_eq] at h))
          exact ⟨k + 1, by omega, by simp, by omega, by rw [hXs'.h]⟩
        · have hie : k = N := by omega
          have hXe := mixG_end (Z := Z) (B := A) (i := k) hZl (by omega)
          rw [hXe] at ki
          (repeat' first | simp [*, initEnv] | (refine wpIf_two (fun _ h => ?_) (fun _ h => ?_) <;> try simp [-Nat.le_zero_eq] at h))
          exact ⟨id, i2, i3, k0, ki⟩
  · rintro idc H' ⟨hi, hJ⟩
    cases ho : extTo (boxesP l) most (l.sights.xs.length - 1) (3 ^ (l.sights.xs.length - 1)) with
    | none =>
      rw [ho] at hJ
      have hJ : H'.get 0 = _ := hJ
      (repeat' first | simp [*, initEnv, extPV] | (refine wpIf_two (fun _ h => ?_) (fun _ h => ?_) <;> try simp [-Nat.le_zero_eq] at h))
    | some B =>
      rw [ho] at hJ
      obtain ⟨id, i2, i3, g0, gi⟩ := hJ
      have hl := (extTo_ok (boxes_ok hr) _ _ ho).1
      obtain ⟨ids, hids⟩ := row_res (f := Box.cells) (sz := 4) (n := 10) (fun _ => rfl) gi hl
      (repeat' first | simp [*, initEnv, extPV] | (refine wpIf_two (fun _ h => ?_) (fun _ h => ?_) <;> try simp [-Nat.le_zero_eq] at h))
      exact ⟨ids, hids⟩
@[simp] theorem d42 (n : Nat) (H : Heap) (l_habit_step : Int) (l_habit_place : Int) (l_habit_sink : Int) (l_sights : Sl Sight) (l_notes : Sl Note) (most : Int) (hr : (fun (l : Life) => Right l) (⟨⟨l_habit_step, l_habit_place, l_habit_sink⟩, l_sights, l_notes⟩ : Life)) : doCall (calleeOf G (n + 10)) H (.pure (.func 42 [])) [.pure (.agg [.int .i64 l_habit_step, .int .i64 l_habit_place, .int .i64 l_habit_sink, (l_sights).pv Sight.cells 9, (l_notes).pv Note.cells 4]), .pure (.int .i64 most)] = some (.val (.pure ((fun (l : Life) => extPV (extTo (boxesP l) most (l.sights.xs.length - 1) (3 ^ (l.sights.xs.length - 1)))) (⟨⟨l_habit_step, l_habit_place, l_habit_sink⟩, l_sights, l_notes⟩ : Life)))) :=
  call_pureC (ps := [_, _]) (caps := []) sh42 (e42 n (⟨⟨l_habit_step, l_habit_place, l_habit_sink⟩, l_sights, l_notes⟩ : Life) most hr)
end Go.Proofs.YtnomliioadjdgaaGreat.Vm

namespace Go.Proofs.YtnomliioadjdgaaGreat.Vm
open Go
set_option linter.unusedSimpArgs false
set_option linter.unusedVariables false
set_option maxHeartbeats 4000000

def extL (l : Life) (most : Int) : Option (List Box) := extTo (boxesP l) most (l.sights.xs.length - 1) (3 ^ (l.sights.xs.length - 1))
theorem extL_ok {l : Life} (hr : Right l) {most : Int} {B : List Box} (h : extL l most = some B) : okBs l.sights.xs.length B := extTo_ok (boxes_ok hr) _ _ h
def extE (l : Life) (most : Int) : PV := if checkS l = 0 then (if most < 0 then .tup [.nils, .int .i64 1] else match extL l most with
  | none => .tup [.nils, .int .i64 9]
  | some B => .tup [(Sl.mk false B).pv Box.cells 4, .int .i64 0]) else .tup [.nils, .int .i64 (checkS l)]
theorem sh10 : G.shared 10 = false := by decide
theorem e10 (n : Nat) (l : Life) (most : Int) (hs : shortS l) : callP G (n + 11) 10 [.agg l.cells, .int .i64 most] = some (extE l most) := by
  refine callP_of (ext_none _) rfl g10 rfl ?_
  have hcc : ∀ H, doCall (calleeOf G (n + 10)) H (.pure (.func 41 [])) [.pure (.agg l.cells)] = some (.val (.pure (.int .i64 (checkS l)))) := fun H => d41 (n + 5) H l.habit.step l.habit.place l.habit.sink l.sights l.notes hs
  simp only [Life.cells] at hcc
  by_cases hck : checkS l = 0
  · have hr := (right_iff l).1 hck
    have hc : ∀ H, doCall (calleeOf G (n + 10)) H (.pure (.func 42 [])) [.pure (.agg l.cells), .pure (.int .i64 most)] = some (.val (.pure (extPV (extL l most)))) := fun H => d42 n H l.habit.step l.habit.place l.habit.sink l.sights l.notes most hr
    simp only [Life.cells] at hc
    cases ho : extL l most with
    | none =>
      rw [ho] at hc
      (repeat' first | simp [*, initEnv, c10, extPV, extE] | (refine wpIf_two (fun _ h => ?_) (fun _ h => ?_) <;> try simp [-Nat.le_zero_eq] at h))
    | some B =>
      rw [ho] at hc
      (repeat' first | simp [*, initEnv, c10, extPV, extE, Sl.isNil] | (refine wpIf_two (fun _ h => ?_) (fun _ h => ?_) <;> try simp [-Nat.le_zero_eq] at h))
  · (repeat' first | simp [*, initEnv, c10, extE] | (refine wpIf_two (fun _ h => ?_) (fun _ h => ?_) <;> try simp [-Nat.le_zero_eq] at h))
@[simp] theorem d10 (n : Nat) (H : Heap) (l_habit_step : Int) (l_habit_place : Int) (l_habit_sink : Int) (l_sights : Sl Sight) (l_notes : Sl Note) (most : Int) (hs : (fun (l : Life) => shortS l) (⟨⟨l_habit_step, l_habit_place, l_habit_sink⟩, l_sights, l_notes⟩ : Life)) : doCall (calleeOf G (n + 11)) H (.pure (.func 10 [])) [.pure (.agg [.int .i64 l_habit_step, .int .i64 l_habit_place, .int .i64 l_habit_sink, (l_sights).pv Sight.cells 9, (l_notes).pv Note.cells 4]), .pure (.int .i64 most)] = some (.val (.pure ((fun (l : Life) => extE l most) (⟨⟨l_habit_step, l_habit_place, l_habit_sink⟩, l_sights, l_notes⟩ : Life)))) :=
  call_pureC (ps := [_, _]) (caps := []) sh10 (e10 n (⟨⟨l_habit_step, l_habit_place, l_habit_sink⟩, l_sights, l_notes⟩ : Life) most hs)
/-- The place of the first sight that is not before a year. -/
def geI (y : Int) : List Sight → Nat
  | [] => 0
  | s :: r => if s.year < y then geI y r + 1 else 0
theorem geI_lt {y : Int} : ∀ {l : List Sight}, (∃ s ∈ l, y ≤ s.year) → geI y l < l.length ∧ (∀ i, idxL (fun s : Sight => decide (y ≤ s.year)) l i = (i : Int) + geI y l) ∧ (∀ k (h : k < l.length), k < geI y l → l[k].year < y) ∧ ∀ (h : geI y l < l.length), y ≤ l[geI y l].year
  | [], h => by simp at h
  | s :: r, h => by
    by_cases hs : s.year < y
    · have h' : ∃ s ∈ r, y ≤ s.year := by
        obtain ⟨t, ht, hy⟩ := h
        rcases List.mem_cons.1 ht with rfl | ht
        · omega
        · exact ⟨t, ht, hy⟩
      obtain ⟨i1, i2, i3, i4⟩ := geI_lt h'
      have e : geI y (s :: r) = geI y r + 1 := by rw [geI, if_pos hs]
      refine ⟨by rw [e]; simp; omega, fun i => ?_, fun k hk hlt => ?_, fun hlt => ?_⟩
      · rw [idxL, if_neg (by simp; omega), i2, e]; push_cast; omega
      · cases k with
        | zero => exact hs
        | succ k => exact i3 k (by simpa using hk) (by omega)
      · simp only [e, List.getElem_cons_succ]; exact i4 _
    · have e : geI y (s :: r) = 0 := by rw [geI, if_neg hs]
      refine ⟨by rw [e]; simp, fun i => ?_, fun k hk hlt => by omega, fun hlt => ?_⟩
      · rw [idxL, if_pos (by simp; omega), e]; simp
      · simp only [e, List.getElem_cons_zero]; omega
def zeroB : Box := ⟨⟨0, 0⟩, ⟨0, 0⟩⟩
def inS (l : Life) (y most : Int) : Box × Int := if checkS l = 0 then (if most < 0 then (zeroB, 1) else if y < (l.sights.xs[0]!).year ∨ (l.sights.xs[l.sights.xs.length - 1]!).year < y then (zeroB, 5) else match extL l most with
  | none => (zeroB, 9)
  | some B => if (l.sights.xs[geI y l.sights.xs]!).year = y then (B[geI y l.sights.xs]!, 0) else (coverB (B[geI y l.sights.xs - 1]!) (B[geI y l.sights.xs]!), 0)) else (zeroB, checkS l)
theorem sh46 : G.shared 46 = false := by decide
theorem e46 (n : Nat) (s : Sight) (y : Int) : callP G (n + 1) 46 [.agg s.cells, .ptr false [.int .i64 y] 0] = some (.bool (decide (y ≤ s.year))) := by
  refine callP_of (ext_none _) rfl g46 rfl ?_
  (repeat' first | simp [*, initEnv, c46] | (refine wpIf_two (fun _ h => ?_) (fun _ h => ?_) <;> try simp [-Nat.le_zero_eq] at h))
@[simp] theorem d46 (n : Nat) (H : Heap) (s_id : Int) (s_year : Int) (s_box_x_lo : Int) (s_box_x_hi : Int) (s_box_y_lo : Int) (s_box_y_hi : Int) (s_letters : List UInt8) (s_height_lo : Int) (s_height_hi : Int) (y : Int) : doCall (calleeOf G (n + 1)) H (.pure (.func 46 [.ptr false [.int .i64 y] 0])) [.pure (.agg [.int .i64 s_id, .int .i64 s_year, .int .i64 s_box_x_lo, .int .i64 s_box_x_hi, .int .i64 s_box_y_lo, .int .i64 s_box_y_hi, .str ⟨(s_letters).toArray⟩, .int .i64 s_height_lo, .int .i64 s_height_hi])] = some (.val (.pure ((fun (s : Sight) => .bool (decide (y ≤ s.year))) (⟨s_id, s_year, ⟨⟨s_box_x_lo, s_box_x_hi⟩, ⟨s_box_y_lo, s_box_y_hi⟩⟩, s_letters, ⟨s_height_lo, s_height_hi⟩⟩ : Sight)))) :=
  call_pureC (ps := [_]) (caps := [_]) sh46 (e46 n (⟨s_id, s_year, ⟨⟨s_box_x_lo, s_box_x_hi⟩, ⟨s_box_y_lo, s_box_y_hi⟩⟩, s_letters, ⟨s_height_lo, s_height_hi⟩⟩ : Sight) y)
theorem idx_in (n : Nat) (s : Sl Sight) (y : Int) (hl : s.xs.length < 1000) (H : Heap) : doCall (calleeOf G (n + 3)) H (.pure (.func 45 [])) [.pure (s.pv Sight.cells 9), .pure (.func 46 [.ptr false [.int .i64 y] 0])] = some (.val (.pure (.int .i64 (idxL (fun s : Sight => decide (y ≤ s.year)) s.xs 0)))) := by
  have h := indexFunc_call (n := n + 2) (f := Sight.cells) (sz := 9) (g := true) (p := .func 46 [.ptr false [.int .i64 y] 0]) (q := fun s : Sight => decide (y ≤ s.year)) (s := s) (ext_none 45) (fun _ _ => rfl) g45 (fun _ => rfl) (by omega)
    (fun H a ha => ⟨.pure (.agg a.cells), rfl, d46 (n + 1) H a.id a.year a.box.x.lo a.box.x.hi a.box.y.lo a.box.y.hi a.letters a.height.lo a.height.hi y⟩)
  exact call_pure (ps := [_, _]) (by decide) h
theorem sh12 : G.shared 12 = false := by decide
theorem e12 (n : Nat) (l : Life) (y most : Int) (hs : shortS l) : callP G (n + 12) 12 [.agg l.cells, .int .i64 y, .int .i64 most] = some (.tup [.agg (inS l y most).1.cells, .int .i64 (inS l y most).2]) := by
  refine callP_of (ext_none _) rfl g12 rfl ?_
  have hcc : ∀ H, doCall (calleeOf G (n + 11)) H (.pure (.func 41 [])) [.pure (.agg l.cells)] = some (.val (.pure (.int .i64 (checkS l)))) := fun H => d41 (n + 6) H l.habit.step l.habit.place l.habit.sink l.sights l.notes hs
  simp only [Life.cells] at hcc
  by_cases hck : checkS l = 0
  case neg =>
    have hP : inS l y most = (zeroB, checkS l) := by unfold inS; rw [if_neg hck]
    rw [hP]
    (repeat' first | simp [*, initEnv, c12, zeroB] | (refine wpIf_two (fun _ h => ?_) (fun _ h => ?_) <;> try simp [-Nat.le_zero_eq] at h))
  have hr := (right_iff l).1 hck
  have h1 := hr.one
  have h9 := hr.nine
  have hc : ∀ H, doCall (calleeOf G (n + 11)) H (.pure (.func 42 [])) [.pure (.agg l.cells), .pure (.int .i64 most)] = some (.val (.pure (extPV (extL l most)))) := fun H => d42 (n + 1) H l.habit.step l.habit.place l.habit.sink l.sights l.notes most hr
  have hidx0 : Hide _ := ⟨idx_in (n + 8) l.sights y (by omega)⟩
  have hw : IntKind.i64.wrap ((l.sights.xs.length : Int) - 1) = ((l.sights.xs.length - 1 : Nat) : Int) := wrap_pred (by omega) (by omega)
  have hl0 : 0 < l.sights.xs.length := by omega
  have hl1 : l.sights.xs.length - 1 < l.sights.xs.length := by omega
  have ha0 : addrV 9 (.pure (l.sights.pv Sight.cells 9)) (.pure (.int .i64 0)) = some (.val (.pure (.ptr l.sights.hot (l.sights.xs[0]'hl0).cells 0))) := addrV_sl (n := 0) hl0
  have hP : Hide (inS l y most = if most < 0 then ((zeroB, 1) : Box × Int) else if y < (l.sights.xs[0]'hl0).year ∨ (l.sights.xs[l.sights.xs.length - 1]'hl1).year < y then (zeroB, 5) else match extL l most with
    | none => (zeroB, 9)
    | some B => if (l.sights.xs[geI y l.sights.xs]!).year = y then (B[geI y l.sights.xs]!, 0) else (coverB (B[geI y l.sights.xs - 1]!) (B[geI y l.sights.xs]!), 0)) := ⟨by
      unfold inS
      rw [if_pos hck, getElem!_pos l.sights.xs 0 hl0, getElem!_pos l.sights.xs (l.sights.xs.length - 1) hl1]⟩
  generalize inS l y most = P at *
  simp only [Life.cells] at hc
  simp only [Sight.cells] at ha0
  rw [hck] at hcc
  clear hck
  by_cases hm : most < 0
  · have hP2 : P = (zeroB, 1) := by rw [hP.h, if_pos hm]
    subst hP2
    (repeat' first | simp [*, initEnv, c12, zeroB] | (refine wpIf_two (fun _ h => ?_) (fun _ h => ?_) <;> try simp [-Nat.le_zero_eq] at h))
  by_cases hy : y < (l.sights.xs[0]'hl0).year ∨ (l.sights.xs[l.sights.xs.length - 1]'hl1).year < y
  · have hP2 : P = (zeroB, 5) := by rw [hP.h, if_neg hm, if_pos hy]
    subst hP2
    rcases hy with hy | hy
    · (repeat' first | simp [*, initEnv, c12, zeroB] | (refine wpIf_two (fun _ h => ?_) (fun _ h => ?_) <;> try simp [-Nat.le_zero_eq] at h))
    · (repeat' first | simp [*, initEnv, c12, zeroB] | (refine wpIf_two (fun _ h => ?_) (fun _ h => ?_) <;> try simp [-Nat.le_zero_eq] at h))
  have hm' : 0 ≤ most := by omega
  have hyl : (l.sights.xs[0]'hl0).year ≤ y := by omega
  have hyh : y ≤ (l.sights.xs[l.sights.xs.length - 1]'hl1).year := by omega
  have hy1 : ¬ y < (l.sights.xs[0]'hl0).year := by omega
  have hy2 : ¬ (l.sights.xs[l.sights.xs.length - 1]'hl1).year < y := by omega
  cases hB : extL l most with
  | none =>
    have hP2 : P = (zeroB, 9) := by rw [hP.h, if_neg hm, if_neg hy, hB]
    subst hP2
    rw [hB] at hc
    clear hP hy
    (repeat' first | simp [*, initEnv, c12, zeroB, extPV] | (refine wpIf_two (fun _ h => ?_) (fun _ h => ?_) <;> try simp [-Nat.le_zero_eq] at h))
  | some B =>
    obtain ⟨hbl, hbp⟩ := extL_ok hr hB
    obtain ⟨k, g1, g5, hidx, hP2⟩ : ∃ k : Nat, ∃ g1 : k < l.sights.xs.length, (0 < k ∨ (l.sights.xs[k]'g1).year = y) ∧ (∀ H, doCall (calleeOf G (n + 11)) H (.pure (.func 45 [])) [.pure (l.sights.pv Sight.cells 9), .pure (.func 46 [.ptr false [.int .i64 y] 0])] = some (.val (.pure (.int .i64 (k : Int))))) ∧
        Hide (P = if (l.sights.xs[k]'g1).year = y then (B[k]!, 0) else (coverB (B[k - 1]!) (B[k]!), 0)) := by
      obtain ⟨g1, g2, g3, g4⟩ := geI_lt (y := y) (l := l.sights.xs) ⟨_, List.getElem_mem hl1, hyh⟩
      refine ⟨geI y l.sights.xs, g1, ?_, ?_, ⟨?_⟩⟩
      · rcases Nat.eq_zero_or_pos (geI y l.sights.xs) with h | h
        · right
          have := g4 g1
          simp only [h] at this ⊢
          omega
        · exact .inl h
      · intro H
        have := hidx0.h H
        rw [g2 0] at this
        simpa using this
      · rw [hP.h, if_neg hm, if_neg hy, hB]
        simp only
        rw [getElem!_pos l.sights.xs _ g1]
    rw [hB] at hc
    clear hP hy hB
    have hkB : k < B.length := by omega
    have hk1 : k - 1 < B.length := by omega
    rw [getElem!_pos B _ hkB, getElem!_pos B _ hk1] at hP2
    have hcov : ∀ H, doCall (calleeOf G (n + 11)) H (.pure (.func 16 [])) [.pure (.agg (B[k - 1]'hk1).cells), .pure (.agg (B[k]'hkB).cells)] = some (.val (.pure (.tup [.agg (coverB (B[k - 1]'hk1) (B[k]'hkB)).cells, .bool true]))) := fun H =>
      d16 (n + 7) H _ _ _ _ _ _ _ _ (hbp _ (List.getElem_mem _)) (hbp _ (List.getElem_mem _))
    simp only [Box.cells] at hcov
    clear hbp
    by_cases hyk : (l.sights.xs[k]'g1).year = y
    · have hP3 : P = (B[k]'hkB, 0) := by rw [hP2.h, if_pos hyk]
      subst hP3
      clear hP2 hcov
      (repeat' first | simp [*, initEnv, c12, extPV, Sl.isNil] | (refine wpIf_two (fun _ h => ?_) (fun _ h => ?_) <;> try simp [-Nat.le_zero_eq] at h))
    · have hP3 : P = (coverB (B[k - 1]'hk1) (B[k]'hkB), 0) := by rw [hP2.h, if_neg hyk]
      subst hP3
      have hk0 : 0 < k := by omega
      have ha1 : addrV 4 (.pure ((Sl.mk false B).pv Box.cells 4)) (.pure (.int .i64 ((k - 1 : Nat) : Int))) = some (.val (.pure (.ptr false (B[k - 1]'hk1).cells 0))) := addrV_sl (s := Sl.mk false B) hk1
      simp only [Box.cells] at ha1
      have hfit : k < 9223372036854775807 := by omega
      clear hP2
      (repeat' first | simp [*, initEnv, c12, extPV, Sl.isNil] | (refine wpIf_two (fun _ h => ?_) (fun _ h => ?_) <;> try simp [-Nat.le_zero_eq] at h))
@[simp] theorem d12 (n : Nat) (H : Heap) (l_habit_step : Int) (l_habit_place : Int) (l_habit_sink : Int) (l_sights : Sl Sight) (l_notes : Sl Note) (y : Int) (most : Int) (hs : (fun (l : Life) => shortS l) (⟨⟨l_habit_step, l_habit_place, l_habit_sink⟩, l_sights, l_notes⟩ : Life)) : doCall (calleeOf G (n + 12)) H (.pure (.func 12 [])) [.pure (.agg [.int .i64 l_habit_step, .int .i64 l_habit_place, .int .i64 l_habit_sink, (l_sights).pv Sight.cells 9, (l_notes).pv Note.cells 4]), .pure (.int .i64 y), .pure (.int .i64 most)] = some (.val (.pure ((fun (l : Life) => .tup [.agg (inS l y most).1.cells, .int .i64 (inS l y most).2]) (⟨⟨l_habit_step, l_habit_place, l_habit_sink⟩, l_sights, l_notes⟩ : Life)))) :=
  call_pureC (ps := [_, _, _]) (caps := []) sh12 (e12 n (⟨⟨l_habit_step, l_habit_place, l_habit_sink⟩, l_sights, l_notes⟩ : Life) y most hs)
end Go.Proofs.YtnomliioadjdgaaGreat.Vm

namespace Go.Proofs.YtnomliioadjdgaaGreat.Vm
open Go
set_option linter.unusedSimpArgs false
set_option linter.unusedVariables false
set_option maxHeartbeats 4000000

theorem true_is {l : Life} {x : Lived} (h : (trueR l x).2.1 = true) : givenS l x.course.xs = 0 ∧ sizesS l x ∧ (∀ k, k < l.sights.xs.length → seeS l x k = true) ∧ (∀ m ∈ l.notes.xs, notedS l.sights.xs m x.course.xs = true) ∧ (trueR l x).2.2 = 0 := by
  unfold trueR at h ⊢
  by_cases hg : givenS l x.course.xs ≠ 0
  · rw [if_pos hg] at h; simp at h
  rw [if_neg hg] at h ⊢
  by_cases hz : sizesS l x
  case neg => rw [if_neg hz] at h; simp at h
  rw [if_pos hz] at h ⊢
  cases hb : badSee l x with
  | some k => rw [hb] at h; simp at h
  | none =>
    rw [hb] at h
    simp only at h ⊢
    cases hn : badNote l x with
    | some m => rw [hn] at h; simp at h
    | none =>
      refine ⟨by simpa using hg, hz, fun k hk => ?_, fun m hm => ?_, rfl⟩
      · have := List.find?_eq_none.1 hb k (List.mem_range.2 hk)
        simpa using this
      · have := List.find?_eq_none.1 hn m hm
        simpa using this

/-! ### Letters -/
theorem reads_mixL : ∀ (t p q : List UInt8), t.length = p.length → t.length = q.length → noDot t = true → agreeL t p = true → agreeL t q = true →
    agreeL p q = true ∧ agreeL t (mixL p q) = true ∧ (mixL p q).length = p.length ∧ (allC true p = true → allC true q = true → allC true (mixL p q) = true)
  | [], [], [], _, _, _, _, _ => ⟨rfl, rfl, rfl, fun _ _ => rfl⟩
  | c :: t, a :: p, b :: q, h1, h2, hd, ha, hb => by
    simp only [noDot, Bool.and_eq_true] at hd
    simp only [agreeL, Bool.and_eq_true] at ha hb
    obtain ⟨i1, i2, i3, i4⟩ := reads_mixL t p q (by simpa using h1) (by simpa using h2) hd.2 ha.2 hb.2
    have hc : ¬ (c.toNat : Int) = 46 := by simpa using hd.1
    have e1 : (c.toNat : Int) = a.toNat ∨ (a.toNat : Int) = 46 := by
      have := ha.1
      simp [hc] at this
      omega
    have e2 : (c.toNat : Int) = b.toNat ∨ (b.toNat : Int) = 46 := by
      have := hb.1
      simp [hc] at this
      omega
    simp only [agreeL, mixL, allC, Bool.and_eq_true, i1, i2, and_true, List.length_cons, i3, true_and]
    refine ⟨?_, ?_, fun h3 h4 => ⟨?_, i4 h3.2 h4.2⟩⟩
    · simp; omega
    · split
      · simp [hc]; omega
      · simp [hc]; omega
    · split
      · exact h4.1
      · exact h3.1
  | [], _ :: _, _, h, _, _, _, _ => by simp at h
  | [], [], _ :: _, _, h, _, _, _ => by simp at h
  | _ :: _, [], _, h, _, _, _, _ => by simp at h
  | _ :: _, _ :: _, [], _, h, _, _, _ => by simp at h
theorem reads_mix {t p q : List UInt8} (hd : noDot t = true) (h1 : agreeR t p = true) (h2 : agreeR t q = true) : agreeR p q = true ∧ agreeR t (mixL p q) = true := by
  simp only [agreeR, patR, Bool.and_eq_true, decide_eq_true_eq] at h1 h2 ⊢
  obtain ⟨a1, a2, a3, a4⟩ := reads_mixL t p q (by omega) (by omega) hd h1.2 h2.2
  have := a4 h1.1.1.2.1.1 h2.1.1.2.1.1
  refine ⟨⟨⟨⟨?_, ?_⟩, ?_⟩, a1⟩, ⟨⟨⟨?_, ?_⟩, ?_⟩, a2⟩⟩
  · exact h1.1.1.2
  · exact h2.1.1.2
  · omega
  · exact h1.1.1.1
  · rw [a3]; exact ⟨⟨this, h1.1.1.2.1.2⟩, h1.1.1.2.2⟩
  · omega
/-- Letters that read what was seen, sight for sight. -/
def Chain : List UInt8 → List (Int × List UInt8) → List (List UInt8) → Prop
  | _, [], [] => True
  | t, (k, s) :: r, u :: us => noDot u = true ∧ agreeR u s = true ∧ (k = 2 ∨ t = u) ∧ Chain u r us
  | _, _, _ => False
theorem goL_reads : ∀ (r : List (Int × List UInt8)) (us : List (List UInt8)) (t p : List UInt8) (m : Nat), Chain t r us → noDot t = true → agreeR t p = true →
    ∃ out, goL p m r = some out ∧ out.length = m + r.length ∧ ∀ i, i < out.length → agreeR (List.replicate m t ++ us)[i]! out[i]! = true
  | [], [], t, p, m, _, hd, hp => ⟨List.replicate m p, rfl, by simp, fun i hi => by
      have hi' : i < m := by simpa using hi
      rw [getElem!_pos _ i (by simpa using hi'), getElem!_pos _ i (by simpa using hi')]
      simpa using hp⟩
  | (k, s) :: r, u :: us, t, p, m, hc, hd, hp => by
    obtain ⟨h1, h2, h3, h4⟩ := hc
    by_cases hk : k = 2
    · obtain ⟨out, e1, e2, e3⟩ := goL_reads r us u s 1 h4 h1 h2
      refine ⟨List.replicate m p ++ out, by rw [goL, if_pos hk, e1]; rfl, by simp [e2]; omega, fun i hi => ?_⟩
      rcases Nat.lt_or_ge i m with h | h
      · rw [getElem!_pos _ i (by simp; omega), getElem!_pos _ i (by simp; omega), List.getElem_append_left (by simpa using h), List.getElem_append_left (by simpa using h)]
        simpa using hp
      · have hi2 : i - m < out.length := by simp at hi; omega
        have := e3 (i - m) hi2
        have hul : 1 + us.length = out.length := by
          rw [e2]
          have : ∀ (t : List UInt8) (r : List (Int × List UInt8)) (us : List (List UInt8)), Chain t r us → us.length = r.length := by
            intro t r
            induction r generalizing t with
            | nil => intro us h; cases us with
              | nil => rfl
              | cons => exact h.elim
            | cons a r ih => intro us h; cases us with
              | nil => exact h.elim
              | cons u us => simp [ih u us h.2.2.2]
          rw [this u r us h4]
        rw [getElem!_pos _ (i - m) (by simp; omega), getElem!_pos _ (i - m) hi2] at this
        rw [getElem!_pos _ i (by simp; omega), getElem!_pos _ i (by simp; omega), List.getElem_append_right (by simpa using h), List.getElem_append_right (by simpa using h)]
        simpa using this
    · have ht : t = u := by rcases h3 with h | h; exact absurd h hk; exact h
      subst ht
      obtain ⟨g1, g2⟩ := reads_mix hd hp h2
      obtain ⟨out, e1, e2, e3⟩ := goL_reads r us t (mixL p s) (m + 1) h4 hd g2
      refine ⟨out, by rw [goL, if_neg hk, if_pos g1]; exact e1, by simp [e2]; omega, fun i hi => ?_⟩
      have := e3 i hi
      rwa [List.replicate_succ', List.append_assoc] at this
  | [], _ :: _, _, _, _, h, _, _ => h.elim
  | _ :: _, [], _, _, _, h, _, _ => h.elim
theorem chain_of : ∀ (r : List (Int × List UInt8)) (us : List (List UInt8)) (t : List UInt8), us.length = r.length → (∀ i (h : i < r.length) (h' : i < us.length), noDot us[i] = true ∧ agreeR us[i] r[i].2 = true ∧ (r[i].1 = 2 ∨ (t :: us)[i]! = us[i])) → Chain t r us
  | [], [], _, _, _ => trivial
  | (k, s) :: r, u :: us, t, hl, h => by
    obtain ⟨h1, h2, h3⟩ := h 0 (by simp) (by simp)
    refine ⟨h1, h2, by simpa using h3, chain_of r us u (by simpa using hl) fun i hi hi' => ?_⟩
    have := h (i + 1) (by simp; omega) (by simp; omega)
    simpa using this
  | [], _ :: _, _, h, _ => by simp at h
  | _ :: _, [], _, h, _ => by simp at h

/-! ### Spans -/
def ptS (p : Int) : Span := ⟨p, p⟩
theorem pt_full {p : Int} {s : Span} (h : sub (ptS p) s) : full s := by unfold sub ptS full at *; simp only at h; omega

section
variable {l : Life} {x : Lived}
structure TrueOf (l : Life) (x : Lived) : Prop where
  right : Right l
  len : x.course.xs.length + 1 = l.sights.xs.length
  kinds : ∀ k ∈ x.course.xs, 0 ≤ k ∧ k ≤ 2
  sizes : sizesS l x
  see : ∀ k, k < l.sights.xs.length → seeS l x k = true
  notes : ∀ m ∈ l.notes.xs, notedS l.sights.xs m x.course.xs = true
theorem trueOf (h : (trueR l x).2.1 = true) : TrueOf l x := by
  obtain ⟨h1, h2, h3, h4, _⟩ := true_is h
  obtain ⟨hr, hc, hk⟩ := given_zero h1
  exact ⟨hr, hc, hk, h2, h3, h4⟩
theorem TrueOf.at_ (h : TrueOf l x) {k : Nat} (hk : k < l.sights.xs.length) : inBox l.sights.xs[k]!.box x.points.xs[k]! = true ∧ noDot x.letters.xs[k]! = true ∧ agreeR x.letters.xs[k]! l.sights.xs[k]!.letters = true ∧ l.sights.xs[k]!.height.lo ≤ x.heights.xs[k]! ∧ x.heights.xs[k]! ≤ l.sights.xs[k]!.height.hi ∧ (0 < k → gapS l x k = true) := by
  have := h.see k hk
  simp only [seeS, seeA, Bool.and_eq_true, Bool.or_eq_true, decide_eq_true_eq] at this
  exact ⟨this.1.1, this.1.2.1.1, this.1.2.1.2, this.1.2.2.1, this.1.2.2.2, fun h0 => by rcases this.2 with h | h; omega; exact h⟩
theorem TrueOf.gap (h : TrueOf l x) {k : Nat} (hk : k + 1 < l.sights.xs.length) : gapP l.habit x.course.xs[k]! x.points.xs[k]! x.points.xs[k+1]! x.letters.xs[k]! x.letters.xs[k+1]! x.heights.xs[k]! x.heights.xs[k+1]! (yrS l.sights.xs k) = true := by
  have := (h.at_ hk).2.2.2.2.2 (by omega)
  exact this
theorem gap_far {hb : Habit} (hh : habitS hb = true) {c : Int} {p q : Pt} {s t : List UInt8} {a b y : Int} (h : gapP hb c p q s t a b y = true) :
    p.x - farD hb c ≤ q.x ∧ q.x ≤ p.x + farD hb c ∧ p.y - farD hb c ≤ q.y ∧ q.y ≤ p.y + farD hb c ∧ (c ≠ 2 → s = t) ∧ (c = 0 → 0 ≤ a - b ∧ a - b ≤ hb.sink * y) := by
  unfold gapP at h
  by_cases h0 : c = 0
  · rw [if_pos h0] at h
    simp only [Bool.and_eq_true, decide_eq_true_eq] at h
    subst h0
    have hf : farD hb 0 = 0 := by simp [farD]
    rw [hf]
    exact ⟨by omega, by omega, by omega, by omega, fun _ => h.1.2, fun _ => h.2⟩
  · rw [if_neg h0] at h
    simp only [nearS, Bool.and_eq_true, Bool.or_eq_true, decide_eq_true_eq] at h
    refine ⟨by omega, by omega, by omega, by omega, fun h2 => ?_, fun h1 => absurd h1 h0⟩
    rcases h.1 with h3 | h3
    · exact absurd h3 h2
    · exact h3
theorem TrueOf.nar (h : TrueOf l x) : (∀ j, j < l.sights.xs.length → sub (ptS x.points.xs[j]!.x) (narX l x.course.xs)[j]!) ∧ (∀ j, j < l.sights.xs.length → sub (ptS x.points.xs[j]!.y) (narY l x.course.xs)[j]!) ∧ (∀ j, j < l.sights.xs.length → sub (ptS x.heights.xs[j]!) (narH l x.course.xs)[j]!) := by
  have hr := h.right
  have hin : ∀ j, j < l.sights.xs.length → l.sights.xs[j]!.box.x.lo ≤ x.points.xs[j]!.x ∧ x.points.xs[j]!.x ≤ l.sights.xs[j]!.box.x.hi ∧ l.sights.xs[j]!.box.y.lo ≤ x.points.xs[j]!.y ∧ x.points.xs[j]!.y ≤ l.sights.xs[j]!.box.y.hi := fun j hj => by
    have := (h.at_ hj).1
    simp only [inBox, Bool.and_eq_true, decide_eq_true_eq] at this
    omega
  refine ⟨?_, ?_, ?_⟩
  · refine low_rounds (gapsX hr x.course.xs) (b := fun j => ptS x.points.xs[j]!.x) (n := l.sights.xs.length) (by simp) (by have := h.len; omega) (fun i hi => ?_) (fun i hi => ?_) (fun j hj => ?_) _
    · have := gap_far hr.habit (h.gap hi)
      unfold sub ptS onX onD; simp only; omega
    · have := gap_far hr.habit (h.gap hi)
      unfold sub ptS onX onD; simp only; omega
    · have := hin j hj
      rw [getElem!_pos (l.sights.xs.map (·.box.x)) j (by simpa using hj)]
      rw [getElem!_pos l.sights.xs j hj] at this
      unfold sub ptS; simp only [List.getElem_map]; omega
  · refine low_rounds (gapsX hr x.course.xs) (b := fun j => ptS x.points.xs[j]!.y) (n := l.sights.xs.length) (by simp) (by have := h.len; omega) (fun i hi => ?_) (fun i hi => ?_) (fun j hj => ?_) _
    · have := gap_far hr.habit (h.gap hi)
      unfold sub ptS onX onD; simp only; omega
    · have := gap_far hr.habit (h.gap hi)
      unfold sub ptS onX onD; simp only; omega
    · have := hin j hj
      rw [getElem!_pos (l.sights.xs.map (·.box.y)) j (by simpa using hj)]
      rw [getElem!_pos l.sights.xs j hj] at this
      unfold sub ptS; simp only [List.getElem_map]; omega
  · have hh : ∀ j, j < l.sights.xs.length → 0 ≤ x.heights.xs[j]! ∧ x.heights.xs[j]! ≤ 100 := fun j hj => (okR_of hr h.sizes hj (h.see j hj)).2
    refine low_rounds (gapsH hr x.course.xs) (b := fun j => ptS x.heights.xs[j]!) (n := l.sights.xs.length) (by simp) (by have := h.len; omega) (fun i hi => ?_) (fun i hi => ?_) (fun j hj => ?_) _
    · have h1 := gap_far hr.habit (h.gap hi)
      have h2 := hh i (by omega)
      have h3 := hh (i + 1) hi
      simp only [onH, if_pos hi, upH]
      by_cases hc : x.course.xs[i]! = 0
      · have := h1.2.2.2.2.2 hc
        rw [if_pos hc]; unfold sub ptS; simp only; omega
      · rw [if_neg hc]; unfold sub ptS; simp only; omega
    · have h1 := gap_far hr.habit (h.gap hi)
      have h2 := hh i (by omega)
      have h3 := hh (i + 1) hi
      simp only [backH, if_pos hi, downH]
      by_cases hc : x.course.xs[i]! = 0
      · have := h1.2.2.2.2.2 hc
        rw [if_pos hc]; unfold sub ptS; simp only; omega
      · rw [if_neg hc]; unfold sub ptS; simp only; omega
    · have := h.at_ hj
      rw [getElem!_pos (l.sights.xs.map (·.height)) j (by simpa using hj)]
      rw [getElem!_pos l.sights.xs j hj] at this
      unfold sub ptS; simp only [List.getElem_map]; omega
theorem cons_tail {α : Type} : ∀ (l : List α) (h : 0 < l.length), l = l[0] :: l.tail
  | [], h => by simp at h
  | a :: l, _ => rfl
theorem TrueOf.letters (h : TrueOf l x) : ∃ t, lettersS l.sights.xs x.course.xs = some t ∧ t.length = l.sights.xs.length ∧ ∀ i, i < l.sights.xs.length → agreeR x.letters.xs[i]! t[i]! = true := by
  have hn : 0 < l.sights.xs.length := by have := h.right.one; omega
  have hl := h.len
  have hxl := h.sizes.2.1
  have hgl : (gapsL l.sights.xs x.course.xs).length = x.course.xs.length := by simp [gapsL, lets]; omega
  have h0 := h.at_ hn
  rw [getElem!_pos x.letters.xs 0 (by omega), getElem!_pos l.sights.xs 0 hn] at h0
  have hus : x.letters.xs = x.letters.xs[0]'(by omega) :: x.letters.xs.tail := cons_tail _ _
  have hc : Chain (x.letters.xs[0]'(by omega)) (gapsL l.sights.xs x.course.xs) x.letters.xs.tail := by
    refine chain_of _ _ _ (by rw [hgl]; simp; omega) fun i hi hi' => ?_
    have hi1 : i + 1 < l.sights.xs.length := by omega
    have h1 := h.at_ hi1
    have h2 := (gap_far h.right.habit (h.gap hi1)).2.2.2.2.1
    rw [getElem!_pos x.letters.xs (i+1) (by omega), getElem!_pos l.sights.xs (i+1) hi1] at h1
    rw [getElem!_pos x.letters.xs (i+1) (by omega), getElem!_pos x.letters.xs i (by omega), getElem!_pos x.course.xs i (by omega)] at h2
    have e1 : x.letters.xs.tail[i] = x.letters.xs[i+1]'(by omega) := by simp
    have e2 : (gapsL l.sights.xs x.course.xs)[i].2 = (l.sights.xs[i+1]'hi1).letters := by simp [gapsL, lets]
    have e3 : (gapsL l.sights.xs x.course.xs)[i].1 = x.course.xs[i]'(by omega) := by simp [gapsL]
    rw [e1, e2, e3, ← hus]
    refine ⟨h1.2.1, h1.2.2.1, ?_⟩
    rw [getElem!_pos x.letters.xs i (by omega)]
    by_cases hk : x.course.xs[i]'(by omega) = 2
    · exact .inl hk
    · exact .inr (h2 hk)
  obtain ⟨t, e1, e2, e3⟩ := goL_reads _ _ _ _ 1 hc h0.2.1 h0.2.2.1
  refine ⟨t, ?_, by rw [e2, hgl]; omega, fun i hi => ?_⟩
  · unfold lettersS startL
    rw [dif_pos hn, List.drop_zero]
    exact e1
  · have := e3 i (by omega)
    rwa [show List.replicate 1 (x.letters.xs[0]'(by omega)) ++ x.letters.xs.tail = x.letters.xs from hus.symm] at this
theorem some_of_pts {L : List Span} {p : Nat → Int} {n : Nat} (hl : L.length = n) (h : ∀ j, j < n → sub (ptS (p j)) L[j]!) : someS L = true := by
  rw [allL_full]
  intro s hs
  obtain ⟨i, hi, rfl⟩ := List.mem_iff_getElem.1 hs
  have := h i (by omega)
  rw [getElem!_pos L i hi] at this
  exact pt_full this
/-- What is true fits, and lies in what is told. -/
theorem TrueOf.tell (h : TrueOf l x) : ∃ t, tellS l x.course.xs = some t ∧ t.boxes.length = l.sights.xs.length ∧ t.heights.length = l.sights.xs.length ∧ t.letters.length = l.sights.xs.length ∧
    ∀ i, i < l.sights.xs.length → inBox t.boxes[i]! x.points.xs[i]! = true ∧ t.heights[i]!.lo ≤ x.heights.xs[i]! ∧ x.heights.xs[i]! ≤ t.heights[i]!.hi ∧ noDot x.letters.xs[i]! = true ∧ agreeR x.letters.xs[i]! t.letters[i]! = true := by
  obtain ⟨h1, h2, h3⟩ := h.nar
  obtain ⟨t, h4, h5, h6⟩ := h.letters
  obtain ⟨n1, n2, n3⟩ := nar_len l x.course.xs
  have hcan : canS l x.course.xs = true := by
    unfold canS
    rw [some_of_pts n1 h1, some_of_pts n2 h2, some_of_pts n3 h3, h4, allL_iff.2 fun m hm => h.notes m hm]
    rfl
  have ht := tell_can h.right h.len
  rw [if_pos hcan, h4] at ht
  obtain ⟨b1, b2⟩ := tell_proper h.right h.len ht
  refine ⟨_, ht, b1, n3, h5, fun i hi => ?_⟩
  have hb := b2 _ (List.getElem_mem (n := i) (by omega))
  have g1 := h1 i hi
  have g2 := h2 i hi
  have g3 := h3 i hi
  refine ⟨?_, g3.1, g3.2, (h.at_ hi).2.1, h6 i hi⟩
  have hlz : i < ((narX l x.course.xs).zipWith Box.mk (narY l x.course.xs)).length := by simp; omega
  rw [getElem!_pos ((narX l x.course.xs).zipWith Box.mk (narY l x.course.xs)) i hlz]
  simp only [inBox, Bool.and_eq_true, decide_eq_true_eq]
  refine ⟨⟨hb, ?_⟩, ?_⟩
  · rw [getElem!_pos (narX l x.course.xs) i (by omega)] at g1
    unfold sub ptS at g1
    simp only [List.getElem_zipWith]
    exact g1
  · rw [getElem!_pos (narY l x.course.xs) i (by omega)] at g2
    unfold sub ptS at g2
    simp only [List.getElem_zipWith]
    exact g2
end

/-! ### All courses -/
theorem toC_onto : ∀ (c : List Int), (∀ k ∈ c, 0 ≤ k ∧ k ≤ 2) → ∃ j, j < 3 ^ c.length ∧ toC c.length j = c
  | [], _ => ⟨0, by simp, rfl⟩
  | d :: r, h => by
    obtain ⟨j, h1, h2⟩ := toC_onto r fun k hk => h k (List.mem_cons_of_mem _ hk)
    have hd := h d (List.mem_cons_self ..)
    refine ⟨d.toNat + 3 * j, ?_, ?_⟩
    · rw [List.length_cons, Nat.pow_succ]; omega
    · rw [List.length_cons, toC, show (d.toNat + 3 * j) % 3 = d.toNat by omega, show (d.toNat + 3 * j) / 3 = j by omega, h2]
      congr 1
      omega
def subB (a b : Box) : Prop := sub a.x b.x ∧ sub a.y b.y
theorem subB_cover_l (a b : Box) : subB a (coverB a b) := by unfold subB sub coverB coverS; simp only; omega
theorem subB_cover_r (a b : Box) : subB b (coverB a b) := by unfold subB sub coverB coverS; simp only; omega
theorem subB_trans {a b c : Box} (h : subB a b) (h' : subB b c) : subB a c := ⟨sub_trans h.1 h'.1, sub_trans h.2 h'.2⟩
theorem extTo_has {f : List Int → Option (List Box)} {most : Int} {m n : Nat} (hf : ∀ j B, f (toC m j) = some B → okBs n B) {j0 : Nat} {B0 : List Box} (h0 : f (toC m j0) = some B0) (hm : ¬ most < chg (toC m j0)) :
    ∀ J, j0 < J → ∃ A, extTo f most m J = some A ∧ ∀ i, i < n → subB B0[i]! A[i]!
  | 0, h => by omega
  | J + 1, h => by
    have hsame : ∀ B, f (toC m J) = some B → ∀ A, extTo f most m J = some A → ∀ i, i < n → (A.zipWith coverB B)[i]! = coverB A[i]! B[i]! := fun B hB A hA i hi => by
      have l1 := (hf _ _ hB).1
      have l2 := (extTo_ok hf _ _ hA).1
      rw [getElem!_pos _ i (by simp; omega), getElem!_pos A i (by omega), getElem!_pos B i (by omega)]
      simp
    rw [extTo]
    by_cases hj : J = j0
    · subst hj
      rw [h0]
      simp only
      rw [if_neg hm]
      cases hA : extTo f most m J with
      | none => exact ⟨B0, rfl, fun i hi => ⟨sub_refl _, sub_refl _⟩⟩
      | some A => exact ⟨_, rfl, fun i hi => by show subB _ (A.zipWith coverB B0)[i]!; rw [hsame _ h0 A hA i hi]; exact subB_cover_r _ _⟩
    · obtain ⟨A, hA, hs⟩ := extTo_has hf h0 hm J (by omega)
      cases hB : f (toC m J) with
      | none => exact ⟨A, hA, hs⟩
      | some B =>
        simp only
        split
        · exact ⟨A, hA, hs⟩
        · rw [hA]
          exact ⟨_, rfl, fun i hi => by show subB _ (A.zipWith coverB B)[i]!; rw [hsame _ hB A hA i hi]; exact subB_trans (hs i hi) (subB_cover_l _ _)⟩
def hasBit (a k : Int) : Prop := ¬ (a.tdiv (bitOf k)).tmod 2 = 0
theorem bit_keep {a k d : Int} (ha : 0 ≤ a ∧ a ≤ 7) (hk : 0 ≤ k ∧ k ≤ 2) (hd : 0 ≤ d ∧ d ≤ 2) : hasBit (addBit a k) k ∧ (hasBit a d → hasBit (addBit a k) d) := by
  have h1 : a = 0 ∨ a = 1 ∨ a = 2 ∨ a = 3 ∨ a = 4 ∨ a = 5 ∨ a = 6 ∨ a = 7 := by omega
  have h2 : k = 0 ∨ k = 1 ∨ k = 2 := by omega
  have h3 : d = 0 ∨ d = 1 ∨ d = 2 := by omega
  unfold hasBit
  rcases h1 with rfl | rfl | rfl | rfl | rfl | rfl | rfl | rfl <;> rcases h2 with rfl | rfl | rfl <;> rcases h3 with rfl | rfl | rfl <;> decide
theorem kindsTo_has {p : List Int → Bool} {m : Nat} {j0 : Nat} (h0 : p (toC m j0) = true) : ∀ J, j0 < J → (kindsTo p m J).2 = true ∧ ∀ i, i < m → hasBit (kindsTo p m J).1[i]! (toC m j0)[i]!
  | 0, h => by omega
  | J + 1, h => by
    have hk : ∀ (j i : Nat), i < m → 0 ≤ (toC m j)[i]! ∧ (toC m j)[i]! ≤ 2 := fun j i hi => by
      rw [getElem!_pos _ i (by rw [toC_length]; exact hi)]
      exact toC_kinds m j _ (List.getElem_mem _)
    have hz : ∀ i, i < m → ((kindsTo p m J).1.zipWith addBit (toC m J))[i]! = addBit (kindsTo p m J).1[i]! (toC m J)[i]! := fun i hi => by
      have l1 := kindsTo_length p m J
      have l2 := toC_length m J
      rw [getElem!_pos _ i (by simp; omega), getElem!_pos (kindsTo p m J).1 i (by omega), getElem!_pos (toC m J) i (by omega)]
      simp
    have ha : ∀ i, i < m → 0 ≤ (kindsTo p m J).1[i]! ∧ (kindsTo p m J).1[i]! ≤ 7 := fun i hi => by
      rw [getElem!_pos _ i (by rw [kindsTo_length]; exact hi)]
      exact kindsTo_le p m J _ (List.getElem_mem _)
    rw [kindsTo]
    by_cases hj : J = j0
    · subst hj
      rw [if_pos h0]
      exact ⟨rfl, fun i hi => by simp only; rw [hz i hi]; exact (bit_keep (ha i hi) (hk _ i hi) (hk J i hi)).1⟩
    · obtain ⟨i1, i2⟩ := kindsTo_has h0 J (by omega)
      split
      · exact ⟨rfl, fun i hi => by simp only; rw [hz i hi]; exact (bit_keep (ha i hi) (hk _ i hi) (hk _ i hi)).2 (i2 i hi)⟩
      · exact ⟨i1, i2⟩
theorem in_sub {b B : Box} {p : Pt} (h : inBox b p = true) (hs : subB b B) (hB : properS B = true) : inBox B p = true := by
  simp only [inBox, Bool.and_eq_true, decide_eq_true_eq] at h ⊢
  unfold subB sub at hs
  exact ⟨⟨hB, by omega⟩, by omega⟩
theorem TrueOf.wide {l : Life} {x : Lived} (h : TrueOf l x) : (∃ B, extL l (chg x.course.xs) = some B ∧ B.length = l.sights.xs.length ∧ ∀ i, i < l.sights.xs.length → inBox B[i]! x.points.xs[i]! = true) ∧
    (kindsTo (fitP l) (l.sights.xs.length - 1) (3 ^ (l.sights.xs.length - 1))).2 = true ∧ ∀ i, i < l.sights.xs.length - 1 → hasBit (kindsTo (fitP l) (l.sights.xs.length - 1) (3 ^ (l.sights.xs.length - 1))).1[i]! x.course.xs[i]! := by
  obtain ⟨t, h1, h2, _, _, h5⟩ := h.tell
  obtain ⟨j, hj, hc⟩ := toC_onto x.course.xs h.kinds
  have hm : x.course.xs.length = l.sights.xs.length - 1 := by have := h.len; omega
  rw [hm] at hj hc
  refine ⟨?_, ?_⟩
  · have hf : boxesP l (toC (l.sights.xs.length - 1) j) = some t.boxes := by rw [hc, boxesP, h1]; rfl
    obtain ⟨A, hA, hs⟩ := extTo_has (boxes_ok h.right) hf (most := chg x.course.xs) (by rw [hc]; omega) _ hj
    have hok := extL_ok h.right hA
    refine ⟨A, hA, hok.1, fun i hi => in_sub (h5 i hi).1 (hs i hi) ?_⟩
    rw [getElem!_pos A i (by rw [hok.1]; exact hi)]
    exact hok.2 _ (List.getElem_mem _)
  · have hf : fitP l (toC (l.sights.xs.length - 1) j) = true := by rw [hc, fitP, h1]; rfl
    have := kindsTo_has hf _ hj
    rwa [hc] at this
end Go.Proofs.YtnomliioadjdgaaGreat.Vm
