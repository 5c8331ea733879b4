/- Covering boxes; what a course tells has proper boxes; the least boxes of all courses. The least boxes of all places, as the program finds them. Extents and In, as the program answers. What is true of a life fits: plain Lean. What is told of places is exact: each value of a span is reached. Plain Lean. What StoneExtentsHold asks the program: which lives are possible, and one side of a box. -/
import Derived.Test.YtnomliioadjdgaaGreatPk18
namespace Go.Proofs.YtnomliioadjdgaaGreat.Vm
open Go
set_option linter.unusedSimpArgs false
set_option linter.unusedVariables false
set_option maxHeartbeats 4000000

def coverS (a b : Span) : Span := ⟨min a.lo b.lo, max a.hi b.hi⟩
def coverB (a b : Box) : Box := ⟨coverS a.x b.x, coverS a.y b.y⟩
theorem sh48 : G.shared 48 = false := by decide
theorem e48 (n : Nat) (a b : Span) : callP G (n + 1) 48 [.agg a.cells, .agg b.cells] = some (.agg (coverS a b).cells) := by
  refine callP_of (ext_none _) rfl g48 rfl ?_
  (repeat' first | simp [*, initEnv, c48, Span.cells, coverS] | (refine wpIf_two (fun _ h => ?_) (fun _ h => ?_) <;> try simp [-Nat.le_zero_eq] at h))
@[simp] theorem d48 (n : Nat) (H : Heap) (a_lo : Int) (a_hi : Int) (b_lo : Int) (b_hi : Int) : doCall (calleeOf G (n + 1)) H (.pure (.func 48 [])) [.pure (.agg [.int .i64 a_lo, .int .i64 a_hi]), .pure (.agg [.int .i64 b_lo, .int .i64 b_hi])] = some (.val (.pure ((fun (a : Span) => (fun (b : Span) => .agg (coverS a b).cells) (⟨b_lo, b_hi⟩ : Span)) (⟨a_lo, a_hi⟩ : Span)))) :=
  call_pureC (ps := [_, _]) (caps := []) sh48 (e48 n (⟨a_lo, a_hi⟩ : Span) (⟨b_lo, b_hi⟩ : Span))
theorem sh16 : G.shared 16 = false := by decide
theorem e16 (n : Nat) (a b : Box) (ha : properS a = true) (hb : properS b = true) : callP G (n + 4) 16 [.agg a.cells, .agg b.cells] = some (.tup [.agg (coverB a b).cells, .bool true]) := by
  refine callP_of (ext_none _) rfl g16 rfl ?_
  (repeat' first | simp [*, initEnv, c16, Box.cells, coverB] | (refine wpIf_two (fun _ h => ?_) (fun _ h => ?_) <;> try simp [-Nat.le_zero_eq] at h))
@[simp] theorem d16 (n : Nat) (H : Heap) (a_x_lo : Int) (a_x_hi : Int) (a_y_lo : Int) (a_y_hi : Int) (b_x_lo : Int) (b_x_hi : Int) (b_y_lo : Int) (b_y_hi : Int) (ha : (fun (a : Box) => properS a = true) (⟨⟨a_x_lo, a_x_hi⟩, ⟨a_y_lo, a_y_hi⟩⟩ : Box)) (hb : (fun (b : Box) => properS b = true) (⟨⟨b_x_lo, b_x_hi⟩, ⟨b_y_lo, b_y_hi⟩⟩ : Box)) : doCall (calleeOf G (n + 4)) H (.pure (.func 16 [])) [.pure (.agg [.int .i64 a_x_lo, .int .i64 a_x_hi, .int .i64 a_y_lo, .int .i64 a_y_hi]), .pure (.agg [.int .i64 b_x_lo, .int .i64 b_x_hi, .int .i64 b_y_lo, .int .i64 b_y_hi])] = some (.val (.pure ((fun (a : Box) => (fun (b : Box) => .tup [.agg (coverB a b).cells, .bool true]) (⟨⟨b_x_lo, b_x_hi⟩, ⟨b_y_lo, b_y_hi⟩⟩ : Box)) (⟨⟨a_x_lo, a_x_hi⟩, ⟨a_y_lo, a_y_hi⟩⟩ : Box)))) :=
  call_pureC (ps := [_, _]) (caps := []) sh16 (e16 n (⟨⟨a_x_lo, a_x_hi⟩, ⟨a_y_lo, a_y_hi⟩⟩ : Box) (⟨⟨b_x_lo, b_x_hi⟩, ⟨b_y_lo, b_y_hi⟩⟩ : Box) ha hb)
theorem sh47 : G.shared 47 = false := by decide
theorem e47 (n : Nat) (a b : Box) (ha : properR a = true) (hb : properR b = true) : callP G (n + 4) 47 [.agg a.cells, .agg b.cells] = some (.tup [.agg (coverB a b).cells, .bool true]) := by
  refine callP_of (ext_none _) rfl g47 rfl ?_
  (repeat' first | simp [*, initEnv, c47, Box.cells, coverB, coverS] | (refine wpIf_two (fun _ h => ?_) (fun _ h => ?_) <;> try simp [-Nat.le_zero_eq] at h))
@[simp] theorem d47 (n : Nat) (H : Heap) (a_x_lo : Int) (a_x_hi : Int) (a_y_lo : Int) (a_y_hi : Int) (b_x_lo : Int) (b_x_hi : Int) (b_y_lo : Int) (b_y_hi : Int) (ha : (fun (a : Box) => properR a = true) (⟨⟨a_x_lo, a_x_hi⟩, ⟨a_y_lo, a_y_hi⟩⟩ : Box)) (hb : (fun (b : Box) => properR b = true) (⟨⟨b_x_lo, b_x_hi⟩, ⟨b_y_lo, b_y_hi⟩⟩ : Box)) : doCall (calleeOf G (n + 4)) H (.pure (.func 47 [])) [.pure (.agg [.int .i64 a_x_lo, .int .i64 a_x_hi, .int .i64 a_y_lo, .int .i64 a_y_hi]), .pure (.agg [.int .i64 b_x_lo, .int .i64 b_x_hi, .int .i64 b_y_lo, .int .i64 b_y_hi])] = some (.val (.pure ((fun (a : Box) => (fun (b : Box) => .tup [.agg (coverB a b).cells, .bool true]) (⟨⟨b_x_lo, b_x_hi⟩, ⟨b_y_lo, b_y_hi⟩⟩ : Box)) (⟨⟨a_x_lo, a_x_hi⟩, ⟨a_y_lo, a_y_hi⟩⟩ : Box)))) :=
  call_pureC (ps := [_, _]) (caps := []) sh47 (e47 n (⟨⟨a_x_lo, a_x_hi⟩, ⟨a_y_lo, a_y_hi⟩⟩ : Box) (⟨⟨b_x_lo, b_x_hi⟩, ⟨b_y_lo, b_y_hi⟩⟩ : Box) ha hb)

theorem proper_iff {b : Box} : properS b = true ↔ (-1048576 ≤ b.x.lo ∧ b.x.lo ≤ b.x.hi ∧ b.x.hi ≤ 1048576) ∧ (-1048576 ≤ b.y.lo ∧ b.y.lo ≤ b.y.hi ∧ b.y.hi ≤ 1048576) := by
  simp only [properS, spanS, Bool.and_eq_true, decide_eq_true_eq]
  omega
theorem cover_proper {a b : Box} (ha : properS a = true) (hb : properS b = true) : properS (coverB a b) = true := by
  rw [proper_iff] at *
  simp only [coverB, coverS]
  omega
theorem nar_proper {l : Life} {c : List Int} (hr : Right l) (hc : c.length + 1 = l.sights.xs.length) (hx : someS (narX l c) = true) (hy : someS (narY l c) = true) : ∀ b ∈ (narX l c).zipWith Box.mk (narY l c), properS b = true := by
  intro b hb
  obtain ⟨i, hi, rfl⟩ := List.mem_iff_getElem.1 hb
  have hi' : i < (narX l c).length ∧ i < (narY l c).length := by simp at hi; omega
  have hl : (narX l c).length = l.sights.xs.length := by simp [narX, roundsS_length]
  have hli : i < l.sights.xs.length := by omega
  have sx := rounds_sub (on := onX l c) (back := onX l c) (l := l.sights.xs.map (·.box.x)) (2 * l.sights.xs.length) c.length (by simp; omega) i (by simpa using hli)
  have sy := rounds_sub (on := onX l c) (back := onX l c) (l := l.sights.xs.map (·.box.y)) (2 * l.sights.xs.length) c.length (by simp; omega) i (by simpa using hli)
  have fx := (allL_full _).1 hx _ (List.getElem_mem hi'.1)
  have fy := (allL_full _).1 hy _ (List.getElem_mem hi'.2)
  have hs := hr.sp (List.getElem_mem hli)
  rw [getElem!_pos (roundsS _ _ _ _ _) i (by simpa [roundsS_length] using hli), getElem!_pos (l.sights.xs.map _) i (by simpa using hli)] at sx sy
  rw [proper_iff]
  simp only [List.getElem_zipWith]
  have ex : (narX l c)[i]'hi'.1 = (roundsS (onX l c) (onX l c) c.length (2 * l.sights.xs.length) (l.sights.xs.map (·.box.x)))[i]'(by simpa [roundsS_length] using hli) := rfl
  have ey : (narY l c)[i]'hi'.2 = (roundsS (onX l c) (onX l c) c.length (2 * l.sights.xs.length) (l.sights.xs.map (·.box.y)))[i]'(by simpa [roundsS_length] using hli) := rfl
  rw [ex] at fx ⊢
  rw [ey] at fy ⊢
  simp only [List.getElem_map] at sx sy
  unfold sub at sx sy
  unfold full at fx fy
  unfold okSp at hs
  omega
theorem tell_proper {l : Life} {c : List Int} (hr : Right l) (hc : c.length + 1 = l.sights.xs.length) {t : TellR} (ht : tellS l c = some t) : t.boxes.length = l.sights.xs.length ∧ ∀ b ∈ t.boxes, properS b = true := by
  rw [tell_can hr hc] at ht
  split at ht
  · rename_i h
    simp only [Option.some.injEq] at ht
    subst ht
    unfold canS at h
    simp only [Bool.and_eq_true] at h
    refine ⟨by simp [narX, narY, roundsS_length], nar_proper hr hc (by simp [h]) (by simp [h])⟩
  · simp at ht

/-! ### The fold over all courses -/
def boxesP (l : Life) (c : List Int) : Option (List Box) := (tellS l c).map (·.boxes)
def covO (B : List Box) : Option (List Box) → List Box
  | none => B
  | some A => A.zipWith coverB B
def extTo (f : List Int → Option (List Box)) (most : Int) (m : Nat) : Nat → Option (List Box)
  | 0 => none
  | j + 1 => match f (toC m j) with
    | none => extTo f most m j
    | some B => if most < chg (toC m j) then extTo f most m j else some (covO B (extTo f most m j))
def okBs (n : Nat) (B : List Box) : Prop := B.length = n ∧ ∀ b ∈ B, properS b = true
theorem okBs_cover {n : Nat} {A B : List Box} (ha : okBs n A) (hb : okBs n B) : okBs n (A.zipWith coverB B) := by
  refine ⟨by simp [ha.1, hb.1], fun b h => ?_⟩
  obtain ⟨i, hi, rfl⟩ := List.mem_iff_getElem.1 h
  rw [List.getElem_zipWith]
  exact cover_proper (ha.2 _ (List.getElem_mem _)) (hb.2 _ (List.getElem_mem _))
theorem extTo_ok {f : List Int → Option (List Box)} {most : Int} {m n : Nat} (hf : ∀ j B, f (toC m j) = some B → okBs n B) : ∀ j A, extTo f most m j = some A → okBs n A
  | 0, A, h => by simp [extTo] at h
  | j + 1, A, h => by
    have ih := extTo_ok (most := most) hf j
    rw [extTo] at h
    split at h
    · exact ih _ h
    · rename_i B hB
      have hb := hf _ _ hB
      split at h
      · exact ih _ h
      · simp only [Option.some.injEq] at h
        subst h
        cases hA : extTo f most m j with
        | none => exact hb
        | some A' => exact okBs_cover (ih _ hA) hb
theorem boxes_ok {l : Life} (hr : Right l) : ∀ j B, boxesP l (toC (l.sights.xs.length - 1) j) = some B → okBs l.sights.xs.length B := fun j B h => by
  have h1 := hr.one
  unfold boxesP at h
  rw [Option.map_eq_some_iff] at h
  obtain ⟨t, ht, rfl⟩ := h
  exact tell_proper hr (by rw [toC_length]; omega) ht

/-! ### Lists changed place by place -/
def mixG {α : Type} (Z B : List α) (i : Nat) : List α := Z.take i ++ B.drop i
section
variable {α : Type} {Z B : List α} {i : Nat}
theorem mixG_length (h : Z.length = B.length) (hi : i ≤ B.length) : (mixG Z B i).length = B.length := by simp [mixG]; omega
theorem mixG_get (h : Z.length = B.length) (hi : i < B.length) (hj : i < (mixG Z B i).length) : (mixG Z B i)[i] = B[i] := by
  simp only [mixG]
  rw [List.getElem_append_right (by simp; omega)]
  simp [Nat.min_eq_left (show i ≤ Z.length by omega)]
theorem mixG_set (h : Z.length = B.length) (hi : i < B.length) : (mixG Z B i).set i (Z[i]'(by omega)) = mixG Z B (i + 1) := by
  have hl : (Z.take i).length = i := by simp; omega
  simp only [mixG]
  rw [List.set_append_right _ _ (by omega), hl, Nat.sub_self, List.drop_eq_getElem_cons hi, List.set_cons_zero, ← take_succ' (by omega), List.append_assoc]
  rfl
theorem mixG_end (h : Z.length = B.length) (hi : i = B.length) : mixG Z B i = Z := by
  simp only [mixG]
  rw [List.take_of_length_le (by omega), List.drop_eq_nil_of_le (by omega), List.append_nil]
end
end Go.Proofs.YtnomliioadjdgaaGreat.Vm

namespace Go.Proofs.YtnomliioadjdgaaGreat.Vm
open Go
set_option linter.unusedSimpArgs false
set_option linter.unusedVariables false
set_option maxHeartbeats 4000000

@[simp] theorem vbin_nil_row (i s o n : Nat) : vbin .eql .slice (.row i s o n) (.pure .nils) = some (.pure (.bool false)) := vbin_slNil rfl
@[simp] theorem vbin_nil_nils : vbin .eql .slice (.pure .nils) (.pure .nils) = some (.pure (.bool true)) := vbin_slNil rfl
@[simp] theorem vbin_nil_sl {α : Type} (f : α → List PV) (sz : Nat) (s : Sl α) : vbin .eql .slice (.pure (s.pv f sz)) (.pure .nils) = some (.pure (.bool s.isNil)) := vbin_slNil (by simp)
def extPV : Option (List Box) → PV
  | none => .nils
  | some B => (Sl.mk false B).pv Box.cells 4
/-- What the loop over courses leaves in the box. -/
def extJ (m idc : Nat) (H : Heap) : Option (List Box) → Prop
  | none => H.get 0 = .cells true [.pure .nils]
  | some B => ∃ id, 1 < id ∧ id ≠ idc ∧ H.get 0 = .cells true [.row id 4 0 m] ∧ H.get id = .cells true (rowOf Box.cells B)
theorem extJ.stab {m idc : Nat} {H1 H2 : Heap} {o : Option (List Box)} (hi : 1 < idc) (h : extJ m idc H1 o) (hs : ∀ i, i < H1.nx → i ≠ idc → i ≠ 1 → H2.get i = H1.get i) : extJ m idc H2 o := by
  cases o with
  | none =>
    have h : H1.get 0 = _ := h
    show H2.get 0 = _
    rw [hs 0 (nx_of_get h) (by omega) (by omega)]; exact h
  | some c =>
    obtain ⟨id, h2, h3, h0, hg⟩ := h
    exact ⟨id, h2, h3, by rw [hs 0 (nx_of_get h0) (by omega) (by omega)]; exact h0, by rw [hs id (nx_of_get hg) h3 (by omega)]; exact hg⟩

theorem sh42 : G.shared 42 = false := by decide
theorem e42 (n : Nat) (l : Life) (most : Int) (hr : Right l) : callP G (n + 10) 42 [.agg l.cells, .int .i64 most] = some (extPV (extTo (boxesP l) most (l.sights.xs.length - 1) (3 ^ (l.sights.xs.length - 1)))) := by
  refine callP_of (ext_none _) rfl g42 rfl ?_
  have h1 := hr.one
  have h9 := hr.nine
  (repeat' first | simp [*, initEnv, c42] | (refine wpIf_two (fun _ h => ?_) (fun _ h => ?_) <;> try simp [-Nat.le_zero_eq] at h))
  refine wp_coursesA (n := n) (l := l) hr (by simp) rfl (fun idc j H1 => 1 < idc ∧ extJ l.sights.xs.length idc H1 (extTo (boxesP l) most (l.sights.xs.length - 1) j)) ?_ ?_ ?_ ?_ ?_
  · rintro idc j H1 H2 ⟨hi, hJ⟩ hnx hsame
    exact ⟨hi, hJ.stab hi hsame⟩
  · intro idc hi
    exact ⟨by simpa using hi, by simp [extTo, extJ]⟩
  · rintro idc j H1 hj ht ⟨hi, hJ⟩
    refine ⟨hi, ?_⟩
    have : boxesP l (toC (l.sights.xs.length - 1) j) = none := by unfold boxesP; rw [ht]; rfl
    rw [extTo, this]; exact hJ
  · intro idc j t H1 hj ht hi hlt
    have hi2 : 1 < idc := by simpa using hi
    clear hi
    (repeat' first | simp [*, initEnv] | (refine wpIf_two (fun _ h => ?_) (fun _ h => ?_) <;> try simp [-Nat.le_zero_eq] at h))
    refine ⟨fun i hi => by rw [get_set_ne (by omega), get_alloc_lt hi], ?_⟩
    rintro Hb hbx hbs hJ gc hnx
    have gt := hbs H1.nx (by omega)
    rw [get_set_own (by simp)] at gt
    have lt1 := nx_of_get gt
    clear hbs hbx
    have hcl := toC_length (l.sights.xs.length - 1) j
    have hB : boxesP l (toC (l.sights.xs.length - 1) j) = some t.boxes := by unfold boxesP; rw [ht]; rfl
    obtain ⟨hbl, hbp⟩ := tell_proper hr (by omega) ht
    have hst : Hide (extTo (boxesP l) most (l.sights.xs.length - 1) (j + 1) = if most < chg (toC (l.sights.xs.length - 1) j) then extTo (boxesP l) most (l.sights.xs.length - 1) j else some (covO t.boxes (extTo (boxesP l) most (l.sights.xs.length - 1) j))) := ⟨by rw [extTo, hB]⟩
    have hAo : Hide (∀ A, extTo (boxesP l) most (l.sights.xs.length - 1) j = some A → okBs l.sights.xs.length A) := ⟨fun A => extTo_ok (boxes_ok hr) j A⟩
    obtain ⟨s1, hs1, hf1⟩ := row_sl (f := intF) (sz := 1) (n := 10) (fun _ => rfl) gc hcl
    have hc1 : callP G (n + 7) 76 [s1.pv intF 1] = some (.int .i64 (chg (toC (l.sights.xs.length - 1) j))) := by
      have := e76 (n + 6) s1 (by rw [hs1]; omega)
      rw [hs1] at this; exact this
    have hbT : t.told.boxes = Sl.mk false t.boxes := by
      show Sl.of t.boxes = _
      cases hb : t.boxes with
      | nil => rw [hb] at hbl; simp at hbl; omega
      | cons b bs => rfl
    rw [hbT] at gt
    generalize t.boxes = B at *
    generalize t.told.heights = Hs at *
    generalize t.told.letters = Ls at *
    generalize hO : extTo (boxesP l) most (l.sights.xs.length - 1) j = O at *
    generalize hm : l.sights.xs.length - 1 = m at *
    generalize hC : toC m j = C at *
    have hbp' : Hide _ := ⟨hbp⟩
    clear hO hC hj ht hlt hB hbT hbp
    (repeat' first | simp [*, initEnv] | (refine wpIf_two (fun _ h => ?_) (fun _ h => ?_) <;> try simp [-Nat.le_zero_eq] at h))
    refine wpE_own (caps := []) (by decide) (.cons hf1 .nil) hc1 rfl ?_
    (repeat' first | simp [*, initEnv] | (refine wpIf_two (fun _ h => ?_) (fun _ h => ?_) <;> try simp [-Nat.le_zero_eq] at h))
    · rename_i h
      rw [hst.h, if_pos h]; exact hJ
    · have hst2 : Hide (extTo (boxesP l) most m (j + 1) = some (covO B O)) := ⟨by rw [hst.h, if_neg (by omega)]⟩
      clear hst hf1 hc1 hs1
      generalize extTo (boxesP l) most m (j + 1) = O2 at *
      generalize hN : l.sights.xs.length = N at *
      cases O with
      | none =>
        have hJ : Hb.get 0 = .cells true [.pure .nils] := hJ
        have hL : O2 = some B := hst2.h
        subst hL
        have hsc : ∀ H, sliceCells H 4 (.pure ((Sl.mk false B).pv Box.cells 4)) = some (rowOf Box.cells B, B.length) := fun H => sliceCells_sl' (f := Box.cells) (sz := 4) (fun _ => rfl) _
        have hsc' : Hide _ := ⟨hsc⟩
        clear hsc hst2 hAo
        (repeat' first | simp [*, initEnv] | (refine wpIf_two (fun _ h => ?_) (fun _ h => ?_) <;> try simp [-Nat.le_zero_eq] at h))
        refine wpE_run (caps := []) (by decide) ?_
        refine clone_call (b := false) (fun _ => rfl) g89 (hsc'.h _) rfl (fun h => by cases h) (fun _ => rfl) (by decide) (fun _ => rfl) (by simp [maxCells]; omega) ?_
        rintro v' H' hov hnl hx hsame hnew
        rcases hov with h | ⟨id', hv, g'⟩
        · exfalso; obtain ⟨ha, hb⟩ := h; rw [hb] at hnl; simp [isNil] at hnl
        subst hv
        have hid' : Hb.nx ≤ id' := hnew id' ⟨_, _, _, rfl⟩
        have g0' : H'.get 0 = .cells true [.pure .nils] := by rw [hsame 0 (by omega)]; exact hJ
        have gc' : H'.get idc = .cells true (rowOf intF C) := by rw [hsame idc (nx_of_get gc)]; exact gc
        have g1' : Hide (H'.get 1 = Hb.get 1) := ⟨hsame 1 hnx⟩
        have l0 := nx_of_get g0'
        have lc := nx_of_get gc
        have n0 : ¬ (0 = id') := by omega
        have nc : ¬ (id' = idc) := by omega
        have c0 : ¬ (idc = 0) := by omega
        clear gc hsame hnew hnl hsc' hJ
        (repeat' first | simp [*, initEnv] | (refine wpIf_two (fun _ h => ?_) (fun _ h => ?_) <;> try simp [-Nat.le_zero_eq] at h))
        refine ⟨g1'.h, id', by omega, nc, by simp [*], ?_⟩
        rw [get_set_ne (by omega)]; exact g'
      | some A =>
        obtain ⟨id, i2, i3, g0, gi⟩ := hJ
        have hL : O2 = some (A.zipWith coverB B) := hst2.h
        subst hL
        obtain ⟨hAl, hAp⟩ := hAo.h A rfl
        have hAp' : Hide _ := ⟨hAp⟩
        obtain ⟨Z, hZ⟩ : ∃ Z, Z = A.zipWith coverB B := ⟨_, rfl⟩
        have hZl : Z.length = A.length := by rw [hZ]; simp; omega
        have hZg : Hide (∀ (k : Nat) (h : k < Z.length), Z[k] = coverB (A[k]'(by omega)) (B[k]'(by omega))) := ⟨fun k h => by subst hZ; simp⟩
        rw [← hZ]
        clear hst2 hAo hAp hZ
        have l0 := nx_of_get g0
        have li := nx_of_get gi
        have lc := nx_of_get gc
        have nt : ¬ (H1.nx = 0) := by intro e; rw [e, g0] at gt; simp at gt
        have nt1 : ¬ (H1.nx = id) := by
          intro e
          rw [e, gi] at gt
          simp only [AObj.cells.injEq, true_and] at gt
          have := congrArg List.length gt
          rw [rowOf_length (sz := 4) (fun _ => rfl)] at this
          simp at this
          omega
        (repeat' first | simp [*, initEnv] | (refine wpIf_two (fun _ h => ?_) (fun _ h => ?_) <;> try simp [-Nat.le_zero_eq] at h))
        refine wp_loopF [(8, 8), (15, 34)] (fun (k : Nat) env H3 => env 15 = .pure (.int .i64 k) ∧ k ≤ N ∧ H3.nx = Hb.nx ∧ H3.get 0 = .cells true [.row id 4 0 N] ∧ H3.get id = .cells true (rowOf Box.cells (mixG Z A k)) ∧ H3.get idc = .cells true (rowOf intF C) ∧ H3.get 1 = Hb.get 1 ∧
          H3.get H1.nx = .cells true [.pure ((Sl.mk false B).pv Box.cells 4), .pure (Hs.pv Span.cells 2), .pure (Ls.pv strF 1)]) (fun k => N - k) 0 ?_ ?_ ?_ ?_
        · decide
        · exact ⟨by simp, Nat.zero_le _, rfl, g0, by simpa [mixG] using gi, gc, rfl, gt⟩
        · simp only [loopFuel]; omega
        rintro k env H3 ⟨h15, hk, gn, k0, ki, kc, k1, kt⟩
        have hfit : k < 9223372036854775807 := by omega
        by_cases hkN : k < N
        · have hXl := mixG_length (Z := Z) (B := A) (i := k) hZl (by omega)
          have hXg := mixG_get (Z := Z) (B := A) (i := k) hZl (by omega) (by omega)
          have hXs := mixG_set (Z := Z) (B := A) (i := k) hZl (by omega)
          rw [hZg.h k (by omega)] at hXs
          rw [hAl] at hXl
          obtain ⟨X, kX, hXl, hXg, hXs⟩ : ∃ X : List Box, H3.get id = .cells true (rowOf Box.cells X) ∧ X.length = N ∧ (∀ h, X[k]'h = A[k]'(by omega)) ∧ X.set k (coverB (A[k]'(by omega)) (B[k]'(by omega))) = mixG Z A (k + 1) := ⟨_, ki, hXl, fun _ => hXg, hXs⟩
          have hXg' := hXg (by omega)
          have hcov : ∀ H, doCall (calleeOf G (n + 7)) H (.pure (.func 16 [])) [.pure (.agg (A[k]'(by omega)).cells), .pure (.agg (B[k]'(by omega)).cells)] = some (.val (.pure (.tup [.agg (coverB (A[k]'(by omega)) (B[k]'(by omega))).cells, .bool true]))) := fun H =>
            d16 (n + 3) H _ _ _ _ _ _ _ _ (hAp'.h _ (List.getElem_mem _)) (hbp'.h _ (List.getElem_mem _))
          simp only [Box.cells] at hcov
          have hXs' : Hide _ := ⟨hXs⟩
          have li3 := nx_of_get kX
          have ni0 : ¬ (0 = id) := by omega
          have ni1 : ¬ (1 = id) := by omega
          have nic : ¬ (idc = id) := fun e => i3 e.symm
          clear hXs hXg ki gi g0 gc gt hAp' hbp' hZg
          (repeat' first | simp [*, initEnv] | (refine wpIf_two (fun _ h => ?_) (fun _ h => ?_) <;> try simp [-Nat.le_zero_eq] at h))
          exact ⟨k + 1, by omega, by simp, by omega, by rw [hXs'.h]⟩
        · have hie : k = N := by omega
          have hXe := mixG_end (Z := Z) (B := A) (i := k) hZl (by omega)
          rw [hXe] at ki
          (repeat' first | simp [*, initEnv] | (refine wpIf_two (fun _ h => ?_) (fun _ h => ?_) <;> try simp [-Nat.le_zero_eq] at h))
          exact ⟨id, i2, i3, k0, ki⟩
  · rintro idc H' ⟨hi, hJ⟩
    cases ho : extTo (boxesP l) most (l.sights.xs.length - 1) (3 ^ (l.sights.xs.length - 1)) with
    | none =>
      rw [ho] at hJ
      have hJ : H'.get 0 = _ := hJ
      (repeat' first | simp [*, initEnv, extPV] | (refine wpIf_two (fun _ h => ?_) (fun _ h => ?_) <;> try simp [-Nat.le_zero_eq] at h))
    | some B =>
      rw [ho] at hJ
      obtain ⟨id, i2, i3, g0, gi⟩ := hJ
      have hl := (extTo_ok (boxes_ok hr) _ _ ho).1
      obtain ⟨ids, hids⟩ := row_res (f := Box.cells) (sz := 4) (n := 10) (fun _ => rfl) gi hl
      (repeat' first | simp [*, initEnv, extPV] | (refine wpIf_two (fun _ h => ?_) (fun _ h => ?_) <;> try simp [-Nat.le_zero_eq] at h))
      exact ⟨ids, hids⟩
@[simp] theorem d42 (n : Nat) (H : Heap) (l_habit_step : Int) (l_habit_place : Int) (l_habit_sink : Int) (l_sights : Sl Sight) (l_notes : Sl Note) (most : Int) (hr : (fun (l : Life) => Right l) (⟨⟨l_habit_step, l_habit_place, l_habit_sink⟩, l_sights, l_notes⟩ : Life)) : doCall (calleeOf G (n + 10)) H (.pure (.func 42 [])) [.pure (.agg [.int .i64 l_habit_step, .int .i64 l_habit_place, .int .i64 l_habit_sink, (l_sights).pv Sight.cells 9, (l_notes).pv Note.cells 4]), .pure (.int .i64 most)] = some (.val (.pure ((fun (l : Life) => extPV (extTo (boxesP l) most (l.sights.xs.length - 1) (3 ^ (l.sights.xs.length - 1)))) (⟨⟨l_habit_step, l_habit_place, l_habit_sink⟩, l_sights, l_notes⟩ : Life)))) :=
  call_pureC (ps := [_, _]) (caps := []) sh42 (e42 n (⟨⟨l_habit_step, l_habit_place, l_habit_sink⟩, l_sights, l_notes⟩ : Life) most hr)
end Go.Proofs.YtnomliioadjdgaaGreat.Vm

namespace Go.Proofs.YtnomliioadjdgaaGreat.Vm
open Go
set_option linter.unusedSimpArgs false
set_option linter.unusedVariables false
set_option maxHeartbeats 4000000

def extL (l : Life) (most : Int) : Option (List Box) := extTo (boxesP l) most (l.sights.xs.length - 1) (3 ^ (l.sights.xs.length - 1))
theorem extL_ok {l : Life} (hr : Right l) {most : Int} {B : List Box} (h : extL l most = some B) : okBs l.sights.xs.length B := extTo_ok (boxes_ok hr) _ _ h
def extE (l : Life) (most : Int) : PV := if checkS l = 0 then (if most < 0 then .tup [.nils, .int .i64 1] else match extL l most with
  | none => .tup [.nils, .int .i64 9]
  | some B => .tup [(Sl.mk false B).pv Box.cells 4, .int .i64 0]) else .tup [.nils, .int .i64 (checkS l)]
theorem sh10 : G.shared 10 = false := by decide
theorem e10 (n : Nat) (l : Life) (most : Int) (hs : shortS l) : callP G (n + 11) 10 [.agg l.cells, .int .i64 most] = some (extE l most) := by
  refine callP_of (ext_none _) rfl g10 rfl ?_
  have hcc : ∀ H, doCall (calleeOf G (n + 10)) H (.pure (.func 41 [])) [.pure (.agg l.cells)] = some (.val (.pure (.int .i64 (checkS l)))) := fun H => d41 (n + 5) H l.habit.step l.habit.place l.habit.sink l.sights l.notes hs
  simp only [Life.cells] at hcc
  by_cases hck : checkS l = 0
  · have hr := (right_iff l).1 hck
    have hc : ∀ H, doCall (calleeOf G (n + 10)) H (.pure (.func 42 [])) [.pure (.agg l.cells), .pure (.int .i64 most)] = some (.val (.pure (extPV (extL l most)))) := fun H => d42 n H l.habit.step l.habit.place l.habit.sink l.sights l.notes most hr
    simp only [Life.cells] at hc
    cases ho : extL l most with
    | none =>
      rw [ho] at hc
      (repeat' first | simp [*, initEnv, c10, extPV, extE] | (refine wpIf_two (fun _ h => ?_) (fun _ h => ?_) <;> try simp [-Nat.le_zero_eq] at h))
    | some B =>
      rw [ho] at hc
      (repeat' first | simp [*, initEnv, c10, extPV, extE, Sl.isNil] | (refine wpIf_two (fun _ h => ?_) (fun _ h => ?_) <;> try simp [-Nat.le_zero_eq] at h))
  · (repeat' first | simp [*, initEnv, c10, extE] | (refine wpIf_two (fun _ h => ?_) (fun _ h => ?_) <;> try simp [-Nat.le_zero_eq] at h))
@[simp] theorem d10 (n : Nat) (H : Heap) (l_habit_step : Int) (l_habit_place : Int) (l_habit_sink : Int) (l_sights : Sl Sight) (l_notes : Sl Note) (most : Int) (hs : (fun (l : Life) => shortS l) (⟨⟨l_habit_step, l_habit_place, l_habit_sink⟩, l_sights, l_notes⟩ : Life)) : doCall (calleeOf G (n + 11)) H (.pure (.func 10 [])) [.pure (.agg [.int .i64 l_habit_step, .int .i64 l_habit_place, .int .i64 l_habit_sink, (l_sights).pv Sight.cells 9, (l_notes).pv Note.cells 4]), .pure (.int .i64 most)] = some (.val (.pure ((fun (l : Life) => extE l most) (⟨⟨l_habit_step, l_habit_place, l_habit_sink⟩, l_sights, l_notes⟩ : Life)))) :=
  call_pureC (ps := [_, _]) (caps := []) sh10 (e10 n (⟨⟨l_habit_step, l_habit_place, l_habit_sink⟩, l_sights, l_notes⟩ : Life) most hs)
/-- The place of the first sight that is not before a year. -/
def geI (y : Int) : List Sight → Nat
  | [] => 0
  | s :: r => if s.year < y then geI y r + 1 else 0
theorem geI_lt {y : Int} : ∀ {l : List Sight}, (∃ s ∈ l, y ≤ s.year) → geI y l < l.length ∧ (∀ i, idxL (fun s : Sight => decide (y ≤ s.year)) l i = (i : Int) + geI y l) ∧ (∀ k (h : k < l.length), k < geI y l → l[k].year < y) ∧ ∀ (h : geI y l < l.length), y ≤ l[geI y l].year
  | [], h => by simp at h
  | s :: r, h => by
    by_cases hs : s.year < y
    · have h' : ∃ s ∈ r, y ≤ s.year := by
        obtain ⟨t, ht, hy⟩ := h
        rcases List.mem_cons.1 ht with rfl | ht
        · omega
        · exact ⟨t, ht, hy⟩
      obtain ⟨i1, i2, i3, i4⟩ := geI_lt h'
      have e : geI y (s :: r) = geI y r + 1 := by rw [geI, if_pos hs]
      refine ⟨by rw [e]; simp; omega, fun i => ?_, fun k hk hlt => ?_, fun hlt => ?_⟩
      · rw [idxL, if_neg (by simp; omega), i2, e]; push_cast; omega
      · cases k with
        | zero => exact hs
        | succ k => exact i3 k (by simpa using hk) (by omega)
      · simp only [e, List.getElem_cons_succ]; exact i4 _
    · have e : geI y (s :: r) = 0 := by rw [geI, if_neg hs]
      refine ⟨by rw [e]; simp, fun i => ?_, fun k hk hlt => by omega, fun hlt => ?_⟩
      · rw [idxL, if_pos (by simp; omega), e]; simp
      · simp only [e, List.getElem_cons_zero]; omega
def zeroB : Box := ⟨⟨0, 0⟩, ⟨0, 0⟩⟩
def inS (l : Life) (y most : Int) : Box × Int := if checkS l = 0 then (if most < 0 then (zeroB, 1) else if y < (l.sights.xs[0]!).year ∨ (l.sights.xs[l.sights.xs.length - 1]!).year < y then (zeroB, 5) else match extL l most with
  | none => (zeroB, 9)
  | some B => if (l.sights.xs[geI y l.sights.xs]!).year = y then (B[geI y l.sights.xs]!, 0) else (coverB (B[geI y l.sights.xs - 1]!) (B[geI y l.sights.xs]!), 0)) else (zeroB, checkS l)
theorem sh46 : G.shared 46 = false := by decide
theorem e46 (n : Nat) (s : Sight) (y : Int) : callP G (n + 1) 46 [.agg s.cells, .ptr false [.int .i64 y] 0] = some (.bool (decide (y ≤ s.year))) := by
  refine callP_of (ext_none _) rfl g46 rfl ?_
  (repeat' first | simp [*, initEnv, c46] | (refine wpIf_two (fun _ h => ?_) (fun _ h => ?_) <;> try simp [-Nat.le_zero_eq] at h))
@[simp] theorem d46 (n : Nat) (H : Heap) (s_id : Int) (s_year : Int) (s_box_x_lo : Int) (s_box_x_hi : Int) (s_box_y_lo : Int) (s_box_y_hi : Int) (s_letters : List UInt8) (s_height_lo : Int) (s_height_hi : Int) (y : Int) : doCall (calleeOf G (n + 1)) H (.pure (.func 46 [.ptr false [.int .i64 y] 0])) [.pure (.agg [.int .i64 s_id, .int .i64 s_year, .int .i64 s_box_x_lo, .int .i64 s_box_x_hi, .int .i64 s_box_y_lo, .int .i64 s_box_y_hi, .str ⟨(s_letters).toArray⟩, .int .i64 s_height_lo, .int .i64 s_height_hi])] = some (.val (.pure ((fun (s : Sight) => .bool (decide (y ≤ s.year))) (⟨s_id, s_year, ⟨⟨s_box_x_lo, s_box_x_hi⟩, ⟨s_box_y_lo, s_box_y_hi⟩⟩, s_letters, ⟨s_height_lo, s_height_hi⟩⟩ : Sight)))) :=
  call_pureC (ps := [_]) (caps := [_]) sh46 (e46 n (⟨s_id, s_year, ⟨⟨s_box_x_lo, s_box_x_hi⟩, ⟨s_box_y_lo, s_box_y_hi⟩⟩, s_letters, ⟨s_height_lo, s_height_hi⟩⟩ : Sight) y)
theorem idx_in (n : Nat) (s : Sl Sight) (y : Int) (hl : s.xs.length < 1000) (H : Heap) : doCall (calleeOf G (n + 3)) H (.pure (.func 45 [])) [.pure (s.pv Sight.cells 9), .pure (.func 46 [.ptr false [.int .i64 y] 0])] = some (.val (.pure (.int .i64 (idxL (fun s : Sight => decide (y ≤ s.year)) s.xs 0)))) := by
  have h := indexFunc_call (n := n + 2) (f := Sight.cells) (sz := 9) (g := true) (p := .func 46 [.ptr false [.int .i64 y] 0]) (q := fun s : Sight => decide (y ≤ s.year)) (s := s) (ext_none 45) (fun _ _ => rfl) g45 (fun _ => rfl) (by omega)
    (fun H a ha => ⟨.pure (.agg a.cells), rfl, d46 (n + 1) H a.id a.year a.box.x.lo a.box.x.hi a.box.y.lo a.box.y.hi a.letters a.height.lo a.height.hi y⟩)
  exact call_pure (ps := [_, _]) (by decide) h
theorem sh12 : G.shared 12 = false := by decide
theorem e12 (n : Nat) (l : Life) (y most : Int) (hs : shortS l) : callP G (n + 12) 12 [.agg l.cells, .int .i64 y, .int .i64 most] = some (.tup [.agg (inS l y most).1.cells, .int .i64 (inS l y most).2]) := by
  refine callP_of (ext_none _) rfl g12 rfl ?_
  have hcc : ∀ H, doCall (calleeOf G (n + 11)) H (.pure (.func 41 [])) [.pure (.agg l.cells)] = some (.val (.pure (.int .i64 (checkS l)))) := fun H => d41 (n + 6) H l.habit.step l.habit.place l.habit.sink l.sights l.notes hs
  simp only [Life.cells] at hcc
  by_cases hck : checkS l = 0
  case neg =>
    have hP : inS l y most = (zeroB, checkS l) := by unfold inS; rw [if_neg hck]
    rw [hP]
    (repeat' first | simp [*, initEnv, c12, zeroB] | (refine wpIf_two (fun _ h => ?_) (fun _ h => ?_) <;> try simp [-Nat.le_zero_eq] at h))
  have hr := (right_iff l).1 hck
  have h1 := hr.one
  have h9 := hr.nine
  have hc : ∀ H, doCall (calleeOf G (n + 11)) H (.pure (.func 42 [])) [.pure (.agg l.cells), .pure (.int .i64 most)] = some (.val (.pure (extPV (extL l most)))) := fun H => d42 (n + 1) H l.habit.step l.habit.place l.habit.sink l.sights l.notes most hr
  have hidx0 : Hide _ := ⟨idx_in (n + 8) l.sights y (by omega)⟩
  have hw : IntKind.i64.wrap ((l.sights.xs.length : Int) - 1) = ((l.sights.xs.length - 1 : Nat) : Int) := wrap_pred (by omega) (by omega)
  have hl0 : 0 < l.sights.xs.length := by omega
  have hl1 : l.sights.xs.length - 1 < l.sights.xs.length := by omega
  have ha0 : addrV 9 (.pure (l.sights.pv Sight.cells 9)) (.pure (.int .i64 0)) = some (.val (.pure (.ptr l.sights.hot (l.sights.xs[0]'hl0).cells 0))) := addrV_sl (n := 0) hl0
  have hP : Hide (inS l y most = if most < 0 then ((zeroB, 1) : Box × Int) else if y < (l.sights.xs[0]'hl0).year ∨ (l.sights.xs[l.sights.xs.length - 1]'hl1).year < y then (zeroB, 5) else match extL l most with
    | none => (zeroB, 9)
    | some B => if (l.sights.xs[geI y l.sights.xs]!).year = y then (B[geI y l.sights.xs]!, 0) else (coverB (B[geI y l.sights.xs - 1]!) (B[geI y l.sights.xs]!), 0)) := ⟨by
      unfold inS
      rw [if_pos hck, getElem!_pos l.sights.xs 0 hl0, getElem!_pos l.sights.xs (l.sights.xs.length - 1) hl1]⟩
  generalize inS l y most = P at *
  simp only [Life.cells] at hc
  simp only [Sight.cells] at ha0
  rw [hck] at hcc
  clear hck
  by_cases hm : most < 0
  · have hP2 : P = (zeroB, 1) := by rw [hP.h, if_pos hm]
    subst hP2
    (repeat' first | simp [*, initEnv, c12, zeroB] | (refine wpIf_two (fun _ h => ?_) (fun _ h => ?_) <;> try simp [-Nat.le_zero_eq] at h))
  by_cases hy : y < (l.sights.xs[0]'hl0).year ∨ (l.sights.xs[l.sights.xs.length - 1]'hl1).year < y
  · have hP2 : P = (zeroB, 5) := by rw [hP.h, if_neg hm, if_pos hy]
    subst hP2
    rcases hy with hy | hy
    · (repeat' first | simp [*, initEnv, c12, zeroB] | (refine wpIf_two (fun _ h => ?_) (fun _ h => ?_) <;> try simp [-Nat.le_zero_eq] at h))
    · (repeat' first | simp [*, initEnv, c12, zeroB] | (refine wpIf_two (fun _ h => ?_) (fun _ h => ?_) <;> try simp [-Nat.le_zero_eq] at h))
  have hm' : 0 ≤ most := by omega
  have hyl : (l.sights.xs[0]'hl0).year ≤ y := by omega
  have hyh : y ≤ (l.sights.xs[l.sights.xs.length - 1]'hl1).year := by omega
  have hy1 : ¬ y < (l.sights.xs[0]'hl0).year := by omega
  have hy2 : ¬ (l.sights.xs[l.sights.xs.length - 1]'hl1).year < y := by omega
  cases hB : extL l most with
  | none =>
    have hP2 : P = (zeroB, 9) := by rw [hP.h, if_neg hm, if_neg hy, hB]
    subst hP2
    rw [hB] at hc
    clear hP hy
    (repeat' first | simp [*, initEnv, c12, zeroB, extPV] | (refine wpIf_two (fun _ h => ?_) (fun _ h => ?_) <;> try simp [-Nat.le_zero_eq] at h))
  | some B =>
    obtain ⟨hbl, hbp⟩ := extL_ok hr hB
    obtain ⟨k, g1, g5, hidx, hP2⟩ : ∃ k : Nat, ∃ g1 : k < l.sights.xs.length, (0 < k ∨ (l.sights.xs[k]'g1).year = y) ∧ (∀ H, doCall (calleeOf G (n + 11)) H (.pure (.func 45 [])) [.pure (l.sights.pv Sight.cells 9), .pure (.func 46 [.ptr false [.int .i64 y] 0])] = some (.val (.pure (.int .i64 (k : Int))))) ∧
        Hide (P = if (l.sights.xs[k]'g1).year = y then (B[k]!, 0) else (coverB (B[k - 1]!) (B[k]!), 0)) := by
      obtain ⟨g1, g2, g3, g4⟩ := geI_lt (y := y) (l := l.sights.xs) ⟨_, List.getElem_mem hl1, hyh⟩
      refine ⟨geI y l.sights.xs, g1, ?_, ?_, ⟨?_⟩⟩
      · rcases Nat.eq_zero_or_pos (geI y l.sights.xs) with h | h
        · right
          have := g4 g1
          simp only [h] at this ⊢
          omega
        · exact .inl h
      · intro H
        have := hidx0.h H
        rw [g2 0] at this
        simpa using this
      · rw [hP.h, if_neg hm, if_neg hy, hB]
        simp only
        rw [getElem!_pos l.sights.xs _ g1]
    rw [hB] at hc
    clear hP hy hB
    have hkB : k < B.length := by omega
    have hk1 : k - 1 < B.length := by omega
    rw [getElem!_pos B _ hkB, getElem!_pos B _ hk1] at hP2
    have hcov : ∀ H, doCall (calleeOf G (n + 11)) H (.pure (.func 16 [])) [.pure (.agg (B[k - 1]'hk1).cells), .pure (.agg (B[k]'hkB).cells)] = some (.val (.pure (.tup [.agg (coverB (B[k - 1]'hk1) (B[k]'hkB)).cells, .bool true]))) := fun H =>
      d16 (n + 7) H _ _ _ _ _ _ _ _ (hbp _ (List.getElem_mem _)) (hbp _ (List.getElem_mem _))
    simp only [Box.cells] at hcov
    clear hbp
    by_cases hyk : (l.sights.xs[k]'g1).year = y
    · have hP3 : P = (B[k]'hkB, 0) := by rw [hP2.h, if_pos hyk]
      subst hP3
      clear hP2 hcov
      (repeat' first | simp [*, initEnv, c12, extPV, Sl.isNil] | (refine wpIf_two (fun _ h => ?_) (fun _ h => ?_) <;> try simp [-Nat.le_zero_eq] at h))
    · have hP3 : P = (coverB (B[k - 1]'hk1) (B[k]'hkB), 0) := by rw [hP2.h, if_neg hyk]
      subst hP3
      have hk0 : 0 < k := by omega
      have ha1 : addrV 4 (.pure ((Sl.mk false B).pv Box.cells 4)) (.pure (.int .i64 ((k - 1 : Nat) : Int))) = some (.val (.pure (.ptr false (B[k - 1]'hk1).cells 0))) := addrV_sl (s := Sl.mk false B) hk1
      simp only [Box.cells] at ha1
      have hfit : k < 9223372036854775807 := by omega
      clear hP2
      (repeat' first | simp [*, initEnv, c12, extPV, Sl.isNil] | (refine wpIf_two (fun _ h => ?_) (fun _ h => ?_) <;> try simp [-Nat.le_zero_eq] at h))
@[simp] theorem d12 (n : Nat) (H : Heap) (l_habit_step : Int) (l_habit_place : Int) (l_habit_sink : Int) (l_sights : Sl Sight) (l_notes : Sl Note) (y : Int) (most : Int) (hs : (fun (l : Life) => shortS l) (⟨⟨l_habit_step, l_habit_place, l_habit_sink⟩, l_sights, l_notes⟩ : Life)) : doCall (calleeOf G (n + 12)) H (.pure (.func 12 [])) [.pure (.agg [.int .i64 l_habit_step, .int .i64 l_habit_place, .int .i64 l_habit_sink, (l_sights).pv Sight.cells 9, (l_notes).pv Note.cells 4]), .pure (.int .i64 y), .pure (.int .i64 most)] = some (.val (.pure ((fun (l : Life) => .tup [.agg (inS l y most).1.cells, .int .i64 (inS l y most).2]) (⟨⟨l_habit_step, l_habit_place, l_habit_sink⟩, l_sights, l_notes⟩ : Life)))) :=
  call_pureC (ps := [_, _, _]) (caps := []) sh12 (e12 n (⟨⟨l_habit_step, l_habit_place, l_habit_sink⟩, l_sights, l_notes⟩ : Life) y most hs)
end Go.Proofs.YtnomliioadjdgaaGreat.Vm

namespace Go.Proofs.YtnomliioadjdgaaGreat.Vm
open Go
set_option linter.unusedSimpArgs false
set_option linter.unusedVariables false
set_option maxHeartbeats 4000000

theorem true_is {l : Life} {x : Lived} (h : (trueR l x).2.1 = true) : givenS l x.course.xs = 0 ∧ sizesS l x ∧ (∀ k, k < l.sights.xs.length → seeS l x k = true) ∧ (∀ m ∈ l.notes.xs, notedS l.sights.xs m x.course.xs = true) ∧ (trueR l x).2.2 = 0 := by
  unfold trueR at h ⊢
  by_cases hg : givenS l x.course.xs ≠ 0
  · rw [if_pos hg] at h; simp at h
  rw [if_neg hg] at h ⊢
  by_cases hz : sizesS l x
  case neg => rw [if_neg hz] at h; simp at h
  rw [if_pos hz] at h ⊢
  cases hb : badSee l x with
  | some k => rw [hb] at h; simp at h
  | none =>
    rw [hb] at h
    simp only at h ⊢
    cases hn : badNote l x with
    | some m => rw [hn] at h; simp at h
    | none =>
      refine ⟨by simpa using hg, hz, fun k hk => ?_, fun m hm => ?_, rfl⟩
      · have := List.find?_eq_none.1 hb k (List.mem_range.2 hk)
        simpa using this
      · have := List.find?_eq_none.1 hn m hm
        simpa using this

/-! ### Letters -/
theorem reads_mixL : ∀ (t p q : List UInt8), t.length = p.length → t.length = q.length → noDot t = true → agreeL t p = true → agreeL t q = true →
    agreeL p q = true ∧ agreeL t (mixL p q) = true ∧ (mixL p q).length = p.length ∧ (allC true p = true → allC true q = true → allC true (mixL p q) = true)
  | [], [], [], _, _, _, _, _ => ⟨rfl, rfl, rfl, fun _ _ => rfl⟩
  | c :: t, a :: p, b :: q, h1, h2, hd, ha, hb => by
    simp only [noDot, Bool.and_eq_true] at hd
    simp only [agreeL, Bool.and_eq_true] at ha hb
    obtain ⟨i1, i2, i3, i4⟩ := reads_mixL t p q (by simpa using h1) (by simpa using h2) hd.2 ha.2 hb.2
    have hc : ¬ (c.toNat : Int) = 46 := by simpa using hd.1
    have e1 : (c.toNat : Int) = a.toNat ∨ (a.toNat : Int) = 46 := by
      have := ha.1
      simp [hc] at this
      omega
    have e2 : (c.toNat : Int) = b.toNat ∨ (b.toNat : Int) = 46 := by
      have := hb.1
      simp [hc] at this
      omega
    simp only [agreeL, mixL, allC, Bool.and_eq_true, i1, i2, and_true, List.length_cons, i3, true_and]
    refine ⟨?_, ?_, fun h3 h4 => ⟨?_, i4 h3.2 h4.2⟩⟩
    · simp; omega
    · split
      · simp [hc]; omega
      · simp [hc]; omega
    · split
      · exact h4.1
      · exact h3.1
  | [], _ :: _, _, h, _, _, _, _ => by simp at h
  | [], [], _ :: _, _, h, _, _, _ => by simp at h
  | _ :: _, [], _, h, _, _, _, _ => by simp at h
  | _ :: _, _ :: _, [], _, h, _, _, _ => by simp at h
theorem reads_mix {t p q : List UInt8} (hd : noDot t = true) (h1 : agreeR t p = true) (h2 : agreeR t q = true) : agreeR p q = true ∧ agreeR t (mixL p q) = true := by
  simp only [agreeR, patR, Bool.and_eq_true, decide_eq_true_eq] at h1 h2 ⊢
  obtain ⟨a1, a2, a3, a4⟩ := reads_mixL t p q (by omega) (by omega) hd h1.2 h2.2
  have := a4 h1.1.1.2.1.1 h2.1.1.2.1.1
  refine ⟨⟨⟨⟨?_, ?_⟩, ?_⟩, a1⟩, ⟨⟨⟨?_, ?_⟩, ?_⟩, a2⟩⟩
  · exact h1.1.1.2
  · exact h2.1.1.2
  · omega
  · exact h1.1.1.1
  · rw [a3]; exact ⟨⟨this, h1.1.1.2.1.2⟩, h1.1.1.2.2⟩
  · omega
/-- Letters that read what was seen, sight for sight. -/
def Chain : List UInt8 → List (Int × List UInt8) → List (List UInt8) → Prop
  | _, [], [] => True
  | t, (k, s) :: r, u :: us => noDot u = true ∧ agreeR u s = true ∧ (k = 2 ∨ t = u) ∧ Chain u r us
  | _, _, _ => False
theorem goL_reads : ∀ (r : List (Int × List UInt8)) (us : List (List UInt8)) (t p : List UInt8) (m : Nat), Chain t r us → noDot t = true → agreeR t p = true →
    ∃ out, goL p m r = some out ∧ out.length = m + r.length ∧ ∀ i, i < out.length → agreeR (List.replicate m t ++ us)[i]! out[i]! = true
  | [], [], t, p, m, _, hd, hp => ⟨List.replicate m p, rfl, by simp, fun i hi => by
      have hi' : i < m := by simpa using hi
      rw [getElem!_pos _ i (by simpa using hi'), getElem!_pos _ i (by simpa using hi')]
      simpa using hp⟩
  | (k, s) :: r, u :: us, t, p, m, hc, hd, hp => by
    obtain ⟨h1, h2, h3, h4⟩ := hc
    by_cases hk : k = 2
    · obtain ⟨out, e1, e2, e3⟩ := goL_reads r us u s 1 h4 h1 h2
      refine ⟨List.replicate m p ++ out, by rw [goL, if_pos hk, e1]; rfl, by simp [e2]; omega, fun i hi => ?_⟩
      rcases Nat.lt_or_ge i m with h | h
      · rw [getElem!_pos _ i (by simp; omega), getElem!_pos _ i (by simp; omega), List.getElem_append_left (by simpa using h), List.getElem_append_left (by simpa using h)]
        simpa using hp
      · have hi2 : i - m < out.length := by simp at hi; omega
        have := e3 (i - m) hi2
        have hul : 1 + us.length = out.length := by
          rw [e2]
          have : ∀ (t : List UInt8) (r : List (Int × List UInt8)) (us : List (List UInt8)), Chain t r us → us.length = r.length := by
            intro t r
            induction r generalizing t with
            | nil => intro us h; cases us with
              | nil => rfl
              | cons => exact h.elim
            | cons a r ih => intro us h; cases us with
              | nil => exact h.elim
              | cons u us => simp [ih u us h.2.2.2]
          rw [this u r us h4]
        rw [getElem!_pos _ (i - m) (by simp; omega), getElem!_pos _ (i - m) hi2] at this
        rw [getElem!_pos _ i (by simp; omega), getElem!_pos _ i (by simp; omega), List.getElem_append_right (by simpa using h), List.getElem_append_right (by simpa using h)]
        simpa using this
    · have ht : t = u := by rcases h3 with h | h; exact absurd h hk; exact h
      subst ht
      obtain ⟨g1, g2⟩ := reads_mix hd hp h2
      obtain ⟨out, e1, e2, e3⟩ := goL_reads r us t (mixL p s) (m + 1) h4 hd g2
      refine ⟨out, by rw [goL, if_neg hk, if_pos g1]; exact e1, by simp [e2]; omega, fun i hi => ?_⟩
      have := e3 i hi
      rwa [List.replicate_succ', List.append_assoc] at this
  | [], _ :: _, _, _, _, h, _, _ => h.elim
  | _ :: _, [], _, _, _, h, _, _ => h.elim
theorem chain_of : ∀ (r : List (Int × List UInt8)) (us : List (List UInt8)) (t : List UInt8), us.length = r.length → (∀ i (h : i < r.length) (h' : i < us.length), noDot us[i] = true ∧ agreeR us[i] r[i].2 = true ∧ (r[i].1 = 2 ∨ (t :: us)[i]! = us[i])) → Chain t r us
  | [], [], _, _, _ => trivial
  | (k, s) :: r, u :: us, t, hl, h => by
    obtain ⟨h1, h2, h3⟩ := h 0 (by simp) (by simp)
    refine ⟨h1, h2, by simpa using h3, chain_of r us u (by simpa using hl) fun i hi hi' => ?_⟩
    have := h (i + 1) (by simp; omega) (by simp; omega)
    simpa using this
  | [], _ :: _, _, h, _ => by simp at h
  | _ :: _, [], _, h, _ => by simp at h

/-! ### Spans -/
def ptS (p : Int) : Span := ⟨p, p⟩
theorem pt_full {p : Int} {s : Span} (h : sub (ptS p) s) : full s := by unfold sub ptS full at *; simp only at h; omega

section
variable {l : Life} {x : Lived}
structure TrueOf (l : Life) (x : Lived) : Prop where
  right : Right l
  len : x.course.xs.length + 1 = l.sights.xs.length
  kinds : ∀ k ∈ x.course.xs, 0 ≤ k ∧ k ≤ 2
  sizes : sizesS l x
  see : ∀ k, k < l.sights.xs.length → seeS l x k = true
  notes : ∀ m ∈ l.notes.xs, notedS l.sights.xs m x.course.xs = true
theorem trueOf (h : (trueR l x).2.1 = true) : TrueOf l x := by
  obtain ⟨h1, h2, h3, h4, _⟩ := true_is h
  obtain ⟨hr, hc, hk⟩ := given_zero h1
  exact ⟨hr, hc, hk, h2, h3, h4⟩
theorem TrueOf.at_ (h : TrueOf l x) {k : Nat} (hk : k < l.sights.xs.length) : inBox l.sights.xs[k]!.box x.points.xs[k]! = true ∧ noDot x.letters.xs[k]! = true ∧ agreeR x.letters.xs[k]! l.sights.xs[k]!.letters = true ∧ l.sights.xs[k]!.height.lo ≤ x.heights.xs[k]! ∧ x.heights.xs[k]! ≤ l.sights.xs[k]!.height.hi ∧ (0 < k → gapS l x k = true) := by
  have := h.see k hk
  simp only [seeS, seeA, Bool.and_eq_true, Bool.or_eq_true, decide_eq_true_eq] at this
  exact ⟨this.1.1, this.1.2.1.1, this.1.2.1.2, this.1.2.2.1, this.1.2.2.2, fun h0 => by rcases this.2 with h | h; omega; exact h⟩
theorem TrueOf.gap (h : TrueOf l x) {k : Nat} (hk : k + 1 < l.sights.xs.length) : gapP l.habit x.course.xs[k]! x.points.xs[k]! x.points.xs[k+1]! x.letters.xs[k]! x.letters.xs[k+1]! x.heights.xs[k]! x.heights.xs[k+1]! (yrS l.sights.xs k) = true := by
  have := (h.at_ hk).2.2.2.2.2 (by omega)
  exact this
theorem gap_far {hb : Habit} (hh : habitS hb = true) {c : Int} {p q : Pt} {s t : List UInt8} {a b y : Int} (h : gapP hb c p q s t a b y = true) :
    p.x - farD hb c ≤ q.x ∧ q.x ≤ p.x + farD hb c ∧ p.y - farD hb c ≤ q.y ∧ q.y ≤ p.y + farD hb c ∧ (c ≠ 2 → s = t) ∧ (c = 0 → 0 ≤ a - b ∧ a - b ≤ hb.sink * y) := by
  unfold gapP at h
  by_cases h0 : c = 0
  · rw [if_pos h0] at h
    simp only [Bool.and_eq_true, decide_eq_true_eq] at h
    subst h0
    have hf : farD hb 0 = 0 := by simp [farD]
    rw [hf]
    exact ⟨by omega, by omega, by omega, by omega, fun _ => h.1.2, fun _ => h.2⟩
  · rw [if_neg h0] at h
    simp only [nearS, Bool.and_eq_true, Bool.or_eq_true, decide_eq_true_eq] at h
    refine ⟨by omega, by omega, by omega, by omega, fun h2 => ?_, fun h1 => absurd h1 h0⟩
    rcases h.1 with h3 | h3
    · exact absurd h3 h2
    · exact h3
theorem TrueOf.nar (h : TrueOf l x) : (∀ j, j < l.sights.xs.length → sub (ptS x.points.xs[j]!.x) (narX l x.course.xs)[j]!) ∧ (∀ j, j < l.sights.xs.length → sub (ptS x.points.xs[j]!.y) (narY l x.course.xs)[j]!) ∧ (∀ j, j < l.sights.xs.length → sub (ptS x.heights.xs[j]!) (narH l x.course.xs)[j]!) := by
  have hr := h.right
  have hin : ∀ j, j < l.sights.xs.length → l.sights.xs[j]!.box.x.lo ≤ x.points.xs[j]!.x ∧ x.points.xs[j]!.x ≤ l.sights.xs[j]!.box.x.hi ∧ l.sights.xs[j]!.box.y.lo ≤ x.points.xs[j]!.y ∧ x.points.xs[j]!.y ≤ l.sights.xs[j]!.box.y.hi := fun j hj => by
    have := (h.at_ hj).1
    simp only [inBox, Bool.and_eq_true, decide_eq_true_eq] at this
    omega
  refine ⟨?_, ?_, ?_⟩
  · refine low_rounds (gapsX hr x.course.xs) (b := fun j => ptS x.points.xs[j]!.x) (n := l.sights.xs.length) (by simp) (by have := h.len; omega) (fun i hi => ?_) (fun i hi => ?_) (fun j hj => ?_) _
    · have := gap_far hr.habit (h.gap hi)
      unfold sub ptS onX onD; simp only; omega
    · have := gap_far hr.habit (h.gap hi)
      unfold sub ptS onX onD; simp only; omega
    · have := hin j hj
      rw [getElem!_pos (l.sights.xs.map (·.box.x)) j (by simpa using hj)]
      rw [getElem!_pos l.sights.xs j hj] at this
      unfold sub ptS; simp only [List.getElem_map]; omega
  · refine low_rounds (gapsX hr x.course.xs) (b := fun j => ptS x.points.xs[j]!.y) (n := l.sights.xs.length) (by simp) (by have := h.len; omega) (fun i hi => ?_) (fun i hi => ?_) (fun j hj => ?_) _
    · have := gap_far hr.habit (h.gap hi)
      unfold sub ptS onX onD; simp only; omega
    · have := gap_far hr.habit (h.gap hi)
      unfold sub ptS onX onD; simp only; omega
    · have := hin j hj
      rw [getElem!_pos (l.sights.xs.map (·.box.y)) j (by simpa using hj)]
      rw [getElem!_pos l.sights.xs j hj] at this
      unfold sub ptS; simp only [List.getElem_map]; omega
  · have hh : ∀ j, j < l.sights.xs.length → 0 ≤ x.heights.xs[j]! ∧ x.heights.xs[j]! ≤ 100 := fun j hj => (okR_of hr h.sizes hj (h.see j hj)).2
    refine low_rounds (gapsH hr x.course.xs) (b := fun j => ptS x.heights.xs[j]!) (n := l.sights.xs.length) (by simp) (by have := h.len; omega) (fun i hi => ?_) (fun i hi => ?_) (fun j hj => ?_) _
    · have h1 := gap_far hr.habit (h.gap hi)
      have h2 := hh i (by omega)
      have h3 := hh (i + 1) hi
      simp only [onH, if_pos hi, upH]
      by_cases hc : x.course.xs[i]! = 0
      · have := h1.2.2.2.2.2 hc
        rw [if_pos hc]; unfold sub ptS; simp only; omega
      · rw [if_neg hc]; unfold sub ptS; simp only; omega
    · have h1 := gap_far hr.habit (h.gap hi)
      have h2 := hh i (by omega)
      have h3 := hh (i + 1) hi
      simp only [backH, if_pos hi, downH]
      by_cases hc : x.course.xs[i]! = 0
      · have := h1.2.2.2.2.2 hc
        rw [if_pos hc]; unfold sub ptS; simp only; omega
      · rw [if_neg hc]; unfold sub ptS; simp only; omega
    · have := h.at_ hj
      rw [getElem!_pos (l.sights.xs.map (·.height)) j (by simpa using hj)]
      rw [getElem!_pos l.sights.xs j hj] at this
      unfold sub ptS; simp only [List.getElem_map]; omega
theorem cons_tail {α : Type} : ∀ (l : List α) (h : 0 < l.length), l = l[0] :: l.tail
  | [], h => by simp at h
  | a :: l, _ => rfl
theorem TrueOf.letters (h : TrueOf l x) : ∃ t, lettersS l.sights.xs x.course.xs = some t ∧ t.length = l.sights.xs.length ∧ ∀ i, i < l.sights.xs.length → agreeR x.letters.xs[i]! t[i]! = true := by
  have hn : 0 < l.sights.xs.length := by have := h.right.one; omega
  have hl := h.len
  have hxl := h.sizes.2.1
  have hgl : (gapsL l.sights.xs x.course.xs).length = x.course.xs.length := by simp [gapsL, lets]; omega
  have h0 := h.at_ hn
  rw [getElem!_pos x.letters.xs 0 (by omega), getElem!_pos l.sights.xs 0 hn] at h0
  have hus : x.letters.xs = x.letters.xs[0]'(by omega) :: x.letters.xs.tail := cons_tail _ _
  have hc : Chain (x.letters.xs[0]'(by omega)) (gapsL l.sights.xs x.course.xs) x.letters.xs.tail := by
    refine chain_of _ _ _ (by rw [hgl]; simp; omega) fun i hi hi' => ?_
    have hi1 : i + 1 < l.sights.xs.length := by omega
    have h1 := h.at_ hi1
    have h2 := (gap_far h.right.habit (h.gap hi1)).2.2.2.2.1
    rw [getElem!_pos x.letters.xs (i+1) (by omega), getElem!_pos l.sights.xs (i+1) hi1] at h1
    rw [getElem!_pos x.letters.xs (i+1) (by omega), getElem!_pos x.letters.xs i (by omega), getElem!_pos x.course.xs i (by omega)] at h2
    have e1 : x.letters.xs.tail[i] = x.letters.xs[i+1]'(by omega) := by simp
    have e2 : (gapsL l.sights.xs x.course.xs)[i].2 = (l.sights.xs[i+1]'hi1).letters := by simp [gapsL, lets]
    have e3 : (gapsL l.sights.xs x.course.xs)[i].1 = x.course.xs[i]'(by omega) := by simp [gapsL]
    rw [e1, e2, e3, ← hus]
    refine ⟨h1.2.1, h1.2.2.1, ?_⟩
    rw [getElem!_pos x.letters.xs i (by omega)]
    by_cases hk : x.course.xs[i]'(by omega) = 2
    · exact .inl hk
    · exact .inr (h2 hk)
  obtain ⟨t, e1, e2, e3⟩ := goL_reads _ _ _ _ 1 hc h0.2.1 h0.2.2.1
  refine ⟨t, ?_, by rw [e2, hgl]; omega, fun i hi => ?_⟩
  · unfold lettersS startL
    rw [dif_pos hn, List.drop_zero]
    exact e1
  · have := e3 i (by omega)
    rwa [show List.replicate 1 (x.letters.xs[0]'(by omega)) ++ x.letters.xs.tail = x.letters.xs from hus.symm] at this
theorem some_of_pts {L : List Span} {p : Nat → Int} {n : Nat} (hl : L.length = n) (h : ∀ j, j < n → sub (ptS (p j)) L[j]!) : someS L = true := by
  rw [allL_full]
  intro s hs
  obtain ⟨i, hi, rfl⟩ := List.mem_iff_getElem.1 hs
  have := h i (by omega)
  rw [getElem!_pos L i hi] at this
  exact pt_full this
/-- What is true fits, and lies in what is told. -/
theorem TrueOf.tell (h : TrueOf l x) : ∃ t, tellS l x.course.xs = some t ∧ t.boxes.length = l.sights.xs.length ∧ t.heights.length = l.sights.xs.length ∧ t.letters.length = l.sights.xs.length ∧
    ∀ i, i < l.sights.xs.length → inBox t.boxes[i]! x.points.xs[i]! = true ∧ t.heights[i]!.lo ≤ x.heights.xs[i]! ∧ x.heights.xs[i]! ≤ t.heights[i]!.hi ∧ noDot x.letters.xs[i]! = true ∧ agreeR x.letters.xs[i]! t.letters[i]! = true := by
  obtain ⟨h1, h2, h3⟩ := h.nar
  obtain ⟨t, h4, h5, h6⟩ := h.letters
  obtain ⟨n1, n2, n3⟩ := nar_len l x.course.xs
  have hcan : canS l x.course.xs = true := by
    unfold canS
    rw [some_of_pts n1 h1, some_of_pts n2 h2, some_of_pts n3 h3, h4, allL_iff.2 fun m hm => h.notes m hm]
    rfl
  have ht := tell_can h.right h.len
  rw [if_pos hcan, h4] at ht
  obtain ⟨b1, b2⟩ := tell_proper h.right h.len ht
  refine ⟨_, ht, b1, n3, h5, fun i hi => ?_⟩
  have hb := b2 _ (List.getElem_mem (n := i) (by omega))
  have g1 := h1 i hi
  have g2 := h2 i hi
  have g3 := h3 i hi
  refine ⟨?_, g3.1, g3.2, (h.at_ hi).2.1, h6 i hi⟩
  have hlz : i < ((narX l x.course.xs).zipWith Box.mk (narY l x.course.xs)).length := by simp; omega
  rw [getElem!_pos ((narX l x.course.xs).zipWith Box.mk (narY l x.course.xs)) i hlz]
  simp only [inBox, Bool.and_eq_true, decide_eq_true_eq]
  refine ⟨⟨hb, ?_⟩, ?_⟩
  · rw [getElem!_pos (narX l x.course.xs) i (by omega)] at g1
    unfold sub ptS at g1
    simp only [List.getElem_zipWith]
    exact g1
  · rw [getElem!_pos (narY l x.course.xs) i (by omega)] at g2
    unfold sub ptS at g2
    simp only [List.getElem_zipWith]
    exact g2
end

/-! ### All courses -/
theorem toC_onto : ∀ (c : List Int), (∀ k ∈ c, 0 ≤ k ∧ k ≤ 2) → ∃ j, j < 3 ^ c.length ∧ toC c.length j = c
  | [], _ => ⟨0, by simp, rfl⟩
  | d :: r, h => by
    obtain ⟨j, h1, h2⟩ := toC_onto r fun k hk => h k (List.mem_cons_of_mem _ hk)
    have hd := h d (List.mem_cons_self ..)
    refine ⟨d.toNat + 3 * j, ?_, ?_⟩
    · rw [List.length_cons, Nat.pow_succ]; omega
    · rw [List.length_cons, toC, show (d.toNat + 3 * j) % 3 = d.toNat by omega, show (d.toNat + 3 * j) / 3 = j by omega, h2]
      congr 1
      omega
def subB (a b : Box) : Prop := sub a.x b.x ∧ sub a.y b.y
theorem subB_cover_l (a b : Box) : subB a (coverB a b) := by unfold subB sub coverB coverS; simp only; omega
theorem subB_cover_r (a b : Box) : subB b (coverB a b) := by unfold subB sub coverB coverS; simp only; omega
theorem subB_trans {a b c : Box} (h : subB a b) (h' : subB b c) : subB a c := ⟨sub_trans h.1 h'.1, sub_trans h.2 h'.2⟩
theorem extTo_has {f : List Int → Option (List Box)} {most : Int} {m n : Nat} (hf : ∀ j B, f (toC m j) = some B → okBs n B) {j0 : Nat} {B0 : List Box} (h0 : f (toC m j0) = some B0) (hm : ¬ most < chg (toC m j0)) :
    ∀ J, j0 < J → ∃ A, extTo f most m J = some A ∧ ∀ i, i < n → subB B0[i]! A[i]!
  | 0, h => by omega
  | J + 1, h => by
    have hsame : ∀ B, f (toC m J) = some B → ∀ A, extTo f most m J = some A → ∀ i, i < n → (A.zipWith coverB B)[i]! = coverB A[i]! B[i]! := fun B hB A hA i hi => by
      have l1 := (hf _ _ hB).1
      have l2 := (extTo_ok hf _ _ hA).1
      rw [getElem!_pos _ i (by simp; omega), getElem!_pos A i (by omega), getElem!_pos B i (by omega)]
      simp
    rw [extTo]
    by_cases hj : J = j0
    · subst hj
      rw [h0]
      simp only
      rw [if_neg hm]
      cases hA : extTo f most m J with
      | none => exact ⟨B0, rfl, fun i hi => ⟨sub_refl _, sub_refl _⟩⟩
      | some A => exact ⟨_, rfl, fun i hi => by show subB _ (A.zipWith coverB B0)[i]!; rw [hsame _ h0 A hA i hi]; exact subB_cover_r _ _⟩
    · obtain ⟨A, hA, hs⟩ := extTo_has hf h0 hm J (by omega)
      cases hB : f (toC m J) with
      | none => exact ⟨A, hA, hs⟩
      | some B =>
        simp only
        split
        · exact ⟨A, hA, hs⟩
        · rw [hA]
          exact ⟨_, rfl, fun i hi => by show subB _ (A.zipWith coverB B)[i]!; rw [hsame _ hB A hA i hi]; exact subB_trans (hs i hi) (subB_cover_l _ _)⟩
def hasBit (a k : Int) : Prop := ¬ (a.tdiv (bitOf k)).tmod 2 = 0
theorem bit_keep {a k d : Int} (ha : 0 ≤ a ∧ a ≤ 7) (hk : 0 ≤ k ∧ k ≤ 2) (hd : 0 ≤ d ∧ d ≤ 2) : hasBit (addBit a k) k ∧ (hasBit a d → hasBit (addBit a k) d) := by
  have h1 : a = 0 ∨ a = 1 ∨ a = 2 ∨ a = 3 ∨ a = 4 ∨ a = 5 ∨ a = 6 ∨ a = 7 := by omega
  have h2 : k = 0 ∨ k = 1 ∨ k = 2 := by omega
  have h3 : d = 0 ∨ d = 1 ∨ d = 2 := by omega
  unfold hasBit
  rcases h1 with rfl | rfl | rfl | rfl | rfl | rfl | rfl | rfl <;> rcases h2 with rfl | rfl | rfl <;> rcases h3 with rfl | rfl | rfl <;> decide
theorem kindsTo_has {p : List Int → Bool} {m : Nat} {j0 : Nat} (h0 : p (toC m j0) = true) : ∀ J, j0 < J → (kindsTo p m J).2 = true ∧ ∀ i, i < m → hasBit (kindsTo p m J).1[i]! (toC m j0)[i]!
  | 0, h => by omega
  | J + 1, h => by
    have hk : ∀ (j i : Nat), i < m → 0 ≤ (toC m j)[i]! ∧ (toC m j)[i]! ≤ 2 := fun j i hi => by
      rw [getElem!_pos _ i (by rw [toC_length]; exact hi)]
      exact toC_kinds m j _ (List.getElem_mem _)
    have hz : ∀ i, i < m → ((kindsTo p m J).1.zipWith addBit (toC m J))[i]! = addBit (kindsTo p m J).1[i]! (toC m J)[i]! := fun i hi => by
      have l1 := kindsTo_length p m J
      have l2 := toC_length m J
      rw [getElem!_pos _ i (by simp; omega), getElem!_pos (kindsTo p m J).1 i (by omega), getElem!_pos (toC m J) i (by omega)]
      simp
    have ha : ∀ i, i < m → 0 ≤ (kindsTo p m J).1[i]! ∧ (kindsTo p m J).1[i]! ≤ 7 := fun i hi => by
      rw [getElem!_pos _ i (by rw [kindsTo_length]; exact hi)]
      exact kindsTo_le p m J _ (List.getElem_mem _)
    rw [kindsTo]
    by_cases hj : J = j0
    · subst hj
      rw [if_pos h0]
      exact ⟨rfl, fun i hi => by simp only; rw [hz i hi]; exact (bit_keep (ha i hi) (hk _ i hi) (hk J i hi)).1⟩
    · obtain ⟨i1, i2⟩ := kindsTo_has h0 J (by omega)
      split
      · exact ⟨rfl, fun i hi => by simp only; rw [hz i hi]; exact (bit_keep (ha i hi) (hk _ i hi) (hk _ i hi)).2 (i2 i hi)⟩
      · exact ⟨i1, i2⟩
theorem in_sub {b B : Box} {p : Pt} (h : inBox b p = true) (hs : subB b B) (hB : properS B = true) : inBox B p = true := by
  simp only [inBox, Bool.and_eq_true, decide_eq_true_eq] at h ⊢
  unfold subB sub at hs
  exact ⟨⟨hB, by omega⟩, by omega⟩
theorem TrueOf.wide {l : Life} {x : Lived} (h : TrueOf l x) : (∃ B, extL l (chg x.course.xs) = some B ∧ B.length = l.sights.xs.length ∧ ∀ i, i < l.sights.xs.length → inBox B[i]! x.points.xs[i]! = true) ∧
    (kindsTo (fitP l) (l.sights.xs.length - 1) (3 ^ (l.sights.xs.length - 1))).2 = true ∧ ∀ i, i < l.sights.xs.length - 1 → hasBit (kindsTo (fitP l) (l.sights.xs.length - 1) (3 ^ (l.sights.xs.length - 1))).1[i]! x.course.xs[i]! := by
  obtain ⟨t, h1, h2, _, _, h5⟩ := h.tell
  obtain ⟨j, hj, hc⟩ := toC_onto x.course.xs h.kinds
  have hm : x.course.xs.length = l.sights.xs.length - 1 := by have := h.len; omega
  rw [hm] at hj hc
  refine ⟨?_, ?_⟩
  · have hf : boxesP l (toC (l.sights.xs.length - 1) j) = some t.boxes := by rw [hc, boxesP, h1]; rfl
    obtain ⟨A, hA, hs⟩ := extTo_has (boxes_ok h.right) hf (most := chg x.course.xs) (by rw [hc]; omega) _ hj
    have hok := extL_ok h.right hA
    refine ⟨A, hA, hok.1, fun i hi => in_sub (h5 i hi).1 (hs i hi) ?_⟩
    rw [getElem!_pos A i (by rw [hok.1]; exact hi)]
    exact hok.2 _ (List.getElem_mem _)
  · have hf : fitP l (toC (l.sights.xs.length - 1) j) = true := by rw [hc, fitP, h1]; rfl
    have := kindsTo_has hf _ hj
    rwa [hc] at this
end Go.Proofs.YtnomliioadjdgaaGreat.Vm

namespace Go.Proofs.YtnomliioadjdgaaGreat.Vm
open Go
set_option linter.unusedSimpArgs false
set_option linter.unusedVariables false
set_option maxHeartbeats 4000000

/-! ### Lines of values along gaps -/
structure Line (d : Nat → Int) (D : List Span) (p : Nat → Int) : Prop where
  inn : ∀ j, j < D.length → sub (ptS (p j)) D[j]!
  near : ∀ j, j + 1 < D.length → p j - d j ≤ p (j+1) ∧ p (j+1) ≤ p j + d j
def clampS (s : Span) (v : Int) : Int := max s.lo (min s.hi v)
theorem clamp_in {s : Span} (h : full s) (v : Int) : sub (ptS (clampS s v)) s := by unfold full sub ptS clampS at *; simp only; omega
def goR (N : List Span) (i : Nat) (v : Int) : Nat → Int
  | 0 => v
  | m + 1 => clampS N[i+m+1]! (goR N i v m)
def goB (N : List Span) (i : Nat) (v : Int) : Nat → Int
  | 0 => v
  | m + 1 => clampS N[i-(m+1)]! (goB N i v m)
theorem line_of {d : Nat → Int} {N : List Span} (hd : ∀ j, 0 ≤ d j) (hf : ∀ j, j < N.length → full N[j]!) (h1 : ∀ j, j + 1 < N.length → sub N[j+1]! (onD (d j) N[j]!)) (h2 : ∀ j, j + 1 < N.length → sub N[j]! (onD (d j) N[j+1]!))
    {i : Nat} {v : Int} (hi : i < N.length) (hv : sub (ptS v) N[i]!) : ∃ p, p i = v ∧ Line d N p := by
  have hR : ∀ m, i + m < N.length → sub (ptS (goR N i v m)) N[i+m]! := fun m hm => by
    cases m with
    | zero => exact hv
    | succ m => exact clamp_in (hf _ hm) _
  have hB : ∀ m, m ≤ i → sub (ptS (goB N i v m)) N[i-m]! := fun m hm => by
    cases m with
    | zero => exact hv
    | succ m => exact clamp_in (hf _ (by omega)) _
  refine ⟨fun j => if i ≤ j then goR N i v (j - i) else goB N i v (i - j), by simp [goR], fun j hj => ?_, fun j hj => ?_⟩
  · by_cases h : i ≤ j
    · rw [if_pos h]
      have := hR (j - i) (by omega)
      rwa [show i + (j - i) = j by omega] at this
    · rw [if_neg h]
      have := hB (i - j) (by omega)
      rwa [show i - (i - j) = j by omega] at this
  · have a1 := h1 j hj
    have a2 := h2 j hj
    have a3 := hd j
    by_cases h : i ≤ j
    · rw [if_pos h, if_pos (by omega)]
      have b := hR (j - i) (by omega)
      rw [show i + (j - i) = j by omega] at b
      have e : j + 1 - i = (j - i) + 1 := by omega
      rw [e, goR, show i + (j - i) + 1 = j + 1 by omega]
      have f := hf (j + 1) hj
      generalize goR N i v (j - i) = x at *
      unfold sub ptS onD clampS full at *
      simp only at *
      omega
    · rw [if_neg h]
      by_cases h' : i = j + 1
      · rw [if_pos (by omega), h', Nat.sub_self, show j + 1 - j = 0 + 1 by omega, goR, goB, goB, show j + 1 - (0 + 1) = j by omega]
        have f := hf j (by omega)
        rw [h'] at hv
        unfold sub ptS onD clampS full at *
        simp only at *
        omega
      · rw [if_neg (by omega)]
        have b := hB (i - (j + 1)) (by omega)
        rw [show i - (i - (j + 1)) = j + 1 by omega] at b
        have e : i - j = (i - (j + 1)) + 1 := by omega
        rw [e, goB, show i - (i - (j + 1) + 1) = j by omega]
        have f := hf j (by omega)
        generalize goB N i v (i - (j + 1)) = x at *
        unfold sub ptS onD clampS full at *
        simp only at *
        omega
theorem far_nn {hb : Habit} (hh : habitS hb = true) (c : Int) : 0 ≤ farD hb c := (far_le hh).1
def narD (l : Life) (c : List Int) (D : List Span) : List Span := roundsS (onX l c) (onX l c) c.length (2 * l.sights.xs.length) D
theorem narD_length {l : Life} {c : List Int} {D : List Span} : (narD l c D).length = D.length := by simp [narD, roundsS_length]
/-- Narrowing keeps the lines. -/
theorem line_nar {l : Life} {c : List Int} (hr : Right l) (hc : c.length + 1 = l.sights.xs.length) {D : List Span} (hD : D.length = l.sights.xs.length) {p : Nat → Int} (h : Line (fun j => farD l.habit c[j]!) D p) :
    ∀ j, j < D.length → sub (ptS (p j)) (narD l c D)[j]! := by
  refine low_rounds (gapsX hr c) (b := fun j => ptS (p j)) (n := D.length) rfl (by omega) (fun i hi => ?_) (fun i hi => ?_) (fun j hj => h.inn j hj) _
  · have := h.near i hi
    unfold sub ptS onX onD; simp only; omega
  · have := h.near i hi
    unfold sub ptS onX onD; simp only; omega
/-- What is left after narrowing is on a line. -/
theorem nar_line {l : Life} {c : List Int} (hr : Right l) (hc : c.length + 1 = l.sights.xs.length) {D : List Span} (hD : D.length = l.sights.xs.length) (hs : someS (narD l c D) = true) {i : Nat} {v : Int} (hi : i < D.length) (hv : sub (ptS v) (narD l c D)[i]!) :
    ∃ p, p i = v ∧ Line (fun j => farD l.habit c[j]!) D p := by
  have g := gapsX hr c
  have hf : ∀ i, i < D.length → full (fN (onX l c) D i) := by
    refine Classical.byContradiction fun hn => ?_
    have : ∃ i, i < D.length ∧ ¬ full (fN (onX l c) D i) := by
      refine Classical.byContradiction fun hc => hn fun i hi => Classical.byContradiction fun h => hc ⟨i, hi, h⟩
    exact rounds_empty g (m := c.length) (r := 2 * l.sights.xs.length) (by omega) (by omega) this ((allL_full _).1 hs)
  obtain ⟨e1, e2⟩ := rounds_full g (l := D) (fun _ _ => trivial) (m := c.length) (r := 2 * l.sights.xs.length) (by omega) (by omega) hf
  have hp := bN_props g (l := D) (fun _ _ => trivial) (m := c.length) (by omega) hf
  have hb : ∀ j, (narD l c D)[j]! = bN (onX l c) (fL (onX l c) D) j := fun j => by unfold narD bN; rw [e1]
  obtain ⟨p, p1, p2⟩ := line_of (d := fun j => farD l.habit c[j]!) (N := narD l c D) (fun j => far_nn hr.habit _)
    (fun j hj => by rw [narD_length] at hj; rw [hb]; exact (hp (c.length - j) j (by omega)).1)
    (fun j hj => by rw [narD_length] at hj; rw [hb, hb]; exact ((hp (c.length - j) j (by omega)).2.2 hj).1)
    (fun j hj => by rw [narD_length] at hj; rw [hb, hb]; exact ((hp (c.length - j) j (by omega)).2.2 hj).2)
    (i := i) (v := v) (by rw [narD_length]; exact hi) hv
  refine ⟨p, p1, fun j hj => ?_, fun j hj => p2.near j (by rw [narD_length]; exact hj)⟩
  exact sub_trans (p2.inn j (by rw [narD_length]; exact hj)) (rounds_sub _ _ (by omega) j hj)

/-! ### A life with another box -/
structure BoxAt (l l' : Life) (k : Nat) (B : Box) : Prop where
  habit : l'.habit = l.habit
  notes : l'.notes.xs = l.notes.xs
  lt : k < l.sights.xs.length
  sights : l'.sights.xs = l.sights.xs.set k { l.sights.xs[k]! with box := B }
section
variable {l l' : Life} {k : Nat} {B : Box} {c : List Int}
theorem BoxAt.len (h : BoxAt l l' k B) : l'.sights.xs.length = l.sights.xs.length := by rw [h.sights, List.length_set]
theorem BoxAt.same (h : BoxAt l l' k B) {α : Type} (f : Sight → α) (hf : ∀ s b, f { s with box := b } = f s) : l'.sights.xs.map f = l.sights.xs.map f := by
  rw [h.sights, List.map_set, hf, getElem!_pos l.sights.xs k h.lt]
  refine List.ext_getElem (by simp) fun i h1 h2 => ?_
  rw [List.getElem_set]
  split
  · rename_i e; subst e; simp
  · rfl
theorem BoxAt.xs (h : BoxAt l l' k B) : l'.sights.xs.map (·.box.x) = (l.sights.xs.map (·.box.x)).set k B.x := by rw [h.sights, List.map_set]
theorem BoxAt.ys (h : BoxAt l l' k B) : l'.sights.xs.map (·.box.y) = (l.sights.xs.map (·.box.y)).set k B.y := by rw [h.sights, List.map_set]
theorem BoxAt.gX (h : BoxAt l l' k B) : onX l' c = onX l c := by funext k s; unfold onX; rw [h.habit]
theorem get_map {α : Type} [Inhabited α] (f : Sight → α) (L : List Sight) (j : Nat) (hj : j < L.length) : f L[j]! = (L.map f)[j]'(by simpa using hj) := by
  rw [getElem!_pos L j hj]; simp
theorem BoxAt.at_ (h : BoxAt l l' k B) {α : Type} [Inhabited α] (f : Sight → α) (hf : ∀ s b, f { s with box := b } = f s) (j : Nat) (hj : j < l.sights.xs.length) : f l'.sights.xs[j]! = f l.sights.xs[j]! := by
  rw [get_map f _ j (by rw [h.len]; exact hj), get_map f _ j hj]
  have := h.same f hf
  simp only [this]
theorem BoxAt.yr (h : BoxAt l l' k B) {j : Nat} (hj : j + 1 < l.sights.xs.length) : yrS l'.sights.xs j = yrS l.sights.xs j := by
  unfold yrS
  rw [h.at_ (·.year) (fun _ _ => rfl) j (by omega), h.at_ (·.year) (fun _ _ => rfl) (j+1) hj]
theorem BoxAt.nX (h : BoxAt l l' k B) : narX l' c = narD l c ((l.sights.xs.map (·.box.x)).set k B.x) := by
  unfold narX narD; rw [h.gX, h.len, h.xs]
theorem BoxAt.nY (h : BoxAt l l' k B) : narY l' c = narD l c ((l.sights.xs.map (·.box.y)).set k B.y) := by
  unfold Vm.narY narD; rw [h.gX, h.len, h.ys]
theorem BoxAt.nH (h : BoxAt l l' k B) : narH l' c = narH l c := by
  have h1 : onH l' c = onH l c := by
    funext j s; unfold onH; rw [h.len, h.habit]
    split
    · rw [h.yr (by assumption)]
    · rfl
  have h2 : backH l' c = backH l c := by
    funext j s; unfold backH; rw [h.len, h.habit]
    split
    · rw [h.yr (by assumption)]
    · rfl
  unfold narH; rw [h1, h2, h.len, h.same (·.height) (fun _ _ => rfl)]
theorem BoxAt.nL (h : BoxAt l l' k B) : lettersS l'.sights.xs c = lettersS l.sights.xs c := by
  have e := h.same (·.letters) (fun _ _ => rfl)
  unfold lettersS startL gapsL lets
  rw [e]
  by_cases h0 : 0 < l.sights.xs.length
  · rw [dif_pos h0, dif_pos (by rw [h.len]; exact h0)]
    have := h.at_ (·.letters) (fun _ _ => rfl) 0 h0
    rw [getElem!_pos l.sights.xs 0 h0, getElem!_pos l'.sights.xs 0 (by rw [h.len]; exact h0)] at this
    rw [this]
  · rw [dif_neg h0, dif_neg (by rw [h.len]; exact h0)]
theorem anyTo_congr {p q : Nat → Bool} : ∀ n, (∀ j, j < n → p j = q j) → anyTo p n = anyTo q n
  | 0, _ => rfl
  | n + 1, h => by
    rw [anyTo, anyTo, anyTo_congr n fun j hj => h j (by omega), h n (by omega)]
theorem BoxAt.noted (h : BoxAt l l' k B) (hc : c.length + 1 = l.sights.xs.length) (m : Note) : notedS l'.sights.xs m c = notedS l.sights.xs m c := by
  have hy : ∀ j, j < l.sights.xs.length → l'.sights.xs[j]!.year = l.sights.xs[j]!.year := fun j hj => h.at_ (·.year) (fun _ _ => rfl) j hj
  unfold notedS
  rw [anyTo_congr (p := badN l'.sights.xs m c) (q := badN l.sights.xs m c) c.length fun j hj => by unfold badN; rw [hy j (by omega), hy (j+1) (by omega)],
    anyTo_congr (p := hitN l'.sights.xs m c) (q := hitN l.sights.xs m c) c.length fun j hj => by unfold hitN; rw [hy j (by omega), hy (j+1) (by omega)]]
theorem BoxAt.can (h : BoxAt l l' k B) (hc : c.length + 1 = l.sights.xs.length) : canS l' c = (allL (fun m => notedS l.sights.xs m c) l.notes.xs && ((lettersS l.sights.xs c).isSome && someS (narD l c ((l.sights.xs.map (·.box.x)).set k B.x)) && someS (narD l c ((l.sights.xs.map (·.box.y)).set k B.y)) && someS (narH l c))) := by
  unfold canS
  rw [h.nX, h.nY, h.nH, h.nL, h.notes]
  congr 2
  funext m
  exact h.noted hc m
theorem BoxAt.right (h : BoxAt l l' k B) (hr : Right l) (hB : properS B = true) : Right l' := by
  have hB' := proper_iff.1 hB
  refine ⟨by rw [h.habit]; exact hr.habit, by rw [h.len]; exact hr.one, by rw [h.len]; exact hr.nine, by rw [h.notes]; exact hr.notes, ?_, ?_, by rw [h.notes]; exact hr.note, ?_⟩
  · intro s hs
    rw [h.sights] at hs
    rcases List.mem_or_eq_of_mem_set hs with hs | rfl
    · exact hr.sight s hs
    · have := hr.sight _ (List.getElem_mem h.lt)
      rw [getElem!_pos l.sights.xs k h.lt]
      unfold sightR at this ⊢
      simp only [Bool.and_eq_true] at this ⊢
      refine ⟨⟨⟨this.1.1.1, ?_⟩, this.1.2⟩, this.2⟩
      rw [← spanS_valid]; exact hB
  · intro i hi
    rw [h.len] at hi
    have h1 := h.at_ (·.year) (fun _ _ => rfl) i (by omega)
    have h2 := h.at_ (·.year) (fun _ _ => rfl) (i + 1) hi
    have hl := h.len
    rw [getElem!_pos _ _ (by omega), getElem!_pos _ _ (by omega)] at h1 h2
    have := hr.years i hi
    omega
  · have := hr.ids
    unfold Life.ids at *
    rw [h.same (·.id) (fun _ _ => rfl), h.notes]
    exact this
/-- A line of a life, of which the value at k lies in B, is one of the life with the box B at k. -/
theorem line_set {d : Nat → Int} {D : List Span} {p : Nat → Int} (h : Line d D p) {k : Nat} {s : Span} (hk : k < D.length) (hs : sub (ptS (p k)) s) : Line d (D.set k s) p := by
  refine ⟨fun j hj => ?_, fun j hj => h.near j (by simpa using hj)⟩
  have hj' : j < D.length := by simpa using hj
  rw [getElem!_pos _ j hj, List.getElem_set]
  split
  · rename_i e; subst e; exact hs
  · have := h.inn j hj'
    rwa [getElem!_pos _ j hj'] at this
theorem line_unset {d : Nat → Int} {D : List Span} {p : Nat → Int} {k : Nat} {s : Span} (hk : k < D.length) (h : Line d (D.set k s) p) (hs : sub s D[k]!) : Line d D p ∧ sub (ptS (p k)) s := by
  have hkk := h.inn k (by simpa using hk)
  rw [getElem!_pos _ k (by simpa using hk), List.getElem_set_self] at hkk
  refine ⟨⟨fun j hj => ?_, fun j hj => h.near j (by simpa using hj)⟩, hkk⟩
  have := h.inn j (by simpa using hj)
  rw [getElem!_pos _ j (by simpa using hj), List.getElem_set] at this
  split at this
  · rename_i e; subst e; exact sub_trans this hs
  · rwa [getElem!_pos _ j hj]
theorem line_some {D : List Span} {p : Nat → Int} (hr : Right l) (hc : c.length + 1 = l.sights.xs.length) (hD : D.length = l.sights.xs.length) (h : Line (fun j => farD l.habit c[j]!) D p) : someS (narD l c D) = true :=
  some_of_pts (n := D.length) (by rw [narD_length]) (line_nar hr hc hD h)
/-- A side that is reached. -/
theorem side_can (h : BoxAt l l' k B) (hr : Right l) (hc : c.length + 1 = l.sights.xs.length) (hcan : canS l c = true) {v w : Int} (hv : sub (ptS v) (narX l c)[k]!) (hv' : sub (ptS v) B.x) (hw : sub (ptS w) (narY l c)[k]!) (hw' : sub (ptS w) B.y) : canS l' c = true := by
  have hk := h.lt
  rw [h.can hc]
  unfold canS at hcan
  simp only [Bool.and_eq_true] at hcan ⊢
  refine ⟨hcan.1, ⟨⟨hcan.2.1.1.1, ?_⟩, ?_⟩, hcan.2.2⟩
  · obtain ⟨p, rfl, p2⟩ := nar_line hr hc (D := l.sights.xs.map fun s : Sight => s.box.x) (by simp) hcan.2.1.1.2 (i := k) (v := v) (by simpa using hk) hv
    exact line_some hr hc (by simp) (line_set p2 (by simpa using hk) hv')
  · obtain ⟨p, rfl, p2⟩ := nar_line hr hc (D := l.sights.xs.map fun s : Sight => s.box.y) (by simp) hcan.2.1.2 (i := k) (v := w) (by simpa using hk) hw
    exact line_some hr hc (by simp) (line_set p2 (by simpa using hk) hw')
/-- What is possible with a smaller box. -/
theorem out_can (h : BoxAt l l' k B) (hr : Right l) (hc : c.length + 1 = l.sights.xs.length) (hcan : canS l' c = true) (hx : sub B.x l.sights.xs[k]!.box.x) (hy : sub B.y l.sights.xs[k]!.box.y) :
    canS l c = true ∧ ∃ v w, sub (ptS v) B.x ∧ sub (ptS w) B.y ∧ sub (ptS v) (narX l c)[k]! ∧ sub (ptS w) (narY l c)[k]! := by
  have hk := h.lt
  rw [h.can hc] at hcan
  unfold canS
  simp only [Bool.and_eq_true] at hcan ⊢
  have hxl : (((l.sights.xs.map (·.box.x)).set k B.x)).length = l.sights.xs.length := by simp
  have hyl : (((l.sights.xs.map (·.box.y)).set k B.y)).length = l.sights.xs.length := by simp
  have ex : ∀ L : List Span, someS L = true → ∀ i, i < L.length → sub (ptS (L[i]!).lo) L[i]! := fun L hL i hi => by
    have := (allL_full L).1 hL _ (List.getElem_mem hi)
    rw [getElem!_pos L i hi]; unfold full sub ptS at *; simp only; omega
  obtain ⟨p, p1, p2⟩ := nar_line hr hc hxl hcan.2.1.1.2 (i := k) (by omega) (ex _ hcan.2.1.1.2 k (by rw [narD_length]; omega))
  obtain ⟨q, q1, q2⟩ := nar_line hr hc hyl hcan.2.1.2 (i := k) (by omega) (ex _ hcan.2.1.2 k (by rw [narD_length]; omega))
  obtain ⟨p3, p4⟩ := line_unset (by simpa using hk) p2 (by rw [getElem!_pos (l.sights.xs.map _) k (by simpa using hk)]; rw [getElem!_pos _ k hk] at hx; simpa using hx)
  obtain ⟨q3, q4⟩ := line_unset (by simpa using hk) q2 (by rw [getElem!_pos (l.sights.xs.map _) k (by simpa using hk)]; rw [getElem!_pos _ k hk] at hy; simpa using hy)
  refine ⟨⟨hcan.1, ⟨⟨hcan.2.1.1.1, line_some hr hc (by simp) p3⟩, line_some hr hc (by simp) q3⟩, hcan.2.2⟩, p k, q k, p4, q4, line_nar hr hc (by simp) p3 k (by simpa using hk), line_nar hr hc (by simp) q3 k (by simpa using hk)⟩
end

/-! ### Which courses reach a side -/
theorem extTo_from {f : List Int → Option (List Box)} {most : Int} {m n : Nat} (hf : ∀ j B, f (toC m j) = some B → okBs n B) (g : Box → Int) (hg : ∀ a b, g (coverB a b) = g a ∨ g (coverB a b) = g b) {i : Nat} (hi : i < n) :
    ∀ J A, extTo f most m J = some A → ∃ j B, j < J ∧ f (toC m j) = some B ∧ ¬ most < chg (toC m j) ∧ g B[i]! = g A[i]!
  | 0, A, h => by simp [extTo] at h
  | J + 1, A, h => by
    have ih := extTo_from (most := most) hf g hg hi J
    rw [extTo] at h
    split at h
    · obtain ⟨j, B, h1, h2⟩ := ih A h
      exact ⟨j, B, by omega, h2⟩
    · rename_i B hB
      split at h
      · obtain ⟨j, B, h1, h2⟩ := ih A h
        exact ⟨j, B, by omega, h2⟩
      · rename_i hm
        simp only [Option.some.injEq] at h
        subst h
        cases hA : extTo f most m J with
        | none => exact ⟨J, B, by omega, hB, hm, rfl⟩
        | some A =>
          have l1 := (hf _ _ hB).1
          have l2 := (extTo_ok hf _ _ hA).1
          have e : (covO B (some A))[i]! = coverB A[i]! B[i]! := by
            show (A.zipWith coverB B)[i]! = _
            rw [getElem!_pos _ i (by simp; omega), getElem!_pos A i (by omega), getElem!_pos B i (by omega)]
            simp
          rw [e]
          rcases hg A[i]! B[i]! with h | h
          · obtain ⟨j, B', h1, h2, h3, h4⟩ := ih A hA
            exact ⟨j, B', by omega, h2, h3, by rw [h4, h]⟩
          · exact ⟨J, B, by omega, hB, hm, h.symm⟩
/-- Courses with at most so many changes that fit. -/
def possP (l : Life) (most : Int) : Prop := ∃ j, j < 3 ^ (l.sights.xs.length - 1) ∧ fitP l (toC (l.sights.xs.length - 1) j) = true ∧ ¬ most < chg (toC (l.sights.xs.length - 1) j)
theorem boxes_of {l : Life} {c : List Int} {b : List Box} (hr : Right l) (hc : c.length + 1 = l.sights.xs.length) (h : boxesP l c = some b) : canS l c = true ∧ b = (narX l c).zipWith Box.mk (narY l c) := by
  unfold boxesP at h
  rw [tell_can hr hc] at h
  split at h
  · rename_i hcan
    simp at h
    exact ⟨hcan, h.symm⟩
  · simp at h
theorem boxes_can {l : Life} {c : List Int} (hr : Right l) (hc : c.length + 1 = l.sights.xs.length) (h : canS l c = true) : boxesP l c = some ((narX l c).zipWith Box.mk (narY l c)) := by
  unfold boxesP
  rw [tell_can hr hc, if_pos h]; rfl
theorem box_at {l : Life} {c : List Int} {i : Nat} (hi : i < l.sights.xs.length) : ((narX l c).zipWith Box.mk (narY l c))[i]! = ⟨(narX l c)[i]!, (narY l c)[i]!⟩ := by
  obtain ⟨n1, n2, _⟩ := nar_len l c
  rw [getElem!_pos _ i (by simp; omega), getElem!_pos _ i (by omega), getElem!_pos _ i (by omega)]
  simp
theorem toC_len1 {l : Life} (hr : Right l) (j : Nat) : (toC (l.sights.xs.length - 1) j).length + 1 = l.sights.xs.length := by
  rw [toC_length]; have := hr.one; omega
theorem ext_none_poss {l : Life} (hr : Right l) {most : Int} (h : extL l most = none) : ¬ possP l most := by
  rintro ⟨j, h1, h2, h3⟩
  rw [fit_can hr (toC_len1 hr j)] at h2
  obtain ⟨A, hA, _⟩ := extTo_has (boxes_ok hr) (boxes_can hr (toC_len1 hr j) h2) h3 _ h1
  rw [extL, hA] at h; simp at h
/-- With one more change the boxes are not smaller. -/
theorem ext_more {l : Life} (hr : Right l) {most : Int} {A : List Box} (h : extL l most = some A) : ∃ B, extL l (most + 1) = some B ∧ B.length = l.sights.xs.length ∧ ∀ i, i < l.sights.xs.length → coverB A[i]! B[i]! = B[i]! := by
  have h1 := hr.one
  have hall : ∀ j b, j < 3 ^ (l.sights.xs.length - 1) → boxesP l (toC (l.sights.xs.length - 1) j) = some b → ¬ most < chg (toC (l.sights.xs.length - 1) j) → ∃ B, extL l (most + 1) = some B ∧ ∀ i, i < l.sights.xs.length → subB b[i]! B[i]! := fun j b hj hb hm => extTo_has (boxes_ok hr) hb (by omega) _ hj
  obtain ⟨j, b, h2, h3, h4, _⟩ := extTo_from (boxes_ok hr) (fun b => b.x.lo) (fun a b => by simp only [coverB, coverS]; omega) (i := 0) (by omega) _ _ h
  obtain ⟨B, hB, _⟩ := hall j b h2 h3 h4
  refine ⟨B, hB, (extL_ok hr hB).1, fun i hi => ?_⟩
  have hs : ∀ (g : Box → Int), (∀ a b, g (coverB a b) = g a ∨ g (coverB a b) = g b) → ∃ b : Box, g b = g A[i]! ∧ subB b B[i]! := fun g hg => by
    obtain ⟨j, b, h2, h3, h4, h5⟩ := extTo_from (boxes_ok hr) g hg hi _ _ h
    obtain ⟨B', hB', hs⟩ := hall j b h2 h3 h4
    rw [hB] at hB'
    obtain rfl := Option.some.inj hB'
    exact ⟨_, h5, hs i hi⟩
  obtain ⟨b1, e1, s1⟩ := hs (fun b => b.x.lo) (fun a b => by simp only [coverB, coverS]; omega)
  obtain ⟨b2, e2, s2⟩ := hs (fun b => b.x.hi) (fun a b => by simp only [coverB, coverS]; omega)
  obtain ⟨b3, e3, s3⟩ := hs (fun b => b.y.lo) (fun a b => by simp only [coverB, coverS]; omega)
  obtain ⟨b4, e4, s4⟩ := hs (fun b => b.y.hi) (fun a b => by simp only [coverB, coverS]; omega)
  generalize A[i]! = a at *
  generalize B[i]! = b at *
  obtain ⟨⟨a1, a2⟩, a3, a4⟩ := a
  obtain ⟨⟨c1, c2⟩, c3, c4⟩ := b
  unfold subB sub at *
  simp only [coverB, coverS, Box.mk.injEq, Span.mk.injEq] at *
  omega
/-- One side of a box. -/
def sideS (b : Box) (n : Nat) : Box := match n with
  | 0 => ⟨⟨b.x.lo, b.x.lo⟩, b.y⟩
  | 1 => ⟨⟨b.x.hi, b.x.hi⟩, b.y⟩
  | 2 => ⟨b.x, ⟨b.y.lo, b.y.lo⟩⟩
  | _ => ⟨b.x, ⟨b.y.hi, b.y.hi⟩⟩
/-- What lies just outside of a side, of another box. -/
def outS (o b : Box) (n : Nat) : Box := match n with
  | 0 => ⟨⟨o.x.lo, b.x.lo - 1⟩, o.y⟩
  | 1 => ⟨⟨b.x.hi + 1, o.x.hi⟩, o.y⟩
  | 2 => ⟨o.x, ⟨o.y.lo, b.y.lo - 1⟩⟩
  | _ => ⟨o.x, ⟨b.y.hi + 1, o.y.hi⟩⟩
theorem side_proper {b : Box} (h : properS b = true) (n : Nat) : properS (sideS b n) = true := by
  rw [proper_iff] at *
  unfold sideS
  split <;> (simp only; omega)
theorem ext_side {l l' : Life} (hr : Right l) {most : Int} {A : List Box} (h : extL l most = some A) {k n : Nat} (hb : BoxAt l l' k (sideS A[k]! n)) : possP l' most := by
  have hk := hb.lt
  have hAk : properS A[k]! = true := by
    have hok := extL_ok hr h
    rw [getElem!_pos A k (by rw [hok.1]; exact hk)]
    exact hok.2 _ (List.getElem_mem _)
  have hr' := hb.right hr (side_proper hAk n)
  -- the course that reaches the side
  have key : ∀ (g : Box → Int), (∀ a b, g (coverB a b) = g a ∨ g (coverB a b) = g b) → (∀ b : Box, full b.x → full b.y → g b = g A[k]! → subB b A[k]! → ∃ v w, sub (ptS v) b.x ∧ sub (ptS v) (sideS A[k]! n).x ∧ sub (ptS w) b.y ∧ sub (ptS w) (sideS A[k]! n).y) → possP l' most := fun g hg hp => by
    obtain ⟨j, b, h2, h3, h4, h5⟩ := extTo_from (boxes_ok hr) g hg hk _ _ h
    obtain ⟨A', hA', hs⟩ := extTo_has (boxes_ok hr) h3 h4 _ h2
    have : A' = A := by
      rw [extL, hA'] at h
      exact Option.some.inj h
    subst this
    have hc := toC_len1 hr j
    obtain ⟨hcan, rfl⟩ := boxes_of hr hc h3
    have hs' := hs k hk
    rw [box_at hk] at h5 hs'
    have hcan' := hcan
    unfold canS at hcan'
    simp only [Bool.and_eq_true] at hcan'
    obtain ⟨n1, n2, _⟩ := nar_len l (toC (l.sights.xs.length - 1) j)
    have fx := (allL_full _).1 hcan'.2.1.1.2 _ (List.getElem_mem (n := k) (by omega))
    have fy := (allL_full _).1 hcan'.2.1.2 _ (List.getElem_mem (n := k) (by omega))
    rw [← getElem!_pos _ k (by omega)] at fx fy
    obtain ⟨v, w, v1, v2, w1, w2⟩ := hp _ fx fy h5 hs'
    have hl := hb.len
    refine ⟨j, by rw [hl]; exact h2, ?_, by rw [hl]; exact h4⟩
    rw [fit_can hr' (toC_len1 hr' j), hl]
    exact side_can hb hr hc hcan v1 v2 w1 w2
  unfold sideS at key
  have hAk := proper_iff.1 hAk
  split at key
  · refine key (fun b => b.x.lo) (fun a b => by simp only [coverB, coverS]; omega) fun b h1 h2 h3 h4 => ⟨b.x.lo, b.y.lo, ?_⟩
    unfold subB sub ptS full at *; simp only at *; omega
  · refine key (fun b => b.x.hi) (fun a b => by simp only [coverB, coverS]; omega) fun b h1 h2 h3 h4 => ⟨b.x.hi, b.y.lo, ?_⟩
    unfold subB sub ptS full at *; simp only at *; omega
  · refine key (fun b => b.y.lo) (fun a b => by simp only [coverB, coverS]; omega) fun b h1 h2 h3 h4 => ⟨b.x.lo, b.y.lo, ?_⟩
    unfold subB sub ptS full at *; simp only at *; omega
  · refine key (fun b => b.y.hi) (fun a b => by simp only [coverB, coverS]; omega) fun b h1 h2 h3 h4 => ⟨b.x.lo, b.y.hi, ?_⟩
    unfold subB sub ptS full at *; simp only at *; omega
theorem ext_out {l l' : Life} (hr : Right l) {most : Int} {A : List Box} (h : extL l most = some A) {k n : Nat} (hb : BoxAt l l' k (outS l.sights.xs[k]!.box A[k]! n)) (hp : properS (outS l.sights.xs[k]!.box A[k]! n) = true) : ¬ possP l' most := by
  rintro ⟨j, j1, j2, j3⟩
  have hk := hb.lt
  have hr' := hb.right hr hp
  have hl := hb.len
  rw [fit_can hr' (toC_len1 hr' j)] at j2
  rw [hl] at j1 j2 j3
  have hc := toC_len1 hr j
  have hAk : properS A[k]! = true := by
    have hok := extL_ok hr h
    rw [getElem!_pos A k (by rw [hok.1]; exact hk)]
    exact hok.2 _ (List.getElem_mem _)
  -- the boxes of the extent lie in what was seen
  have hsee : subB A[k]! l.sights.xs[k]!.box := by
    have hs : ∀ (g : Box → Int), (∀ a b, g (coverB a b) = g a ∨ g (coverB a b) = g b) → ∃ b : Box, g b = g A[k]! ∧ subB b l.sights.xs[k]!.box := fun g hg => by
      obtain ⟨j, b, h2, h3, h4, h5⟩ := extTo_from (boxes_ok hr) g hg hk _ _ h
      have hc := toC_len1 hr j
      obtain ⟨hcan, rfl⟩ := boxes_of hr hc h3
      rw [box_at hk] at h5
      refine ⟨_, h5, ?_, ?_⟩
      · have := rounds_sub (on := onX l (toC (l.sights.xs.length - 1) j)) (back := onX l (toC (l.sights.xs.length - 1) j)) (l := l.sights.xs.map (·.box.x)) (2 * l.sights.xs.length) (toC (l.sights.xs.length - 1) j).length (by simp; omega) k (by simpa using hk)
        rw [getElem!_pos (l.sights.xs.map _) k (by simpa using hk)] at this
        rw [getElem!_pos l.sights.xs k hk]
        simpa [narX] using this
      · have := rounds_sub (on := onX l (toC (l.sights.xs.length - 1) j)) (back := onX l (toC (l.sights.xs.length - 1) j)) (l := l.sights.xs.map (·.box.y)) (2 * l.sights.xs.length) (toC (l.sights.xs.length - 1) j).length (by simp; omega) k (by simpa using hk)
        rw [getElem!_pos (l.sights.xs.map _) k (by simpa using hk)] at this
        rw [getElem!_pos l.sights.xs k hk]
        simpa [narY] using this
    obtain ⟨b1, e1, s1⟩ := hs (fun b => b.x.lo) (fun a b => by simp only [coverB, coverS]; omega)
    obtain ⟨b2, e2, s2⟩ := hs (fun b => b.x.hi) (fun a b => by simp only [coverB, coverS]; omega)
    obtain ⟨b3, e3, s3⟩ := hs (fun b => b.y.lo) (fun a b => by simp only [coverB, coverS]; omega)
    obtain ⟨b4, e4, s4⟩ := hs (fun b => b.y.hi) (fun a b => by simp only [coverB, coverS]; omega)
    generalize A[k]! = a at *
    generalize l.sights.xs[k]!.box = b at *
    unfold subB sub at *
    omega
  have hA' := proper_iff.1 hAk
  have ho : sub (outS l.sights.xs[k]!.box A[k]! n).x l.sights.xs[k]!.box.x ∧ sub (outS l.sights.xs[k]!.box A[k]! n).y l.sights.xs[k]!.box.y := by
    unfold outS subB sub at *
    split <;> (simp only; omega)
  obtain ⟨hcan, v, w, v1, w1, v2, w2⟩ := out_can hb hr hc j2 ho.1 ho.2
  obtain ⟨A', hA'', hs⟩ := extTo_has (boxes_ok hr) (boxes_can hr hc hcan) j3 _ j1
  have : A' = A := by
    rw [extL, hA''] at h
    exact Option.some.inj h
  subst this
  have hs' := hs k hk
  rw [box_at hk] at hs'
  unfold outS at v1 w1
  split at v1
  all_goals (unfold subB sub ptS at *; simp only at *; omega)
/-! ### The sum of the numbers of courses -/
theorem addAt_sum : ∀ (L : List Int) (i n : Nat), i < L.length → ((addAt L i).take n).sum = (L.take n).sum + if i < n then 1 else 0
  | [], _, _, h => by simp at h
  | a :: L, 0, 0, _ => by simp
  | a :: L, 0, n + 1, _ => by simp [addAt]; omega
  | a :: L, i + 1, 0, _ => by simp
  | a :: L, i + 1, n + 1, h => by
    have ih := addAt_sum L i n (by simpa using h)
    unfold addAt at *
    simp only [List.set_cons_succ, List.take_succ_cons, List.sum_cons] at *
    have e : (a :: L)[i+1]! = L[i]! := by simp
    rw [e, ih]
    split <;> split <;> omega
theorem byTo_sum (p : List Int → Bool) (m n : Nat) : ∀ J, 0 ≤ ((byTo p m J).take n).sum ∧ ((byTo p m J).take n).sum ≤ J ∧ (0 < ((byTo p m J).take n).sum ↔ ∃ j, j < J ∧ p (toC m j) = true ∧ chg (toC m j) < n)
  | 0 => by
    have : ((byTo p m 0).take n).sum = 0 := by
      rw [byTo, List.take_replicate]
      generalize min n (m + 1) = k
      induction k with
      | zero => rfl
      | succ k ih => simp [List.replicate_succ, ih]
    rw [this]
    simp
  | J + 1 => by
    obtain ⟨h1, h2, h3⟩ := byTo_sum p m n J
    have hl := chg_le (toC m J)
    rw [toC_length] at hl
    rw [byTo]
    by_cases hp : p (toC m J) = true
    · rw [if_pos hp, addAt_sum _ _ _ (by rw [byTo_length]; omega)]
      by_cases hn : chg (toC m J) < n
      · rw [if_pos hn]
        exact ⟨by omega, by omega, fun _ => ⟨J, by omega, hp, hn⟩, fun _ => by omega⟩
      · rw [if_neg hn, Int.add_zero]
        refine ⟨h1, by omega, fun h => ?_, fun ⟨j, j1, j2, j3⟩ => ?_⟩
        · obtain ⟨j, j1, j2⟩ := h3.1 h
          exact ⟨j, by omega, j2⟩
        · have : j ≠ J := fun e => hn (e ▸ j3)
          exact h3.2 ⟨j, by omega, j2, j3⟩
    · rw [if_neg hp]
      refine ⟨h1, by omega, fun h => ?_, fun ⟨j, j1, j2, j3⟩ => ?_⟩
      · obtain ⟨j, j1, j2⟩ := h3.1 h
        exact ⟨j, by omega, j2⟩
      · have : j ≠ J := fun e => hp (e ▸ j2)
        exact h3.2 ⟨j, by omega, j2, j3⟩
end Go.Proofs.YtnomliioadjdgaaGreat.Vm

namespace Go.Proofs.YtnomliioadjdgaaGreat.Vm
open Go
set_option linter.unusedSimpArgs false
set_option linter.unusedVariables false
set_option maxHeartbeats 4000000

def possS (l : Life) (m : Nat) : Bool := decide (checkS l = 0) && decide (0 < ((byTo (fitP l) (l.sights.xs.length - 1) (3 ^ (l.sights.xs.length - 1))).take (m + 1)).sum)
theorem poss_iff {l : Life} {m : Nat} : possS l m = true ↔ checkS l = 0 ∧ possP l m := by
  unfold possS possP
  simp only [Bool.and_eq_true, decide_eq_true_eq, (byTo_sum (fitP l) (l.sights.xs.length - 1) (m + 1) (3 ^ (l.sights.xs.length - 1))).2.2]
  constructor
  · rintro ⟨h, j, h1, h2, h3⟩; exact ⟨h, j, h1, h2, by omega⟩
  · rintro ⟨h, j, h1, h2, h3⟩; exact ⟨h, j, h1, h2, by omega⟩
theorem sh15 : G.shared 15 = false := by decide
theorem e15 (n : Nat) (l : Life) (m : Nat) (hs : shortS l) (hm : m < 100) : callP G (n + 11) 15 [.agg l.cells, .int .i64 (m : Nat)] = some (.bool (possS l m)) := by
  refine callP_of (ext_none _) rfl g15 rfl ?_
  obtain ⟨s, hs1, hs2⟩ : ∃ s : Sl Int, (∀ H, doCall (calleeOf G (n + 10)) H (.pure (.func 34 [])) [.pure (.agg l.cells)] = some (.val (.pure (.tup [s.pv intF 1, .int .i64 (checkS l)])))) ∧ s.xs = (if checkS l = 0 then byTo (fitP l) (l.sights.xs.length - 1) (3 ^ (l.sights.xs.length - 1)) else []) := by
    have h := fun H => d34 n H l.habit.step l.habit.place l.habit.sink l.sights l.notes hs
    by_cases hc : checkS l = 0
    · refine ⟨Sl.mk false _, fun H => ?_, by rw [if_pos hc]; rfl⟩
      have := h H
      simp only [] at this
      rw [if_pos hc] at this; rw [hc]; exact this
    · refine ⟨Sl.nil, fun H => ?_, by rw [if_neg hc]; rfl⟩
      have := h H
      simp only [] at this
      rw [if_neg hc] at this; exact this
  have hlen : s.xs.length < 1000 := by
    rw [hs2]
    split
    · rename_i hc
      have := ((right_iff l).1 hc).nine
      rw [byTo_length]; omega
    · simp
  have hb : ∀ i, 0 ≤ (s.xs.take i).sum ∧ (s.xs.take i).sum ≤ 6561 := fun i => by
    rw [hs2]
    split
    · rename_i hc
      have h9 := ((right_iff l).1 hc).nine
      obtain ⟨b1, b2, _⟩ := byTo_sum (fitP l) (l.sights.xs.length - 1) i (3 ^ (l.sights.xs.length - 1))
      have h3 : 3 ^ (l.sights.xs.length - 1) ≤ 3 ^ 8 := Nat.pow_le_pow_right (by decide) (by omega)
      have h4 : (3 : Nat) ^ 8 = 6561 := by decide
      exact ⟨b1, by omega⟩
    · simp
  have hP : possS l m = (decide (checkS l = 0) && decide (0 < (s.xs.take (m + 1)).sum)) := by
    unfold possS
    rw [hs2]
    by_cases hc : checkS l = 0
    · rw [if_pos hc]
    · simp [hc]
  have hst : Hide (∀ i (h : i < s.xs.length), IntKind.i64.wrap ((s.xs.take i).sum + s.xs[i]) = (s.xs.take (i + 1)).sum) := ⟨fun i h => by
    have e : (s.xs.take (i + 1)).sum = (s.xs.take i).sum + s.xs[i] := by
      rw [← take_succ' h, List.sum_append_int]; simp
    have := hb (i + 1)
    rw [← e]
    exact wrap64 (by omega) (by omega)⟩
  rw [hP]
  generalize checkS l = e at *
  clear hP hs2 hs
  have hb' : Hide _ := ⟨hb⟩
  clear hb
  simp only [Life.cells] at hs1
  (repeat' first | simp [*, initEnv, c15] | (refine wpIf_two (fun _ h => ?_) (fun _ h => ?_) <;> try simp [-Nat.le_zero_eq] at h))
  refine wp_loopF [(7, 8), (14, 30)] (fun (i : Nat) env H => env 8 = .pure (.int .i64 i) ∧ env 7 = .pure (.int .i64 (s.xs.take i).sum) ∧ i ≤ s.xs.length ∧ i ≤ m + 1) (fun i => s.xs.length - i) 0 ?_ ?_ ?_ ?_
  · decide
  · simp
  · simp only [loopFuel]; omega
  rintro i env H ⟨h8, h7, hi, him⟩
  have hfit : i < 9223372036854775807 := by omega
  by_cases hlt : i < s.xs.length
  · by_cases hle : i ≤ m
    · have hw := hst.h i hlt
      have hle' : (i : Int) ≤ m := by omega
      clear hs1
      (repeat' first | simp [*, initEnv] | (refine wpIf_two (fun _ h => ?_) (fun _ h => ?_) <;> try simp [-Nat.le_zero_eq] at h))
      exact ⟨i + 1, by omega, by omega, by omega⟩
    · have he : i = m + 1 := by omega
      have hle2 : ¬ ((i : Int) ≤ m) := by omega
      rw [he] at h7
      clear hs1 he
      (repeat' first | simp [*, initEnv] | (refine wpIf_two (fun _ h => ?_) (fun _ h => ?_) <;> try simp [-Nat.le_zero_eq] at h))
  · have he : s.xs.take i = s.xs.take (m + 1) := by rw [List.take_of_length_le (by omega), List.take_of_length_le (by omega)]
    rw [he] at h7
    clear hs1 he
    (repeat' first | simp [*, initEnv] | (refine wpIf_two (fun _ h => ?_) (fun _ h => ?_) <;> try simp [-Nat.le_zero_eq] at h))
@[simp] theorem d15 (n : Nat) (H : Heap) (l_habit_step : Int) (l_habit_place : Int) (l_habit_sink : Int) (l_sights : Sl Sight) (l_notes : Sl Note) (m : Nat) (hs : (fun (l : Life) => shortS l) (⟨⟨l_habit_step, l_habit_place, l_habit_sink⟩, l_sights, l_notes⟩ : Life)) (hm : m < 100) : doCall (calleeOf G (n + 11)) H (.pure (.func 15 [])) [.pure (.agg [.int .i64 l_habit_step, .int .i64 l_habit_place, .int .i64 l_habit_sink, (l_sights).pv Sight.cells 9, (l_notes).pv Note.cells 4]), .pure (.int .i64 (m : Nat))] = some (.val (.pure ((fun (l : Life) => .bool (possS l m)) (⟨⟨l_habit_step, l_habit_place, l_habit_sink⟩, l_sights, l_notes⟩ : Life)))) :=
  call_pureC (ps := [_, _]) (caps := []) sh15 (e15 n (⟨⟨l_habit_step, l_habit_place, l_habit_sink⟩, l_sights, l_notes⟩ : Life) m hs hm)
def sideN (b : Box) (k : Int) : Box := sideS b k.toNat
theorem sh17 : G.shared 17 = false := by decide
theorem e17 (n : Nat) (b : Box) (k : Nat) (hk : k < 4) : callP G (n + 1) 17 [.agg b.cells, .int .i64 (k : Nat)] = some (.agg (sideS b k).cells) := by
  refine callP_of (ext_none _) rfl g17 rfl ?_
  have h : k = 0 ∨ k = 1 ∨ k = 2 ∨ k = 3 := by omega
  rcases h with rfl | rfl | rfl | rfl
  · (repeat' first | simp [*, initEnv, c17, sideS, Box.cells] | (refine wpIf_two (fun _ h => ?_) (fun _ h => ?_) <;> try simp [-Nat.le_zero_eq] at h))
  · (repeat' first | simp [*, initEnv, c17, sideS, Box.cells] | (refine wpIf_two (fun _ h => ?_) (fun _ h => ?_) <;> try simp [-Nat.le_zero_eq] at h))
  · (repeat' first | simp [*, initEnv, c17, sideS, Box.cells] | (refine wpIf_two (fun _ h => ?_) (fun _ h => ?_) <;> try simp [-Nat.le_zero_eq] at h))
  · (repeat' first | simp [*, initEnv, c17, sideS, Box.cells] | (refine wpIf_two (fun _ h => ?_) (fun _ h => ?_) <;> try simp [-Nat.le_zero_eq] at h))
@[simp] theorem d17 (n : Nat) (H : Heap) (b_x_lo : Int) (b_x_hi : Int) (b_y_lo : Int) (b_y_hi : Int) (k : Nat) (hk : k < 4) : doCall (calleeOf G (n + 1)) H (.pure (.func 17 [])) [.pure (.agg [.int .i64 b_x_lo, .int .i64 b_x_hi, .int .i64 b_y_lo, .int .i64 b_y_hi]), .pure (.int .i64 (k : Nat))] = some (.val (.pure ((fun (b : Box) => .agg (sideS b k).cells) (⟨⟨b_x_lo, b_x_hi⟩, ⟨b_y_lo, b_y_hi⟩⟩ : Box)))) :=
  call_pureC (ps := [_, _]) (caps := []) sh17 (e17 n (⟨⟨b_x_lo, b_x_hi⟩, ⟨b_y_lo, b_y_hi⟩⟩ : Box) k hk)
end Go.Proofs.YtnomliioadjdgaaGreat.Vm
