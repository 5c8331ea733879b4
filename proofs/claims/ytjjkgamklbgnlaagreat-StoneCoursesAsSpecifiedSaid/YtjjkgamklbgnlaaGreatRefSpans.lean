/- What the specification's spans compute. -/
import Derived.Test.YtjjkgamklbgnlaaGreatTellWalk
namespace Go.Proofs.YtjjkgamklbgnlaaGreat.Vm
open Go
set_option linter.unusedSimpArgs false
set_option linter.unusedVariables false
set_option maxHeartbeats 4000000

/-- A box of three slices that grow, and another box. -/
structure Tri (H : Heap) (B K : Nat) (va vb vc : AV) (x y h : List Span) : Prop where
  box : H.get B = .cells true [va, vb, vc]
  other : H.get K = .cells true [.pure .nils, .pure .nils, .pure .nils]
  ga : GrowV Span.cells 2 H va x
  gb : GrowV Span.cells 2 H vb y
  gc : GrowV Span.cells 2 H vc h
  ab : ∀ id, Names va id → ¬ Names vb id
  ac : ∀ id, Names va id → ¬ Names vc id
  bc : ∀ id, Names vb id → ¬ Names vc id
  aB : ¬ Names va B ∧ ¬ Names va K
  bB : ¬ Names vb B ∧ ¬ Names vb K
  cB : ¬ Names vc B ∧ ¬ Names vc K
  ne : K ≠ B
section
variable {H H2 : Heap} {B K : Nat} {va vb vc v2 : AV} {x y h : List Span} {o : AObj} {s : Span}
theorem Tri.pushA (t : Tri H B K va vb vc x y h) (hv : GrowV Span.cells 2 H2 v2 (x ++ [s])) (ha : After va (H.alloc o) v2 H2) : Tri (H2.set B (.cells true [v2, vb, vc])) B K v2 vb vc (x ++ [s]) y h ∧ H2.get B = .cells true [va, vb, vc] := by
  have hB := nx_of_get t.box
  have hK := nx_of_get t.other
  obtain ⟨gb, db⟩ := ha.grow (t.gb.alloc _) (fun id h h' => t.ab id h' h)
  obtain ⟨gc, dc⟩ := ha.grow (t.gc.alloc _) (fun id h h' => t.ac id h' h)
  have n1 : ¬ Names v2 B := fun h => by have := ha.new _ h; simp at this; omega
  have n2 : ¬ Names v2 K := fun h => by have := ha.new _ h; simp at this; omega
  have hB2 : H2.get B = .cells true [va, vb, vc] := by rw [ha.get B (by simp; omega) t.aB.1, get_alloc_lt hB]; exact t.box
  have hK2 : H2.get K = .cells true [.pure .nils, .pure .nils, .pure .nils] := by rw [ha.get K (by simp; omega) t.aB.2, get_alloc_lt hK]; exact t.other
  exact ⟨⟨get_set_own (nx_of_get hB2), by rw [get_set_ne t.ne]; exact hK2, hv.set n1 _, gb.set t.bB.1 _, gc.set t.cB.1 _, fun id h h' => db id h' h, fun id h h' => dc id h' h, t.bc, ⟨n1, n2⟩, t.bB, t.cB, t.ne⟩, hB2⟩
theorem Tri.pushB (t : Tri H B K va vb vc x y h) (hv : GrowV Span.cells 2 H2 v2 (y ++ [s])) (ha : After vb (H.alloc o) v2 H2) : Tri (H2.set B (.cells true [va, v2, vc])) B K va v2 vc x (y ++ [s]) h ∧ H2.get B = .cells true [va, vb, vc] := by
  have hB := nx_of_get t.box
  have hK := nx_of_get t.other
  obtain ⟨ga, da⟩ := ha.grow (t.ga.alloc _) (fun id h h' => t.ab id h h')
  obtain ⟨gc, dc⟩ := ha.grow (t.gc.alloc _) (fun id h h' => t.bc id h' h)
  have n1 : ¬ Names v2 B := fun h => by have := ha.new _ h; simp at this; omega
  have n2 : ¬ Names v2 K := fun h => by have := ha.new _ h; simp at this; omega
  have hB2 : H2.get B = .cells true [va, vb, vc] := by rw [ha.get B (by simp; omega) t.bB.1, get_alloc_lt hB]; exact t.box
  have hK2 : H2.get K = .cells true [.pure .nils, .pure .nils, .pure .nils] := by rw [ha.get K (by simp; omega) t.bB.2, get_alloc_lt hK]; exact t.other
  exact ⟨⟨get_set_own (nx_of_get hB2), by rw [get_set_ne t.ne]; exact hK2, ga.set t.aB.1 _, hv.set n1 _, gc.set t.cB.1 _, da, t.ac, fun id h h' => dc id h' h, t.aB, ⟨n1, n2⟩, t.cB, t.ne⟩, hB2⟩
theorem Tri.pushC (t : Tri H B K va vb vc x y h) (hv : GrowV Span.cells 2 H2 v2 (h ++ [s])) (ha : After vc (H.alloc o) v2 H2) : Tri (H2.set B (.cells true [va, vb, v2])) B K va vb v2 x y (h ++ [s]) ∧ H2.get B = .cells true [va, vb, vc] := by
  have hB := nx_of_get t.box
  have hK := nx_of_get t.other
  obtain ⟨ga, da⟩ := ha.grow (t.ga.alloc _) (fun id h h' => t.ac id h h')
  obtain ⟨gb, db⟩ := ha.grow (t.gb.alloc _) (fun id h h' => t.bc id h h')
  have n1 : ¬ Names v2 B := fun h => by have := ha.new _ h; simp at this; omega
  have n2 : ¬ Names v2 K := fun h => by have := ha.new _ h; simp at this; omega
  have hB2 : H2.get B = .cells true [va, vb, vc] := by rw [ha.get B (by simp; omega) t.cB.1, get_alloc_lt hB]; exact t.box
  have hK2 : H2.get K = .cells true [.pure .nils, .pure .nils, .pure .nils] := by rw [ha.get K (by simp; omega) t.cB.2, get_alloc_lt hK]; exact t.other
  exact ⟨⟨get_set_own (nx_of_get hB2), by rw [get_set_ne t.ne]; exact hK2, ga.set t.aB.1 _, gb.set t.bB.1 _, hv.set n1 _, t.ab, da, db, t.aB, t.bB, ⟨n1, n2⟩, t.ne⟩, hB2⟩
end

/-! ### Narrowing -/
def sweepAt (on back : Nat → Span → Span) (i : Nat) (cur : List Span) : List Span :=
  (cur.set (i+1) (meetS cur[i+1]! (on i cur[i]!))).set i (meetS cur[i]! (back i (meetS cur[i+1]! (on i cur[i]!))))
def sweepTo (on back : Nat → Span → Span) : Nat → List Span → List Span
  | 0, cur => cur
  | k + 1, cur => sweepAt on back k (sweepTo on back k cur)
def roundsS (on back : Nat → Span → Span) (m : Nat) : Nat → List Span → List Span
  | 0, cur => cur
  | r + 1, cur => sweepTo on back m (roundsS on back m r cur)
theorem sweepAt_length (on back : Nat → Span → Span) (i : Nat) (cur : List Span) : (sweepAt on back i cur).length = cur.length := by simp [sweepAt]
theorem sweepTo_length (on back : Nat → Span → Span) : ∀ (k : Nat) (cur : List Span), (sweepTo on back k cur).length = cur.length
  | 0, _ => rfl
  | k + 1, cur => by rw [sweepTo, sweepAt_length, sweepTo_length on back k]
theorem roundsS_length (on back : Nat → Span → Span) (m : Nat) : ∀ (r : Nat) (cur : List Span), (roundsS on back m r cur).length = cur.length
  | 0, _ => rfl
  | r + 1, cur => by rw [roundsS, sweepTo_length, roundsS_length on back m r]
def okL (l : List Span) : Prop := ∀ s ∈ l, okSp s
theorem okL_sweepAt {on back : Nat → Span → Span} (hw1 : ∀ k t, okSp t → wideS (on k t)) (hw2 : ∀ k t, okSp t → wideS (back k t)) {i : Nat} {cur : List Span} (hi : i + 1 < cur.length) (h : okL cur) : okL (sweepAt on back i cur) := by
  have h1 : okSp cur[i]! := by rw [getElem!_pos cur i (by omega)]; exact h _ (List.getElem_mem _)
  have h2 : okSp cur[i+1]! := by rw [getElem!_pos cur (i+1) hi]; exact h _ (List.getElem_mem _)
  have h3 := okSp_meet h2 (hw1 i _ h1)
  have h4 := okSp_meet h1 (hw2 i _ h3)
  intro s hs
  rcases List.mem_or_eq_of_mem_set hs with hs | rfl
  · rcases List.mem_or_eq_of_mem_set hs with hs | rfl
    · exact h s hs
    · exact h3
  · exact h4
def inH (l : List Span) : Prop := ∀ s ∈ l, 0 ≤ s.lo ∧ s.hi ≤ 100
theorem inH_sweepAt {on back : Nat → Span → Span} {i : Nat} {cur : List Span} (hi : i + 1 < cur.length) (h : inH cur) : inH (sweepAt on back i cur) := by
  have h1 : 0 ≤ cur[i]!.lo ∧ cur[i]!.hi ≤ 100 := by rw [getElem!_pos cur i (by omega)]; exact h _ (List.getElem_mem _)
  have h2 : 0 ≤ cur[i+1]!.lo ∧ cur[i+1]!.hi ≤ 100 := by rw [getElem!_pos cur (i+1) hi]; exact h _ (List.getElem_mem _)
  intro s hs
  rcases List.mem_or_eq_of_mem_set hs with hs | rfl
  · rcases List.mem_or_eq_of_mem_set hs with hs | rfl
    · exact h s hs
    · simp only [meetS]; omega
  · simp only [meetS]; omega
def narX (l : Life) (c : List Int) : List Span := roundsS (onX l c) (onX l c) c.length (2 * l.sights.xs.length) (l.sights.xs.map (·.box.x))
def narY (l : Life) (c : List Int) : List Span := roundsS (onX l c) (onX l c) c.length (2 * l.sights.xs.length) (l.sights.xs.map (·.box.y))
def narH (l : Life) (c : List Int) : List Span := roundsS (onH l c) (backH l c) c.length (2 * l.sights.xs.length) (l.sights.xs.map (·.height))

theorem sweepX_eq {l : Life} {c : List Int} {X : List Span} {i : Nat} (hi : i + 1 < X.length) (hc : i < c.length) : sweepAt (onX l c) (onX l c) i X =
    (X.set (i+1) (meetS X[i+1] (onD (farD l.habit c[i]) X[i]))).set i (meetS X[i] (onD (farD l.habit c[i]) (meetS X[i+1] (onD (farD l.habit c[i]) X[i])))) := by
  simp only [sweepAt, onX, getElem!_pos X i (by omega), getElem!_pos X (i+1) hi, getElem!_pos c i hc]
theorem sweepH_eq {l : Life} {c : List Int} {Z : List Span} {i : Nat} (hi : i + 1 < Z.length) (hl : i + 1 < l.sights.xs.length) (hc : i < c.length) (h0 : c[i] = 0) : sweepAt (onH l c) (backH l c) i Z =
    (Z.set (i+1) ⟨max Z[i+1].lo (Z[i].lo - l.habit.sink * (l.sights.xs[i+1].year - l.sights.xs[i].year)), min Z[i+1].hi Z[i].hi⟩).set i ⟨max Z[i].lo (max Z[i+1].lo (Z[i].lo - l.habit.sink * (l.sights.xs[i+1].year - l.sights.xs[i].year))), min Z[i].hi (min Z[i+1].hi Z[i].hi + l.habit.sink * (l.sights.xs[i+1].year - l.sights.xs[i].year))⟩ := by
  simp only [sweepAt, onH, backH, if_pos hl, getElem!_pos Z i (by omega), getElem!_pos Z (i+1) hi, getElem!_pos c i hc, h0, upH, downH, if_true, meetS, yrS, getElem!_pos l.sights.xs i (by omega), getElem!_pos l.sights.xs (i+1) hl]
theorem sweepH_skip {l : Life} {c : List Int} {Z : List Span} {i : Nat} (hi : i + 1 < Z.length) (hl : i + 1 < l.sights.xs.length) (hc : i < c.length) (h0 : ¬ c[i] = 0) (hz : inH Z) : sweepAt (onH l c) (backH l c) i Z = Z := by
  have h1 := hz _ (List.getElem_mem (l := Z) (n := i) (by omega))
  have h2 := hz _ (List.getElem_mem (l := Z) (n := i+1) hi)
  have e : ∀ s : Span, 0 ≤ s.lo ∧ s.hi ≤ 100 → meetS s ⟨0, 100⟩ = s := fun s h => by
    simp only [meetS]
    rw [Int.max_eq_left h.1, Int.min_eq_left h.2]
  simp only [sweepAt, onH, backH, if_pos hl, getElem!_pos Z i (by omega), getElem!_pos Z (i+1) hi, getElem!_pos c i hc, upH, downH, if_neg h0, e _ h1, e _ h2]
  rw [List.set_getElem_self, List.set_getElem_self]

theorem sh46 : G.shared 46 = false := by decide
theorem e46 (n : Nat) (l : Life) (c : Sl Int) (hr : Right l) (hc : c.xs.length + 1 = l.sights.xs.length) (hk : ∀ k ∈ c.xs, 0 ≤ k ∧ k ≤ 2) : callP G (n + 3) 46 [.agg l.cells, c.pv intF 1] = some (.agg [(Sl.of (narX l c.xs)).pv Span.cells 2, (Sl.of (narY l c.xs)).pv Span.cells 2, (Sl.of (narH l c.xs)).pv Span.cells 2]) := by
  refine callP_of (ext_none _) rfl g46 rfl ?_
  have h1 := hr.one
  have h9 := hr.nine
  have hcl0 : c.xs.length = l.sights.xs.length - 1 := by omega
  clear hc
  obtain ⟨P, hPe⟩ : ∃ P, P = PV.agg [(Sl.of (narX l c.xs)).pv Span.cells 2, (Sl.of (narY l c.xs)).pv Span.cells 2, (Sl.of (narH l c.xs)).pv Span.cells 2] := ⟨_, rfl⟩
  rw [← hPe]
  have hP : Hide _ := ⟨hPe⟩
  have hcl : Hide _ := ⟨hcl0⟩
  clear hPe hcl0
  (repeat' first | simp [*, initEnv, c46] | (refine wpIf_two (fun _ h => ?_) (fun _ h => ?_) <;> try simp [-Nat.le_zero_eq] at h) | (apply wpE_appendV; (focus (first | assumption | (repeat' first | assumption | with_reducible apply GrowV.setNew | with_reducible apply GrowV.alloc | with_reducible apply GrowV.set | (with_reducible show ¬ Names _ _; simp [*]; done)))); (focus (exact fun _ => rfl)); (focus decide); (focus (intro a; first | rfl | simp)); (focus (simp [maxCells] <;> omega))) | (refine after_intro fun v2 H2 hv2 hnx2 hget2 hnew2 hone2 hcel2 => ?_))
  refine wp_loopF [(6, 6), (12, 53)] (fun (s : Nat × AV × AV × AV) env H => env 6 = .pure (.int .i64 s.1) ∧ s.1 ≤ l.sights.xs.length ∧ Tri H 1 0 s.2.1 s.2.2.1 s.2.2.2 ((l.sights.xs.map (·.box.x)).take s.1) ((l.sights.xs.map (·.box.y)).take s.1) ((l.sights.xs.map (·.height)).take s.1)) (fun s => l.sights.xs.length - s.1) (0, .pure .nils, .pure .nils, .pure .nils) ?_ ?_ ?_ ?_
  · decide
  · have hno : ∀ id, ¬ Names (.pure .nils) id := fun id ⟨_, _, _, h⟩ => by simp at h
    refine ⟨by simp, by omega, ⟨by simp, by simp, GrowV.nil, GrowV.nil, GrowV.nil, fun _ h => absurd h (hno _), fun _ h => absurd h (hno _), fun _ h => absurd h (hno _), ⟨hno _, hno _⟩, ⟨hno _, hno _⟩, ⟨hno _, hno _⟩, by decide⟩⟩
  · simp only [loopFuel]; omega
  rintro ⟨i, va, vb, vc⟩ env H ⟨h6, hi, ht⟩
  simp only at h6 hi ht
  have hfit : i < 9223372036854775807 := by omega
  have hbox := ht.box
  have hbx := nx_of_get hbox
  have hbn : ¬ (1 = H.nx) := by omega
  have hga := ht.ga
  have hfa := hga.1.fresh
  (repeat' first | simp [*, initEnv] | (refine wpIf_two (fun _ h => ?_) (fun _ h => ?_) <;> try simp [-Nat.le_zero_eq] at h) | (apply wpE_appendV; (focus (first | assumption | (repeat' first | assumption | with_reducible apply GrowV.setNew | with_reducible apply GrowV.alloc | with_reducible apply GrowV.set | (with_reducible show ¬ Names _ _; simp [*]; done)))); (focus (exact fun _ => rfl)); (focus decide); (focus (intro a; first | rfl | simp)); (focus (simp [maxCells] <;> omega))) | (refine after_intro fun v2 H2 hv2 hnx2 hget2 hnew2 hone2 hcel2 => ?_))
  · have hlt : i < l.sights.xs.length := by assumption
    obtain ⟨ht2, hb2⟩ := ht.pushA hv2 ⟨hnx2, hget2, hnew2⟩
    have hnx := nx_of_get hb2
    generalize v2 = wa at *
    generalize H2 = Ha at *
    have hgb2 := ht2.gb
    have hfb2 := hgb2.1.fresh
    have hbn2 : ¬ (1 = Ha.nx) := by omega
    clear hv2 hget2 hnew2 hnx2 hga hfa hbox
    (repeat' first | simp [*, initEnv] | (refine wpIf_two (fun _ h => ?_) (fun _ h => ?_) <;> try simp [-Nat.le_zero_eq] at h) | (apply wpE_appendV; (focus (first | assumption | (repeat' first | assumption | with_reducible apply GrowV.setNew | with_reducible apply GrowV.alloc | with_reducible apply GrowV.set | (with_reducible show ¬ Names _ _; simp [*]; done)))); (focus (exact fun _ => rfl)); (focus decide); (focus (intro a; first | rfl | simp)); (focus (simp [maxCells] <;> omega))) | (refine after_intro fun v2 H2 hv2 hnx2 hget2 hnew2 hone2 hcel2 => ?_))
    obtain ⟨ht3, hb3⟩ := ht2.pushB hv2 ⟨hnx2, hget2, hnew2⟩
    have hnx3 := nx_of_get hb3
    generalize v2 = wb at *
    generalize H2 = Hb at *
    have hgc3 := ht3.gc
    have hfc3 := hgc3.1.fresh
    have hbn3 : ¬ (1 = Hb.nx) := by omega
    clear hv2 hget2 hnew2 hnx2 hgb2 hfb2
    (repeat' first | simp [*, initEnv] | (refine wpIf_two (fun _ h => ?_) (fun _ h => ?_) <;> try simp [-Nat.le_zero_eq] at h) | (apply wpE_appendV; (focus (first | assumption | (repeat' first | assumption | with_reducible apply GrowV.setNew | with_reducible apply GrowV.alloc | with_reducible apply GrowV.set | (with_reducible show ¬ Names _ _; simp [*]; done)))); (focus (exact fun _ => rfl)); (focus decide); (focus (intro a; first | rfl | simp)); (focus (simp [maxCells] <;> omega))) | (refine after_intro fun v2 H2 hv2 hnx2 hget2 hnew2 hone2 hcel2 => ?_))
    obtain ⟨ht4, hb4⟩ := ht3.pushC hv2 ⟨hnx2, hget2, hnew2⟩
    have hnx4 := nx_of_get hb4
    generalize v2 = wc at *
    generalize H2 = Hc at *
    clear hv2 hget2 hnew2 hnx2 hgc3 hfc3
    (repeat' first | simp [*, initEnv] | (refine wpIf_two (fun _ h => ?_) (fun _ h => ?_) <;> try simp [-Nat.le_zero_eq] at h) | (apply wpE_appendV; (focus (first | assumption | (repeat' first | assumption | with_reducible apply GrowV.setNew | with_reducible apply GrowV.alloc | with_reducible apply GrowV.set | (with_reducible show ¬ Names _ _; simp [*]; done)))); (focus (exact fun _ => rfl)); (focus decide); (focus (intro a; first | rfl | simp)); (focus (simp [maxCells] <;> omega))) | (refine after_intro fun v2 H2 hv2 hnx2 hget2 hnew2 hone2 hcel2 => ?_))
    refine ⟨i + 1, by omega, by simp, by omega, wa, wb, wc, ?_⟩
    rw [map_take_succ hlt, map_take_succ hlt, map_take_succ hlt] at ht4
    simpa using ht4
  have hie : i = l.sights.xs.length := by omega
  subst hie
  rw [List.take_of_length_le (by simp), List.take_of_length_le (by simp), List.take_of_length_le (by simp)] at ht
  clear hga hfa hbox hbn
  obtain ⟨ix, hvx, hgx⟩ := ht.ga.1.row (by intro e; have h := congrArg List.length e; rw [List.length_map, List.length_nil] at h; omega)
  obtain ⟨iy, hvy, hgy⟩ := ht.gb.1.row (by intro e; have h := congrArg List.length e; rw [List.length_map, List.length_nil] at h; omega)
  obtain ⟨ih, hvh, hgh⟩ := ht.gc.1.row (by intro e; have h := congrArg List.length e; rw [List.length_map, List.length_nil] at h; omega)
  rw [List.length_map] at hvx hvy hvh
  have hxy : ¬ (ix = iy) := fun e => ht.ab ix ⟨_, _, _, hvx⟩ ⟨2, 0, l.sights.xs.length, by rw [hvy, ← e]⟩
  have hxh : ¬ (ix = ih) := fun e => ht.ac ix ⟨_, _, _, hvx⟩ ⟨2, 0, l.sights.xs.length, by rw [hvh, ← e]⟩
  have hyh : ¬ (iy = ih) := fun e => ht.bc iy ⟨_, _, _, hvy⟩ ⟨2, 0, l.sights.xs.length, by rw [hvh, ← e]⟩
  have hyx : ¬ (iy = ix) := fun e => hxy e.symm
  have hhx : ¬ (ih = ix) := fun e => hxh e.symm
  have hhy : ¬ (ih = iy) := fun e => hyh e.symm
  have hx1 : ¬ (1 = ix) := fun e => ht.aB.1 ⟨2, 0, l.sights.xs.length, by rw [hvx, ← e]⟩
  have hx0 : ¬ (0 = ix) := fun e => ht.aB.2 ⟨2, 0, l.sights.xs.length, by rw [hvx, ← e]⟩
  have hy1 : ¬ (1 = iy) := fun e => ht.bB.1 ⟨2, 0, l.sights.xs.length, by rw [hvy, ← e]⟩
  have hy0 : ¬ (0 = iy) := fun e => ht.bB.2 ⟨2, 0, l.sights.xs.length, by rw [hvy, ← e]⟩
  have hh1 : ¬ (1 = ih) := fun e => ht.cB.1 ⟨2, 0, l.sights.xs.length, by rw [hvh, ← e]⟩
  have hh0 : ¬ (0 = ih) := fun e => ht.cB.2 ⟨2, 0, l.sights.xs.length, by rw [hvh, ← e]⟩
  have hbox := ht.box
  have hoth := ht.other
  rw [hvx, hvy, hvh] at hbox
  have hmul : IntKind.i64.wrap (2 * (l.sights.xs.length : Int)) = ((2 * l.sights.xs.length : Nat) : Int) := by rw [wrap64 (by omega) (by omega)]; simp
  obtain ⟨m2, hm20⟩ : ∃ m, m = 2 * l.sights.xs.length := ⟨_, rfl⟩
  rw [← hm20] at hmul
  have hm2' : m2 ≤ 18 := by omega
  have hm2 : Hide _ := ⟨hm20⟩
  clear hm20
  have okx : okL (l.sights.xs.map (·.box.x)) := fun s hs => by obtain ⟨a, ha, rfl⟩ := List.mem_map.1 hs; exact (hr.sp ha).1
  have oky : okL (l.sights.xs.map (·.box.y)) := fun s hs => by obtain ⟨a, ha, rfl⟩ := List.mem_map.1 hs; exact (hr.sp ha).2.1
  have okh : okL (l.sights.xs.map (·.height)) := fun s hs => by obtain ⟨a, ha, rfl⟩ := List.mem_map.1 hs; exact (hr.sp ha).2.2.1
  have inh : inH (l.sights.xs.map (·.height)) := fun s hs => by obtain ⟨a, ha, rfl⟩ := List.mem_map.1 hs; have := hr.sp ha; omega
  clear ht
  refine wp_loopF [(7, 10), (54, 237)] (fun (s : Nat × List Span × List Span × List Span) env2 H2 => env2 7 = .pure (.int .i64 s.1) ∧ s.1 ≤ m2 ∧
      H2.get 0 = .cells true [.pure .nils, .pure .nils, .pure .nils] ∧ H2.get 1 = .cells true [.row ix 2 0 l.sights.xs.length, .row iy 2 0 l.sights.xs.length, .row ih 2 0 l.sights.xs.length] ∧
      H2.get ix = .cells true (rowOf Span.cells s.2.1) ∧ H2.get iy = .cells true (rowOf Span.cells s.2.2.1) ∧ H2.get ih = .cells true (rowOf Span.cells s.2.2.2) ∧
      Hide (s.2.1.length = l.sights.xs.length ∧ s.2.2.1.length = l.sights.xs.length ∧ s.2.2.2.length = l.sights.xs.length ∧ okL s.2.1 ∧ okL s.2.2.1 ∧ okL s.2.2.2 ∧ inH s.2.2.2 ∧
        s.2.1 = roundsS (onX l c.xs) (onX l c.xs) c.xs.length s.1 (l.sights.xs.map (·.box.x)) ∧ s.2.2.1 = roundsS (onX l c.xs) (onX l c.xs) c.xs.length s.1 (l.sights.xs.map (·.box.y)) ∧ s.2.2.2 = roundsS (onH l c.xs) (backH l c.xs) c.xs.length s.1 (l.sights.xs.map (·.height))))
      (fun s => m2 - s.1) (0, l.sights.xs.map (·.box.x), l.sights.xs.map (·.box.y), l.sights.xs.map (·.height)) ?_ ?_ ?_ ?_
  · decide
  · refine ⟨by simp, by omega, hoth, hbox, hgx, hgy, hgh, ⟨by simp, by simp, by simp, okx, oky, okh, inh, rfl, rfl, rfl⟩⟩
  · simp only [loopFuel]; omega
  clear hoth hbox hgx hgy hgh okx oky okh inh
  rintro ⟨r, X, Y, Z⟩ env2 H2 ⟨h7, hr2, hg0, hg1, hgx, hgy, hgh, hh⟩
  simp only at h7 hr2 hgx hgy hgh hh
  have hfit2 : r < 9223372036854775807 := by omega
  obtain ⟨⟨hXl, hYl, hZl, oX, oY, oZ, iZ, eX0, eY0, eZ0⟩⟩ := hh
  have eX : Hide _ := ⟨eX0⟩
  have eY : Hide _ := ⟨eY0⟩
  have eZ : Hide _ := ⟨eZ0⟩
  clear eX0 eY0 eZ0
  (repeat' first | simp [*, initEnv] | (refine wpIf_two (fun _ h => ?_) (fun _ h => ?_) <;> try simp [-Nat.le_zero_eq] at h) | (apply wpE_appendV; (focus (first | assumption | (repeat' first | assumption | with_reducible apply GrowV.setNew | with_reducible apply GrowV.alloc | with_reducible apply GrowV.set | (with_reducible show ¬ Names _ _; simp [*]; done)))); (focus (exact fun _ => rfl)); (focus decide); (focus (intro a; first | rfl | simp)); (focus (simp [maxCells] <;> omega))) | (refine after_intro fun v2 H2 hv2 hnx2 hget2 hnew2 hone2 hcel2 => ?_))
  · have hlt : r < m2 := by assumption
    refine wp_loopF [(8, 10), (62, 237)] (fun (s : Nat × List Span × List Span × List Span) env2 H2 => env2 8 = .pure (.int .i64 s.1) ∧ s.1 ≤ c.xs.length ∧
      H2.get 0 = .cells true [.pure .nils, .pure .nils, .pure .nils] ∧ H2.get 1 = .cells true [.row ix 2 0 l.sights.xs.length, .row iy 2 0 l.sights.xs.length, .row ih 2 0 l.sights.xs.length] ∧
      H2.get ix = .cells true (rowOf Span.cells s.2.1) ∧ H2.get iy = .cells true (rowOf Span.cells s.2.2.1) ∧ H2.get ih = .cells true (rowOf Span.cells s.2.2.2) ∧
      Hide (s.2.1.length = l.sights.xs.length ∧ s.2.2.1.length = l.sights.xs.length ∧ s.2.2.2.length = l.sights.xs.length ∧ okL s.2.1 ∧ okL s.2.2.1 ∧ okL s.2.2.2 ∧ inH s.2.2.2 ∧
        s.2.1 = sweepTo (onX l c.xs) (onX l c.xs) s.1 X ∧ s.2.2.1 = sweepTo (onX l c.xs) (onX l c.xs) s.1 Y ∧ s.2.2.2 = sweepTo (onH l c.xs) (backH l c.xs) s.1 Z))
      (fun s => c.xs.length - s.1) (0, X, Y, Z) ?_ ?_ ?_ ?_
    · decide
    · refine ⟨by simp, by omega, hg0, hg1, hgx, hgy, hgh, ⟨hXl, hYl, hZl, oX, oY, oZ, iZ, rfl, rfl, rfl⟩⟩
    · have := hcl.h; simp only [loopFuel]; omega
    clear hg0 hg1 hgx hgy hgh
    rintro ⟨i, x, y, z⟩ env3 H3 ⟨h8, hi, hg0, hg1, hgx, hgy, hgh, hh⟩
    simp only at h8 hi hgx hgy hgh hh
    obtain ⟨⟨hxl, hyl, hzl, ox, oy, oz, iz, ex0, ey0, ez0⟩⟩ := hh
    have ex : Hide _ := ⟨ex0⟩
    have ey : Hide _ := ⟨ey0⟩
    have ez : Hide _ := ⟨ez0⟩
    clear ex0 ey0 ez0
    have hfit3 : i < 9223372036854775807 := by have := hcl.h; omega
    by_cases hic : i < c.xs.length
    · have hi1 : i + 1 < l.sights.xs.length := by have := hcl.h; omega
      have hi0 : i < l.sights.xs.length := by omega
      have hix := nx_of_get hgx
      have hiy := nx_of_get hgy
      have hih := nx_of_get hgh
      have hd := far_le (k := c.xs[i]) hr.habit
      have o1 : okSp x[i] := ox _ (List.getElem_mem _)
      have o2 : okSp x[i+1] := ox _ (List.getElem_mem _)
      have o3 : okSp y[i] := oy _ (List.getElem_mem _)
      have o4 : okSp y[i+1] := oy _ (List.getElem_mem _)
      have o5 : okSp z[i] := oz _ (List.getElem_mem _)
      have o6 : okSp z[i+1] := oz _ (List.getElem_mem _)
      have w1 : wideS (onD (farD l.habit c.xs[i]) x[i]) := by unfold okSp at o1; unfold wideS onD; simp only; omega
      have w2 : wideS (onD (farD l.habit c.xs[i]) y[i]) := by unfold okSp at o3; unfold wideS onD; simp only; omega
      have o7 := okSp_meet o2 w1
      have o8 := okSp_meet o4 w2
      have ns := hr.yr hi1
      have hsk := sink_le hr.habit ns
      have u1 : IntKind.i64.wrap (l.sights.xs[i+1].year - l.sights.xs[i].year) = l.sights.xs[i+1].year - l.sights.xs[i].year := wrap64 (by omega) (by omega)
      have u2 : IntKind.i64.wrap (l.habit.sink * (l.sights.xs[i+1].year - l.sights.xs[i].year)) = l.habit.sink * (l.sights.xs[i+1].year - l.sights.xs[i].year) := wrap64 (by omega) (by omega)
      have u3 : IntKind.i64.wrap (z[i].lo - l.habit.sink * (l.sights.xs[i+1].year - l.sights.xs[i].year)) = z[i].lo - l.habit.sink * (l.sights.xs[i+1].year - l.sights.xs[i].year) := by unfold okSp at o5; exact wrap64 (by omega) (by omega)
      have u4 : IntKind.i64.wrap (min z[i+1].hi z[i].hi + l.habit.sink * (l.sights.xs[i+1].year - l.sights.xs[i].year)) = min z[i+1].hi z[i].hi + l.habit.sink * (l.sights.xs[i+1].year - l.sights.xs[i].year) := by unfold okSp at o5 o6; exact wrap64 (by omega) (by omega)
      have hw1 := onX_wide hr c.xs
      have hwH1 : ∀ k t, okSp t → wideS (onH l c.xs k t) := fun k t h => (onH_wide hr c.xs k t h).1
      have hwH2 : ∀ k t, okSp t → wideS (backH l c.xs k t) := fun k t h => (onH_wide hr c.xs k t h).2
      have fin : Hide ((sweepAt (onX l c.xs) (onX l c.xs) i x).length = l.sights.xs.length ∧ (sweepAt (onX l c.xs) (onX l c.xs) i y).length = l.sights.xs.length ∧ (sweepAt (onH l c.xs) (backH l c.xs) i z).length = l.sights.xs.length ∧ okL (sweepAt (onX l c.xs) (onX l c.xs) i x) ∧ okL (sweepAt (onX l c.xs) (onX l c.xs) i y) ∧ okL (sweepAt (onH l c.xs) (backH l c.xs) i z) ∧ inH (sweepAt (onH l c.xs) (backH l c.xs) i z) ∧
        sweepAt (onX l c.xs) (onX l c.xs) i x = sweepTo (onX l c.xs) (onX l c.xs) (i + 1) X ∧ sweepAt (onX l c.xs) (onX l c.xs) i y = sweepTo (onX l c.xs) (onX l c.xs) (i + 1) Y ∧ sweepAt (onH l c.xs) (backH l c.xs) i z = sweepTo (onH l c.xs) (backH l c.xs) (i + 1) Z) :=
        ⟨by rw [sweepAt_length, hxl], by rw [sweepAt_length, hyl], by rw [sweepAt_length, hzl], okL_sweepAt hw1 hw1 (by omega) ox, okL_sweepAt hw1 hw1 (by omega) oy, okL_sweepAt hwH1 hwH2 (by omega) oz, inH_sweepAt (by omega) iz, by rw [sweepTo, ← ex.h], by rw [sweepTo, ← ey.h], by rw [sweepTo, ← ez.h]⟩
      have sx : Hide _ := ⟨sweepX_eq (l := l) (c := c.xs) (X := x) (i := i) (by omega) hic⟩
      have sy : Hide _ := ⟨sweepX_eq (l := l) (c := c.xs) (X := y) (i := i) (by omega) hic⟩
      have hic2 : Hide _ := ⟨hic⟩
      clear hw1 hwH1 hwH2
      (repeat' first | simp [*, initEnv] | (refine wpIf_two (fun _ h => ?_) (fun _ h => ?_) <;> try simp [-Nat.le_zero_eq] at h) | (apply wpE_appendV; (focus (first | assumption | (repeat' first | assumption | with_reducible apply GrowV.setNew | with_reducible apply GrowV.alloc | with_reducible apply GrowV.set | (with_reducible show ¬ Names _ _; simp [*]; done)))); (focus (exact fun _ => rfl)); (focus decide); (focus (intro a; first | rfl | simp)); (focus (simp [maxCells] <;> omega))) | (refine after_intro fun v2 H2 hv2 hnx2 hget2 hnew2 hone2 hcel2 => ?_))
      · have h0 : c.xs[i] = 0 := by assumption
        exact ⟨i + 1, by omega, by simp, by omega, _, by rw [sx.h, h0], _, by rw [sy.h, h0], _, by rw [sweepH_eq (by omega) hi1 hic2.h h0], fin⟩
      · have h0 : ¬ c.xs[i] = 0 := by assumption
        exact ⟨i + 1, by omega, by simp, by omega, _, by rw [sx.h], _, by rw [sy.h], _, by rw [sweepH_skip (by omega) hi1 hic2.h h0 iz], fin⟩
    · have hie : i = c.xs.length := by omega
      (repeat' first | simp [*, initEnv] | (refine wpIf_two (fun _ h => ?_) (fun _ h => ?_) <;> try simp [-Nat.le_zero_eq] at h) | (apply wpE_appendV; (focus (first | assumption | (repeat' first | assumption | with_reducible apply GrowV.setNew | with_reducible apply GrowV.alloc | with_reducible apply GrowV.set | (with_reducible show ¬ Names _ _; simp [*]; done)))); (focus (exact fun _ => rfl)); (focus decide); (focus (intro a; first | rfl | simp)); (focus (simp [maxCells] <;> omega))) | (refine after_intro fun v2 H2 hv2 hnx2 hget2 hnew2 hone2 hcel2 => ?_))
      exact ⟨r + 1, by omega, by simp, by omega, x, rfl, y, rfl, z, rfl, ⟨hxl, hyl, hzl, ox, oy, oz, iz, by rw [roundsS, ← eX.h, ex.h, hie], by rw [roundsS, ← eY.h, ey.h, hie], by rw [roundsS, ← eZ.h, ez.h, hie]⟩⟩
  have hre : r = 2 * l.sights.xs.length := by have := hm2.h; omega
  have hne : ∀ m : List Span, m.length = l.sights.xs.length → m ≠ [] := fun m hm e => by rw [e] at hm; simp at hm; omega
  have fa : FrzK (H2.set 0 (.cells true [.row ix 2 0 l.sights.xs.length, .row iy 2 0 l.sights.xs.length, .row ih 2 0 l.sights.xs.length])) false depthF (aggV [.row ix 2 0 l.sights.xs.length, .row iy 2 0 l.sights.xs.length, .row ih 2 0 l.sights.xs.length]) P := by
    rw [hP.h]
    have rx := eX.h
    have ry := eY.h
    have rz := eZ.h
    rw [hre] at rx ry rz
    have gx : GrowV Span.cells 2 H2 (.row ix 2 0 l.sights.xs.length) X := ⟨.inr ⟨ix, by rw [hXl], hgx⟩, fun e => absurd e (hne X hXl)⟩
    have gy : GrowV Span.cells 2 H2 (.row iy 2 0 l.sights.xs.length) Y := ⟨.inr ⟨iy, by rw [hYl], hgy⟩, fun e => absurd e (hne Y hYl)⟩
    have gz : GrowV Span.cells 2 H2 (.row ih 2 0 l.sights.xs.length) Z := ⟨.inr ⟨ih, by rw [hZl], hgh⟩, fun e => absurd e (hne Z hZl)⟩
    have ex : X = narX l c.xs := rx
    have ey : Y = narY l c.xs := ry
    have ez : Z = narH l c.xs := rz
    rw [← ex, ← ey, ← ez]
    have nn : ∀ j, ¬ 0 = j → ¬ Names (.row j 2 0 l.sights.xs.length) 0 := fun j hj ⟨_, _, _, h⟩ => by simp at h; omega
    exact FrzK.aggV (n := 11) (.cons ((gx.set (nn _ hx0) _).res (fun _ => rfl)) (.cons ((gy.set (nn _ hy0) _).res (fun _ => rfl)) (.cons ((gz.set (nn _ hh0) _).res (fun _ => rfl)) .nil)))
  have h02 := nx_of_get hg0
  rw [get_set_own h02]
  refine ⟨_, rfl, fa⟩
@[simp] theorem d46 (n : Nat) (H : Heap) (l_habit_step : Int) (l_habit_place : Int) (l_habit_sink : Int) (l_sights : Sl Sight) (l_notes : Sl Note) (c : Sl Int) (hr : (fun (l : Life) => Right l) (⟨⟨l_habit_step, l_habit_place, l_habit_sink⟩, l_sights, l_notes⟩ : Life)) (hc : (fun (l : Life) => c.xs.length + 1 = l.sights.xs.length) (⟨⟨l_habit_step, l_habit_place, l_habit_sink⟩, l_sights, l_notes⟩ : Life)) (hk : ∀ k ∈ c.xs, 0 ≤ k ∧ k ≤ 2) : doCall (calleeOf G (n + 3)) H (.pure (.func 46 [])) [.pure (.agg [.int .i64 l_habit_step, .int .i64 l_habit_place, .int .i64 l_habit_sink, (l_sights).pv Sight.cells 9, (l_notes).pv Note.cells 4]), .pure (c.pv intF 1)] = some (.val (.pure ((fun (l : Life) => .agg [(Sl.of (narX l c.xs)).pv Span.cells 2, (Sl.of (narY l c.xs)).pv Span.cells 2, (Sl.of (narH l c.xs)).pv Span.cells 2]) (⟨⟨l_habit_step, l_habit_place, l_habit_sink⟩, l_sights, l_notes⟩ : Life)))) :=
  call_pureC (ps := [_, _]) (caps := []) sh46 (e46 n (⟨⟨l_habit_step, l_habit_place, l_habit_sink⟩, l_sights, l_notes⟩ : Life) c hr hc hk)
end Go.Proofs.YtjjkgamklbgnlaaGreat.Vm
