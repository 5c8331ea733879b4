/- Pairs of sights that can be of one stone: what the functions compute. Lists of sights: their first error, and all their pairs. All pairs of two lists of sights; the first error of the lists. All pairs of two lists of sights; what makes pairs and a cover right. CheckMatch: pairs and a cover are looked at. CheckMatch: what the program and the specification answer. -/
import Derived.Test.YtnomliioadjdgaaGreatPk18
import Derived.Test.YtnomliioadjdgaaGreatPk19
namespace Go.Proofs.YtnomliioadjdgaaGreat.Vm
open Go
set_option linter.unusedSimpArgs false
set_option linter.unusedVariables false
set_option maxHeartbeats 4000000

structure Pair where
  one : Int
  two : Int
  deriving Inhabited
@[simp] def Pair.cells (s : Pair) : List PV := [.int .i64 s.one, .int .i64 s.two]
@[simp] theorem Pair.eta (s : Pair) : (⟨s.one, s.two⟩ : Pair) = s := rfl
@[simp] theorem asF_Pair (x0 : Int) (x1 : Int) (P : Pair → Prop) {u} : asF Pair.cells [.pure (.int .i64 x0), .pure (.int .i64 x1)] P u ↔ P ⟨x0, x1⟩ := by
  constructor
  · rintro ⟨a, h, hp⟩
    simp [Pair.cells] at h
    obtain ⟨rfl, rfl⟩ := h
    exact hp
  · intro h; exact ⟨_, rfl, h⟩
@[simp] theorem putIn_Pair {l : List Pair} {i : Nat} (x0 : Int) (x1 : Int) (h : i < l.length) : putIn (.cells true (rowOf Pair.cells l)) 2 (i * 2) [.pure (.int .i64 x0), .pure (.int .i64 x1)] = some (.cells true (rowOf Pair.cells (l.set i ⟨x0, x1⟩))) := putIn_rowG (f := Pair.cells) (a := ⟨x0, x1⟩) (fun _ => rfl) (fun _ => by first | rfl | simp) (by decide) h

/-- A closure over memory of one's own is called. -/
theorem wpE_ownF {n : Nat} {H : Heap} {f : Nat} {caps args : List AV} {ps : List PV} {r : PV} {pre : Nat} {k : AV → Heap → Prop} {u} (hs : G.shared f = false) (ha : FrzL H true depthF (args ++ caps) ps) (h : callP G n f ps = some r) (hc : r.cold = true)
    (hk : k (.pure r) H) : wpE pre (doCall (calleeOf G n) H (.func f caps) args) H k u := by
  obtain ⟨ids, ha⟩ := ha
  refine ⟨.val (.pure r), ?_, by simp [isUpd], hk⟩
  have hs' : (calleeOf G n).shared f = false := hs
  have h' : (calleeOf G n).pure f ps = some r := h
  simp only [doCall, hs', Bool.false_eq_true, if_false, ha, h', hc, Bool.or_true, if_true]
theorem FrzK.box {H : Heap} {k : Bool} {n id off : Nat} {cs : List AV} {ps : List PV} {own : Bool} (hg : H.get id = .cells own cs) (h : FrzL H k n cs ps) : FrzK H k (n + 1) (.box id off) (.ptr k ps off) := by
  obtain ⟨ids, h⟩ := h
  exact ⟨id :: ids, by simp only [freeze, hg, h]⟩
theorem frzP {H : Heap} {k : Bool} {n : Nat} (ps : List PV) : FrzL H k (n + 1) (ps.map .pure) ps := ⟨[], freezeL_pures k n ps⟩

/-! ### Boxes -/
def growS (s : Span) (d : Int) : Span := ⟨max (-1048576) (s.lo - d), min 1048576 (s.hi + d)⟩
def growB (b : Box) (d : Int) : Box := ⟨growS b.x (min d 2097152), growS b.y (min d 2097152)⟩
theorem sh153 : G.shared 153 = false := by decide
theorem e153 (n : Nat) (a b : Span) : callP G (n + 1) 153 [.agg a.cells, .agg b.cells] = some (.agg (meetS a b).cells) := by
  refine callP_of (ext_none _) rfl g153 rfl ?_
  (repeat' first | simp [*, initEnv, c153, Span.cells, meetS] | (refine wpIf_two (fun _ h => ?_) (fun _ h => ?_) <;> try simp [-Nat.le_zero_eq] at h))
@[simp] theorem d153 (n : Nat) (H : Heap) (a_lo : Int) (a_hi : Int) (b_lo : Int) (b_hi : Int) : doCall (calleeOf G (n + 1)) H (.pure (.func 153 [])) [.pure (.agg [.int .i64 a_lo, .int .i64 a_hi]), .pure (.agg [.int .i64 b_lo, .int .i64 b_hi])] = some (.val (.pure ((fun (a : Span) => (fun (b : Span) => .agg (meetS a b).cells) (⟨b_lo, b_hi⟩ : Span)) (⟨a_lo, a_hi⟩ : Span)))) :=
  call_pureC (ps := [_, _]) (caps := []) sh153 (e153 n (⟨a_lo, a_hi⟩ : Span) (⟨b_lo, b_hi⟩ : Span))
theorem sh152 : G.shared 152 = false := by decide
theorem e152 (n : Nat) (s a : Span) (d : Int) (hs : okSp s) (hd : 0 ≤ d ∧ d ≤ 2097152) : callP G (n + 2) 152 [.agg s.cells, .ptr true [.int .i64 d] 0, .ptr true a.cells 0] = some (.agg (⟨max (s.lo - d) a.lo, min (s.hi + d) a.hi⟩ : Span).cells) := by
  refine callP_of (ext_none _) rfl g152 rfl ?_
  have h1 : IntKind.i64.wrap (s.lo - d) = s.lo - d := by unfold okSp at hs; exact wrap64 (by omega) (by omega)
  have h2 : IntKind.i64.wrap (s.hi + d) = s.hi + d := by unfold okSp at hs; exact wrap64 (by omega) (by omega)
  have h3 : ∀ H, doCall (calleeOf G (n + 1)) H (.pure (.func 153 [])) [.pure (.agg [.int .i64 (s.lo - d), .int .i64 (s.hi + d)]), .pure (.agg [.int .i64 a.lo, .int .i64 a.hi])] = some (.val (.pure (.agg [.int .i64 (max (s.lo - d) a.lo), .int .i64 (min (s.hi + d) a.hi)]))) := fun H => d153 n H _ _ _ _
  clear hs hd
  (repeat' first | simp [*, initEnv, c152, Span.cells] | (refine wpIf_two (fun _ h => ?_) (fun _ h => ?_) <;> try simp [-Nat.le_zero_eq] at h))
@[simp] theorem d152 (n : Nat) (H : Heap) (s_lo : Int) (s_hi : Int) (a_lo : Int) (a_hi : Int) (d : Int) (hs : (fun (s : Span) => okSp s) (⟨s_lo, s_hi⟩ : Span)) (hd : 0 ≤ d ∧ d ≤ 2097152) : doCall (calleeOf G (n + 2)) H (.pure (.func 152 [.ptr true [.int .i64 d] 0, .ptr true [.int .i64 a_lo, .int .i64 a_hi] 0])) [.pure (.agg [.int .i64 s_lo, .int .i64 s_hi])] = some (.val (.pure ((fun (s : Span) => (fun (a : Span) => .agg (⟨max (s.lo - d) a.lo, min (s.hi + d) a.hi⟩ : Span).cells) (⟨a_lo, a_hi⟩ : Span)) (⟨s_lo, s_hi⟩ : Span)))) :=
  call_pureC (ps := [_]) (caps := [_, _]) sh152 (e152 n (⟨s_lo, s_hi⟩ : Span) (⟨a_lo, a_hi⟩ : Span) d hs hd)
theorem sh121 : G.shared 121 = false := by decide
theorem e121 (n : Nat) (b : Box) (d : Int) (hb : properS b = true) (hd : 0 ≤ d) : callP G (n + 4) 121 [.agg b.cells, .int .i64 d] = some (.tup [.agg (growB b d).cells, .bool true]) := by
  refine callP_of (ext_none _) rfl g121 rfl ?_
  have hp := proper_iff.1 hb
  have hx : okSp b.x := by unfold okSp; omega
  have hy : okSp b.y := by unfold okSp; omega
  have hd2 : 0 ≤ min d 2097152 ∧ min d 2097152 ≤ 2097152 := by omega
  have r1 := e152 (n + 1) b.x ⟨-1048576, 1048576⟩ (min d 2097152) hx hd2
  have r2 := e152 (n + 1) b.y ⟨-1048576, 1048576⟩ (min d 2097152) hy hd2
  have hG : Hide (growB b d = ⟨growS b.x (min d 2097152), growS b.y (min d 2097152)⟩) := ⟨rfl⟩
  have hd0 : ¬ d < 0 := by omega
  obtain ⟨e, he⟩ : ∃ e, min d 2097152 = e := ⟨_, rfl⟩
  rw [he] at r1 r2 hG
  clear hp hx hy hd2 hd
  generalize growB b d = g at *
  (repeat' first | simp [*, initEnv, c121, funcV, puresL] | (refine wpIf_two (fun _ h => ?_) (fun _ h => ?_) <;> try simp [-Nat.le_zero_eq] at h))
  refine wpE_ownF (ps := [.agg b.x.cells, .ptr true [.int .i64 e] 0, .ptr true [.int .i64 (-1048576), .int .i64 1048576] 0]) sh152 (.cons (.pure (n := 11) _) (.cons (.box (own := true) (by simp [*]) (frzP (n := 10) [.int .i64 e])) (.cons (.box (own := true) (by simp [*]) (frzP (n := 10) [.int .i64 (-1048576), .int .i64 1048576])) .nil))) r1 rfl ?_
  (repeat' first | simp [*, initEnv] | (refine wpIf_two (fun _ h => ?_) (fun _ h => ?_) <;> try simp [-Nat.le_zero_eq] at h))
  refine wpE_ownF (ps := [.agg b.y.cells, .ptr true [.int .i64 e] 0, .ptr true [.int .i64 (-1048576), .int .i64 1048576] 0]) sh152 (.cons (.pure (n := 11) _) (.cons (.box (own := true) (by simp [*]) (frzP (n := 10) [.int .i64 e])) (.cons (.box (own := true) (by simp [*]) (frzP (n := 10) [.int .i64 (-1048576), .int .i64 1048576])) .nil))) r2 rfl ?_
  (repeat' first | simp [*, initEnv] | (refine wpIf_two (fun _ h => ?_) (fun _ h => ?_) <;> try simp [-Nat.le_zero_eq] at h))
  rw [hG.h]
  simp [Box.cells, growS, Int.max_comm, Int.min_comm]
@[simp] theorem d121 (n : Nat) (H : Heap) (b_x_lo : Int) (b_x_hi : Int) (b_y_lo : Int) (b_y_hi : Int) (d : Int) (hb : (fun (b : Box) => properS b = true) (⟨⟨b_x_lo, b_x_hi⟩, ⟨b_y_lo, b_y_hi⟩⟩ : Box)) (hd : 0 ≤ d) : doCall (calleeOf G (n + 4)) H (.pure (.func 121 [])) [.pure (.agg [.int .i64 b_x_lo, .int .i64 b_x_hi, .int .i64 b_y_lo, .int .i64 b_y_hi]), .pure (.int .i64 d)] = some (.val (.pure ((fun (b : Box) => .tup [.agg (growB b d).cells, .bool true]) (⟨⟨b_x_lo, b_x_hi⟩, ⟨b_y_lo, b_y_hi⟩⟩ : Box)))) :=
  call_pureC (ps := [_, _]) (caps := []) sh121 (e121 n (⟨⟨b_x_lo, b_x_hi⟩, ⟨b_y_lo, b_y_hi⟩⟩ : Box) d hb hd)
theorem sh139 : G.shared 139 = false := by decide
theorem e139 (n : Nat) (b : Box) (d : Int) (hb : properR b = true) (hd : 0 ≤ d) : callP G (n + 4) 139 [.agg b.cells, .int .i64 d] = some (.tup [.agg (growB b d).cells, .bool true]) := by
  refine callP_of (ext_none _) rfl g139 rfl ?_
  have hp := proper_iff.1 (by rw [spanS_valid]; exact hb)
  have hd2 : 0 ≤ min d 2097152 ∧ min d 2097152 ≤ 2097152 := by omega
  have hG : Hide (growB b d = ⟨growS b.x (min d 2097152), growS b.y (min d 2097152)⟩) := ⟨rfl⟩
  have hd0 : ¬ d < 0 := by omega
  obtain ⟨e, he⟩ : ∃ e, min d 2097152 = e := ⟨_, rfl⟩
  rw [he] at hd2 hG
  have w1 : IntKind.i64.wrap (b.x.lo - e) = b.x.lo - e := wrap64 (by omega) (by omega)
  have w2 : IntKind.i64.wrap (b.x.hi + e) = b.x.hi + e := wrap64 (by omega) (by omega)
  have w3 : IntKind.i64.wrap (b.y.lo - e) = b.y.lo - e := wrap64 (by omega) (by omega)
  have w4 : IntKind.i64.wrap (b.y.hi + e) = b.y.hi + e := wrap64 (by omega) (by omega)
  clear hp hd2 hd
  generalize growB b d = g at *
  (repeat' first | simp [*, initEnv, c139] | (refine wpIf_two (fun _ h => ?_) (fun _ h => ?_) <;> try simp [-Nat.le_zero_eq] at h))
  rw [hG.h]
  simp [Box.cells, growS, Int.max_comm, Int.min_comm]
@[simp] theorem d139 (n : Nat) (H : Heap) (b_x_lo : Int) (b_x_hi : Int) (b_y_lo : Int) (b_y_hi : Int) (d : Int) (hb : (fun (b : Box) => properR b = true) (⟨⟨b_x_lo, b_x_hi⟩, ⟨b_y_lo, b_y_hi⟩⟩ : Box)) (hd : 0 ≤ d) : doCall (calleeOf G (n + 4)) H (.pure (.func 139 [])) [.pure (.agg [.int .i64 b_x_lo, .int .i64 b_x_hi, .int .i64 b_y_lo, .int .i64 b_y_hi]), .pure (.int .i64 d)] = some (.val (.pure ((fun (b : Box) => .tup [.agg (growB b d).cells, .bool true]) (⟨⟨b_x_lo, b_x_hi⟩, ⟨b_y_lo, b_y_hi⟩⟩ : Box)))) :=
  call_pureC (ps := [_, _]) (caps := []) sh139 (e139 n (⟨⟨b_x_lo, b_x_hi⟩, ⟨b_y_lo, b_y_hi⟩⟩ : Box) d hb hd)
theorem grow_proper {b : Box} {d : Int} (hb : properS b = true) (hd : 0 ≤ d) : properS (growB b d) = true := by
  rw [proper_iff] at *
  simp only [growB, growS]
  omega
def meetB (a b : Box) : Box := ⟨meetS a.x b.x, meetS a.y b.y⟩
def meetOk (a b : Box) : Bool := properS a && properS b && properS (meetB a b)
def noB : Box := ⟨⟨0, 0⟩, ⟨0, 0⟩⟩
theorem sh122 : G.shared 122 = false := by decide
theorem e122 (n : Nat) (a b : Box) : callP G (n + 4) 122 [.agg a.cells, .agg b.cells] = some (.tup [.agg (if meetOk a b = true then meetB a b else noB).cells, .bool (meetOk a b)]) := by
  refine callP_of (ext_none _) rfl g122 rfl ?_
  have hM : Hide (meetB a b = ⟨meetS a.x b.x, meetS a.y b.y⟩) := ⟨rfl⟩
  have h1 : ∀ H, doCall (calleeOf G (n + 3)) H (.pure (.func 18 [])) [.pure (.agg (meetB a b).cells)] = some (.val (.pure (.bool (properS (meetB a b))))) := fun H => d18 n H _ _ _ _
  have hK : Hide (meetOk a b = (properS a && properS b && properS (meetB a b))) := ⟨rfl⟩
  have hm1 : ∀ H, doCall (calleeOf G (n + 3)) H (.pure (.func 153 [])) [.pure (.agg [.int .i64 a.x.lo, .int .i64 a.x.hi]), .pure (.agg [.int .i64 b.x.lo, .int .i64 b.x.hi])] = some (.val (.pure (.agg [.int .i64 (meetB a b).x.lo, .int .i64 (meetB a b).x.hi]))) := fun H => d153 (n + 2) H _ _ _ _
  have hm2 : ∀ H, doCall (calleeOf G (n + 3)) H (.pure (.func 153 [])) [.pure (.agg [.int .i64 a.y.lo, .int .i64 a.y.hi]), .pure (.agg [.int .i64 b.y.lo, .int .i64 b.y.hi])] = some (.val (.pure (.agg [.int .i64 (meetB a b).y.lo, .int .i64 (meetB a b).y.hi]))) := fun H => d153 (n + 2) H _ _ _ _
  have ha : ∀ H, doCall (calleeOf G (n + 3)) H (.pure (.func 18 [])) [.pure (.agg a.cells)] = some (.val (.pure (.bool (properS a)))) := fun H => d18 n H _ _ _ _
  have hb : ∀ H, doCall (calleeOf G (n + 3)) H (.pure (.func 18 [])) [.pure (.agg b.cells)] = some (.val (.pure (.bool (properS b)))) := fun H => d18 n H _ _ _ _
  simp only [Box.cells] at h1 ha hb
  generalize meetB a b = m at *
  generalize meetOk a b = k at *
  generalize properS m = k1 at *
  generalize properS a = k2 at *
  generalize properS b = k3 at *
  (repeat' first | simp [*, initEnv, c122] | (refine wpIf_two (fun _ h => ?_) (fun _ h => ?_) <;> try simp [-Nat.le_zero_eq] at h))
  all_goals (have := hK.h; subst this; simp [*, noB])
@[simp] theorem d122 (n : Nat) (H : Heap) (a_x_lo : Int) (a_x_hi : Int) (a_y_lo : Int) (a_y_hi : Int) (b_x_lo : Int) (b_x_hi : Int) (b_y_lo : Int) (b_y_hi : Int) : doCall (calleeOf G (n + 4)) H (.pure (.func 122 [])) [.pure (.agg [.int .i64 a_x_lo, .int .i64 a_x_hi, .int .i64 a_y_lo, .int .i64 a_y_hi]), .pure (.agg [.int .i64 b_x_lo, .int .i64 b_x_hi, .int .i64 b_y_lo, .int .i64 b_y_hi])] = some (.val (.pure ((fun (a : Box) => (fun (b : Box) => .tup [.agg (if meetOk a b = true then meetB a b else noB).cells, .bool (meetOk a b)]) (⟨⟨b_x_lo, b_x_hi⟩, ⟨b_y_lo, b_y_hi⟩⟩ : Box)) (⟨⟨a_x_lo, a_x_hi⟩, ⟨a_y_lo, a_y_hi⟩⟩ : Box)))) :=
  call_pureC (ps := [_, _]) (caps := []) sh122 (e122 n (⟨⟨a_x_lo, a_x_hi⟩, ⟨a_y_lo, a_y_hi⟩⟩ : Box) (⟨⟨b_x_lo, b_x_hi⟩, ⟨b_y_lo, b_y_hi⟩⟩ : Box))
def meetOkR (a b : Box) : Bool := properR a && properR b && properR (meetB a b)
theorem meetOk_same (a b : Box) : meetOk a b = meetOkR a b := by simp only [meetOk, meetOkR, spanS_valid]
theorem sh140 : G.shared 140 = false := by decide
theorem e140 (n : Nat) (a b : Box) : callP G (n + 4) 140 [.agg a.cells, .agg b.cells] = some (.tup [.agg (if meetOkR a b = true then meetB a b else noB).cells, .bool (meetOkR a b)]) := by
  refine callP_of (ext_none _) rfl g140 rfl ?_
  have h1 : ∀ H, doCall (calleeOf G (n + 3)) H (.pure (.func 96 [])) [.pure (.agg [.int .i64 (max a.x.lo b.x.lo), .int .i64 (min a.x.hi b.x.hi), .int .i64 (max a.y.lo b.y.lo), .int .i64 (min a.y.hi b.y.hi)])] = some (.val (.pure (.bool (properR (meetB a b))))) := fun H => d96 n H _ _ _ _
  have hK : Hide (meetOkR a b = (properR a && properR b && properR (meetB a b))) := ⟨rfl⟩
  have hM : Hide ((meetB a b).cells = [.int .i64 (max a.x.lo b.x.lo), .int .i64 (min a.x.hi b.x.hi), .int .i64 (max a.y.lo b.y.lo), .int .i64 (min a.y.hi b.y.hi)]) := ⟨rfl⟩
  have ha : ∀ H, doCall (calleeOf G (n + 3)) H (.pure (.func 96 [])) [.pure (.agg a.cells)] = some (.val (.pure (.bool (properR a)))) := fun H => d96 n H _ _ _ _
  have hb : ∀ H, doCall (calleeOf G (n + 3)) H (.pure (.func 96 [])) [.pure (.agg b.cells)] = some (.val (.pure (.bool (properR b)))) := fun H => d96 n H _ _ _ _
  simp only [Box.cells] at ha hb
  generalize meetB a b = m at *
  generalize meetOkR a b = k at *
  generalize properR m = k1 at *
  generalize properR a = k2 at *
  generalize properR b = k3 at *
  (repeat' first | simp [*, initEnv, c140] | (refine wpIf_two (fun _ h => ?_) (fun _ h => ?_) <;> try simp [-Nat.le_zero_eq] at h))
  all_goals (have := hK.h; subst this; have hm := hM.h; simp only [Box.cells, List.cons.injEq, PV.int.injEq, true_and, and_true] at hm; obtain ⟨m1, m2, m3, m4⟩ := hm; simp [m1, m2, m3, m4, noB, *])
@[simp] theorem d140 (n : Nat) (H : Heap) (a_x_lo : Int) (a_x_hi : Int) (a_y_lo : Int) (a_y_hi : Int) (b_x_lo : Int) (b_x_hi : Int) (b_y_lo : Int) (b_y_hi : Int) : doCall (calleeOf G (n + 4)) H (.pure (.func 140 [])) [.pure (.agg [.int .i64 a_x_lo, .int .i64 a_x_hi, .int .i64 a_y_lo, .int .i64 a_y_hi]), .pure (.agg [.int .i64 b_x_lo, .int .i64 b_x_hi, .int .i64 b_y_lo, .int .i64 b_y_hi])] = some (.val (.pure ((fun (a : Box) => (fun (b : Box) => .tup [.agg (if meetOkR a b = true then meetB a b else noB).cells, .bool (meetOkR a b)]) (⟨⟨b_x_lo, b_x_hi⟩, ⟨b_y_lo, b_y_hi⟩⟩ : Box)) (⟨⟨a_x_lo, a_x_hi⟩, ⟨a_y_lo, a_y_hi⟩⟩ : Box)))) :=
  call_pureC (ps := [_, _]) (caps := []) sh140 (e140 n (⟨⟨a_x_lo, a_x_hi⟩, ⟨a_y_lo, a_y_hi⟩⟩ : Box) (⟨⟨b_x_lo, b_x_hi⟩, ⟨b_y_lo, b_y_hi⟩⟩ : Box))

/-! ### Two sights -/
def mayS (h : Habit) (a b : Sight) : Bool := !decide (a.year = b.year) && agreeR a.letters b.letters && meetOk (growB a.box h.step) b.box
theorem sh84 : G.shared 84 = false := by decide
theorem e84 (n : Nat) (h : Habit) (a b : Sight) (ha : properS a.box = true) (hh : 0 ≤ h.step) : callP G (n + 5) 84 [.agg h.cells, .agg a.cells, .agg b.cells] = some (.bool (mayS h a b)) := by
  refine callP_of (ext_none _) rfl g84 rfl ?_
  have h1 : ∀ H, doCall (calleeOf G (n + 4)) H (.pure (.func 121 [])) [.pure (.agg a.box.cells), .pure (.int .i64 h.step)] = some (.val (.pure (.tup [.agg (growB a.box h.step).cells, .bool true]))) := fun H => d121 n H _ _ _ _ _ ha hh
  have h2 : ∀ H, doCall (calleeOf G (n + 4)) H (.pure (.func 122 [])) [.pure (.agg (growB a.box h.step).cells), .pure (.agg b.box.cells)] = some (.val (.pure (.tup [.agg (if meetOk (growB a.box h.step) b.box = true then meetB (growB a.box h.step) b.box else noB).cells, .bool (meetOk (growB a.box h.step) b.box)]))) := fun H => d122 n H _ _ _ _ _ _ _ _
  have h3 : ∀ H, doCall (calleeOf G (n + 4)) H (.pure (.func 65 [])) [.pure (.str ⟨a.letters.toArray⟩), .pure (.str ⟨b.letters.toArray⟩)] = some (.val (.pure (.bool (agreeR a.letters b.letters)))) := fun H => by rw [← agree_same]; exact d65 n H _ _
  have hK : Hide (mayS h a b = (!decide (a.year = b.year) && agreeR a.letters b.letters && meetOk (growB a.box h.step) b.box)) := ⟨rfl⟩
  simp only [Box.cells] at h1 h2
  generalize (if meetOk (growB a.box h.step) b.box = true then meetB (growB a.box h.step) b.box else noB) = M at *
  generalize meetOk (growB a.box h.step) b.box = k at *
  generalize growB a.box h.step = g at *
  generalize agreeR a.letters b.letters = k2 at *
  generalize mayS h a b = k3 at *
  clear ha hh
  (repeat' first | simp [*, initEnv, c84] | (refine wpIf_two (fun _ h => ?_) (fun _ h => ?_) <;> try simp [-Nat.le_zero_eq] at h))
  all_goals (have := hK.h; subst this; simp [*])
@[simp] theorem d84 (n : Nat) (H : Heap) (h_step : Int) (h_place : Int) (h_sink : Int) (a_id : Int) (a_year : Int) (a_box_x_lo : Int) (a_box_x_hi : Int) (a_box_y_lo : Int) (a_box_y_hi : Int) (a_letters : List UInt8) (a_height_lo : Int) (a_height_hi : Int) (b_id : Int) (b_year : Int) (b_box_x_lo : Int) (b_box_x_hi : Int) (b_box_y_lo : Int) (b_box_y_hi : Int) (b_letters : List UInt8) (b_height_lo : Int) (b_height_hi : Int) (ha : (fun (a : Sight) => properS a.box = true) (⟨a_id, a_year, ⟨⟨a_box_x_lo, a_box_x_hi⟩, ⟨a_box_y_lo, a_box_y_hi⟩⟩, a_letters, ⟨a_height_lo, a_height_hi⟩⟩ : Sight)) (hh : (fun (h : Habit) => 0 ≤ h.step) (⟨h_step, h_place, h_sink⟩ : Habit)) : doCall (calleeOf G (n + 5)) H (.pure (.func 84 [])) [.pure (.agg [.int .i64 h_step, .int .i64 h_place, .int .i64 h_sink]), .pure (.agg [.int .i64 a_id, .int .i64 a_year, .int .i64 a_box_x_lo, .int .i64 a_box_x_hi, .int .i64 a_box_y_lo, .int .i64 a_box_y_hi, .str ⟨(a_letters).toArray⟩, .int .i64 a_height_lo, .int .i64 a_height_hi]), .pure (.agg [.int .i64 b_id, .int .i64 b_year, .int .i64 b_box_x_lo, .int .i64 b_box_x_hi, .int .i64 b_box_y_lo, .int .i64 b_box_y_hi, .str ⟨(b_letters).toArray⟩, .int .i64 b_height_lo, .int .i64 b_height_hi])] = some (.val (.pure ((fun (h : Habit) => (fun (a : Sight) => (fun (b : Sight) => .bool (mayS h a b)) (⟨b_id, b_year, ⟨⟨b_box_x_lo, b_box_x_hi⟩, ⟨b_box_y_lo, b_box_y_hi⟩⟩, b_letters, ⟨b_height_lo, b_height_hi⟩⟩ : Sight)) (⟨a_id, a_year, ⟨⟨a_box_x_lo, a_box_x_hi⟩, ⟨a_box_y_lo, a_box_y_hi⟩⟩, a_letters, ⟨a_height_lo, a_height_hi⟩⟩ : Sight)) (⟨h_step, h_place, h_sink⟩ : Habit)))) :=
  call_pureC (ps := [_, _, _]) (caps := []) sh84 (e84 n (⟨h_step, h_place, h_sink⟩ : Habit) (⟨a_id, a_year, ⟨⟨a_box_x_lo, a_box_x_hi⟩, ⟨a_box_y_lo, a_box_y_hi⟩⟩, a_letters, ⟨a_height_lo, a_height_hi⟩⟩ : Sight) (⟨b_id, b_year, ⟨⟨b_box_x_lo, b_box_x_hi⟩, ⟨b_box_y_lo, b_box_y_hi⟩⟩, b_letters, ⟨b_height_lo, b_height_hi⟩⟩ : Sight) ha hh)
theorem sh118 : G.shared 118 = false := by decide
theorem e118 (n : Nat) (h : Habit) (a b : Sight) (ha : properR a.box = true) (hh : 0 ≤ h.step) (hl1 : a.letters.length ≤ 20) (hl2 : b.letters.length ≤ 20) : callP G (n + 5) 118 [.agg h.cells, .agg a.cells, .agg b.cells] = some (.bool (mayS h a b)) := by
  refine callP_of (ext_none _) rfl g118 rfl ?_
  have h1 : ∀ H, doCall (calleeOf G (n + 4)) H (.pure (.func 139 [])) [.pure (.agg a.box.cells), .pure (.int .i64 h.step)] = some (.val (.pure (.tup [.agg (growB a.box h.step).cells, .bool true]))) := fun H => d139 n H _ _ _ _ _ ha hh
  have h2 : ∀ H, doCall (calleeOf G (n + 4)) H (.pure (.func 140 [])) [.pure (.agg (growB a.box h.step).cells), .pure (.agg b.box.cells)] = some (.val (.pure (.tup [.agg (if meetOkR (growB a.box h.step) b.box = true then meetB (growB a.box h.step) b.box else noB).cells, .bool (meetOk (growB a.box h.step) b.box)]))) := fun H => by rw [meetOk_same]; exact d140 n H _ _ _ _ _ _ _ _
  have h3 : ∀ H, doCall (calleeOf G (n + 4)) H (.pure (.func 101 [])) [.pure (.str ⟨a.letters.toArray⟩), .pure (.str ⟨b.letters.toArray⟩)] = some (.val (.pure (.bool (agreeR a.letters b.letters)))) := fun H => d101 (n + 2) H _ _ (by omega) (by omega)
  have hK : Hide (mayS h a b = (!decide (a.year = b.year) && agreeR a.letters b.letters && meetOk (growB a.box h.step) b.box)) := ⟨rfl⟩
  simp only [Box.cells] at h1 h2
  generalize (if meetOkR (growB a.box h.step) b.box = true then meetB (growB a.box h.step) b.box else noB) = M at *
  generalize meetOk (growB a.box h.step) b.box = k at *
  generalize growB a.box h.step = g at *
  generalize agreeR a.letters b.letters = k2 at *
  generalize mayS h a b = k3 at *
  clear ha hh hl1 hl2
  (repeat' first | simp [*, initEnv, c118] | (refine wpIf_two (fun _ h => ?_) (fun _ h => ?_) <;> try simp [-Nat.le_zero_eq] at h))
  all_goals (have := hK.h; subst this; simp [*])
@[simp] theorem d118 (n : Nat) (H : Heap) (h_step : Int) (h_place : Int) (h_sink : Int) (a_id : Int) (a_year : Int) (a_box_x_lo : Int) (a_box_x_hi : Int) (a_box_y_lo : Int) (a_box_y_hi : Int) (a_letters : List UInt8) (a_height_lo : Int) (a_height_hi : Int) (b_id : Int) (b_year : Int) (b_box_x_lo : Int) (b_box_x_hi : Int) (b_box_y_lo : Int) (b_box_y_hi : Int) (b_letters : List UInt8) (b_height_lo : Int) (b_height_hi : Int) (ha : (fun (a : Sight) => properR a.box = true) (⟨a_id, a_year, ⟨⟨a_box_x_lo, a_box_x_hi⟩, ⟨a_box_y_lo, a_box_y_hi⟩⟩, a_letters, ⟨a_height_lo, a_height_hi⟩⟩ : Sight)) (hh : (fun (h : Habit) => 0 ≤ h.step) (⟨h_step, h_place, h_sink⟩ : Habit)) (hl1 : (fun (a : Sight) => a.letters.length ≤ 20) (⟨a_id, a_year, ⟨⟨a_box_x_lo, a_box_x_hi⟩, ⟨a_box_y_lo, a_box_y_hi⟩⟩, a_letters, ⟨a_height_lo, a_height_hi⟩⟩ : Sight)) (hl2 : (fun (b : Sight) => b.letters.length ≤ 20) (⟨b_id, b_year, ⟨⟨b_box_x_lo, b_box_x_hi⟩, ⟨b_box_y_lo, b_box_y_hi⟩⟩, b_letters, ⟨b_height_lo, b_height_hi⟩⟩ : Sight)) : doCall (calleeOf G (n + 5)) H (.pure (.func 118 [])) [.pure (.agg [.int .i64 h_step, .int .i64 h_place, .int .i64 h_sink]), .pure (.agg [.int .i64 a_id, .int .i64 a_year, .int .i64 a_box_x_lo, .int .i64 a_box_x_hi, .int .i64 a_box_y_lo, .int .i64 a_box_y_hi, .str ⟨(a_letters).toArray⟩, .int .i64 a_height_lo, .int .i64 a_height_hi]), .pure (.agg [.int .i64 b_id, .int .i64 b_year, .int .i64 b_box_x_lo, .int .i64 b_box_x_hi, .int .i64 b_box_y_lo, .int .i64 b_box_y_hi, .str ⟨(b_letters).toArray⟩, .int .i64 b_height_lo, .int .i64 b_height_hi])] = some (.val (.pure ((fun (h : Habit) => (fun (a : Sight) => (fun (b : Sight) => .bool (mayS h a b)) (⟨b_id, b_year, ⟨⟨b_box_x_lo, b_box_x_hi⟩, ⟨b_box_y_lo, b_box_y_hi⟩⟩, b_letters, ⟨b_height_lo, b_height_hi⟩⟩ : Sight)) (⟨a_id, a_year, ⟨⟨a_box_x_lo, a_box_x_hi⟩, ⟨a_box_y_lo, a_box_y_hi⟩⟩, a_letters, ⟨a_height_lo, a_height_hi⟩⟩ : Sight)) (⟨h_step, h_place, h_sink⟩ : Habit)))) :=
  call_pureC (ps := [_, _, _]) (caps := []) sh118 (e118 n (⟨h_step, h_place, h_sink⟩ : Habit) (⟨a_id, a_year, ⟨⟨a_box_x_lo, a_box_x_hi⟩, ⟨a_box_y_lo, a_box_y_hi⟩⟩, a_letters, ⟨a_height_lo, a_height_hi⟩⟩ : Sight) (⟨b_id, b_year, ⟨⟨b_box_x_lo, b_box_x_hi⟩, ⟨b_box_y_lo, b_box_y_hi⟩⟩, b_letters, ⟨b_height_lo, b_height_hi⟩⟩ : Sight) ha hh hl1 hl2)
end Go.Proofs.YtnomliioadjdgaaGreat.Vm

namespace Go.Proofs.YtnomliioadjdgaaGreat.Vm
open Go
set_option linter.unusedSimpArgs false
set_option linter.unusedVariables false
set_option maxHeartbeats 4000000

/-! ### Appending where there is room -/
/-- A slice of one's own with room for c elements. -/
def RoomV {α : Type} (f : α → List PV) (sz : Nat) (H : Heap) (v : AV) (l : List α) (c : Nat) : Prop :=
  (v = .pure .nils ∧ l = [] ∧ c = 0) ∨ c ≠ 0 ∧ ∃ id rest, v = .row id sz 0 l.length ∧ H.get id = .cells true (rowOf f l ++ rest) ∧ (rowOf f l ++ rest).length = c * sz
section
variable {α : Type} {f : α → List PV} {sz : Nat} {H : Heap} {v : AV} {l m : List α} {c : Nat}
theorem wpE_appendRoom {bytes : Nat} {b : AV} {k : AV → Heap → Prop} {u} (hv : RoomV f sz H v l c) (hf : ∀ a, (f a).length = sz) (h0 : 0 < sz) (hone : ∀ a, (f a).all PV.one = true)
    (hb : sliceCells H sz b = some (rowOf f m, m.length)) (hc : l.length + m.length ≤ c)
    (hk : ∀ v' H', RoomV f sz H' v' (l ++ m) c → k v' H') : wpE 0 (doAppend H sz bytes v b) H k u := by
  have ho := rowOf_one' hone m
  rcases hv with ⟨rfl, rfl, rfl⟩ | ⟨hc0, id, rest, rfl, hid, hcap⟩
  · have hm : m = [] := List.eq_nil_of_length_eq_zero (by have h1 := hc; simp only [List.length_nil] at h1; omega)
    subst hm
    have : doAppend H sz bytes (.pure .nils) b = some (.val (.pure .nils)) := by
      simp only [doAppend, hb, ho]
      simp
    rw [this, wpE_val]
    exact hk _ _ (.inl ⟨rfl, rfl, rfl⟩)
  · have hlen := rowOf_length hf l
    have hlm := rowOf_length hf m
    have hcm : l.length * sz + m.length * sz ≤ c * sz := by rw [← Nat.add_mul]; exact Nat.mul_le_mul_right sz hc
    have : doAppend H sz bytes (.row id sz 0 l.length) b = some (.upd (.row id sz 0 (l.length + m.length)) (H.set id (.cells true (rowOf f l ++ rowOf f m ++ rest.drop (m.length * sz))))) := by
      simp only [doAppend, hb, ho, hid]
      simp only [Bool.not_true, Bool.false_eq_true, if_false, if_true, Nat.zero_mul, Nat.zero_add]
      rw [if_pos (by rw [hcap, Nat.add_mul]; exact hcm)]
      congr 3
      rw [← hlen, List.take_left, Nat.add_mul, ← hlen, List.drop_length_add_append]
    rw [this, wpE_upd]
    refine hk _ _ (.inr ⟨hc0, id, rest.drop (m.length * sz), by simp, ?_, ?_⟩)
    · rw [get_set_same (nx_of_get hid), rowOf_append]
    · rw [rowOf_append, List.length_append, List.length_append, List.length_drop, hlen, hlm]
      rw [List.length_append, hlen] at hcap
      omega
theorem RoomV.res {n : Nat} (h : RoomV f sz H v l c) (hf : ∀ a, (f a).length = sz) : FrzK H false (n + 2) v ((if c = 0 then Sl.nil else Sl.mk false l).pv f sz) := by
  rcases h with ⟨rfl, rfl, rfl⟩ | ⟨hc0, id, rest, rfl, hid, hcap⟩
  · exact ⟨[], rfl⟩
  · rw [if_neg hc0]
    exact HeadV.frz hf ⟨id, rest, rfl, hid⟩
end

/-! ### slices.Concat of lists of sights -/
theorem sh_growS : G.shared 138 = true := by decide
def flatTo (L : List (Sl Sight)) (i : Nat) : List Sight := ((L.take i).map (·.xs)).flatten
theorem flatTo_succ {L : List (Sl Sight)} {i : Nat} (h : i < L.length) : flatTo L (i + 1) = flatTo L i ++ L[i].xs := by
  unfold flatTo; rw [← take_succ' h, List.map_append, List.flatten_append]; simp
theorem flatTo_le {L : List (Sl Sight)} : ∀ i, (flatTo L i).length ≤ (flatTo L L.length).length := fun i => by
  have h : (flatTo L L.length) = flatTo L i ++ ((L.drop i).map (·.xs)).flatten := by
    unfold flatTo
    rw [List.take_length, ← List.flatten_append, ← List.map_append, List.take_append_drop]
  rw [h, List.length_append]; omega
def slF (s : Sl Sight) : List PV := [s.pv Sight.cells 9]
/-- slices.Grow of nothing. -/
theorem grow_call {n k : Nat} {H : Heap} {K : AV → Heap → Prop} {u} (hk : k ≤ 1000) (h : ∀ v' H', RoomV Sight.cells 9 H' v' [] k → K v' H') :
    wpE 0 (doCall (calleeOf G (n + 1)) H (.pure (.func 138 [])) [.pure .nils, .pure (.int .i64 (k : Nat))]) H K u := by
  refine wpE_shared (caps := []) sh_growS rfl g138 rfl ?_
  have w0 : IntKind.i64.wrap 0 = 0 := rfl
  have wk : IntKind.i64.wrap (k : Int) = k := wrap64 (by omega) (by omega)
  by_cases h0 : k = 0
  · subst h0
    have := h (.pure .nils) H (.inl ⟨rfl, rfl, rfl⟩)
    clear h
    (repeat' first | simp [*, initEnv, c138] | (refine wpIf_two (fun _ h => ?_) (fun _ h => ?_) <;> try simp [-Nat.le_zero_eq] at h))
  · have hz := appendZV_nil (sz := 9) (bytes := 80) (zero := [.int .i64 0, .int .i64 0, .int .i64 0, .int .i64 0, .int .i64 0, .int .i64 0, .str ⟨#[]⟩, .int .i64 0, .int .i64 0]) (q := .i64) h0 (by unfold maxCells; omega)
    have hpos : 0 < k := by omega
    have hs1 : ∀ (H : Heap) (id : Nat), isCells (H.get id) = true → sliceV H 9 (.row id 9 0 k) none (some (.pure (.int .i64 0))) = some (.val (.row id 9 0 0)) := fun H id h => sliceV_row_hi (i := 0) (k := .i64) h (by omega)
    have hs0 : ∀ (H : Heap), sliceV H 9 (.pure .nils) none (some (.pure (.int .i64 0))) = some (.val (.pure .nils)) := fun _ => by simp [sliceV, boundV, natOf]
    have hk0 : ¬ ((k : Int) < 0) := by omega
    have hk1 : (0 : Int) < k := by omega
    have hh := fun (o : AObj) (ho : ∃ rest, o = .cells true rest ∧ rest.length = k * 9) => h (.row H.nx 9 0 0) (H.alloc o) (by
      obtain ⟨rest, rfl, hr⟩ := ho
      exact .inr ⟨h0, H.nx, rest, rfl, get_alloc_nx _, hr⟩)
    have hh' : Hide _ := ⟨hh⟩
    clear h hh
    (repeat' first | simp [*, initEnv, c138] | (refine wpIf_two (fun _ h => ?_) (fun _ h => ?_) <;> try simp [-Nat.le_zero_eq] at h))
    refine hh'.h _ ⟨_, rfl, ?_⟩
    simp
theorem sh114 : G.shared 114 = false := by decide
theorem e114 (n : Nat) (L : List (Sl Sight)) (hL : L.length ≤ 100) (hN : (flatTo L L.length).length ≤ 1000) : callP G (n + 3) 114 [.slice true 1 (L.map slF)] = some ((if (flatTo L L.length).length = 0 then Sl.nil else Sl.mk false (flatTo L L.length)).pv Sight.cells 9) := by
  refine callP_of (ext_none _) rfl g114 rfl ?_
  have hsz : ∀ i, (flatTo L i).length ≤ 1000 := fun i => Nat.le_trans (flatTo_le i) hN
  have hst : Hide (∀ i (h : i < L.length), flatTo L (i + 1) = flatTo L i ++ L[i].xs) := ⟨fun i h => flatTo_succ h⟩
  have hle : Hide (∀ i, (flatTo L i).length ≤ (flatTo L L.length).length) := ⟨flatTo_le⟩
  have hsz' : Hide _ := ⟨hsz⟩
  have haddr : ∀ i (h : i < L.length), addrV 1 (.pure (.slice true 1 (L.map slF))) (.pure (.int .i64 (i : Nat))) = some (.val (.pure (.ptr true (slF L[i]) 0))) := fun i h => addrV_pure (by simp [h])
  have ha' : Hide _ := ⟨haddr⟩
  have h00 : flatTo L 0 = [] := rfl
  clear hsz haddr
  generalize hT : flatTo L = T at *
  (repeat' first | simp [*, initEnv, c114] | (refine wpIf_two (fun _ h => ?_) (fun _ h => ?_) <;> try simp [-Nat.le_zero_eq] at h))
  refine wp_loopF [(3, 3), (5, 5), (11, 22)] (fun (i : Nat) env H => env 11 = .pure (.int .i64 i) ∧ env 3 = .pure (.int .i64 (T i).length) ∧ i ≤ L.length) (fun i => L.length - i) 0 ?_ ?_ ?_ ?_
  · decide
  · simp [h00]
  · simp only [loopFuel]; omega
  rintro i env H ⟨g0, g3, hi⟩
  have hfit : i < 9223372036854775807 := by omega
  by_cases hlt : i < L.length
  · have a1 := ha'.h i hlt
    have s1 := hst.h i hlt
    have b1 := hsz'.h (i + 1)
    have b0 := hsz'.h i
    rw [s1, List.length_append] at b1
    have w1 : IntKind.i64.wrap (((T i).length : Int) + (L[i].xs.length : Int)) = ((T (i + 1)).length : Nat) := by
      rw [s1, List.length_append]; push_cast; exact wrap64 (by omega) (by omega)
    have nn : ¬ (((T (i + 1)).length : Int) < 0) := by omega
    have hcl : (slF L[i]) = [L[i].pv Sight.cells 9] := rfl
    rw [hcl] at a1
    generalize L[i] = s at *
    clear s1 b1 b0 hcl
    (repeat' first | simp [*, initEnv] | (refine wpIf_two (fun _ h => ?_) (fun _ h => ?_) <;> try simp [-Nat.le_zero_eq] at h))
    exact ⟨i + 1, by omega, by omega, rfl, by omega⟩
  · have hn : i = L.length := by omega
    rw [hn] at g3
    have hk := hsz'.h L.length
    (repeat' first | simp [*, initEnv] | (refine wpIf_two (fun _ h => ?_) (fun _ h => ?_) <;> try simp [-Nat.le_zero_eq] at h))
    refine grow_call (n := n + 1) hk ?_
    intro v1 H1 hroom
    (repeat' first | simp [*, initEnv] | (refine wpIf_two (fun _ h => ?_) (fun _ h => ?_) <;> try simp [-Nat.le_zero_eq] at h))
    refine wp_loopF [(6, 6), (8, 8), (27, 34)] (fun (i : Nat) env H => env 27 = .pure (.int .i64 i) ∧ RoomV Sight.cells 9 H (env 6) (T i) (T L.length).length ∧ i ≤ L.length) (fun i => L.length - i) 0 ?_ ?_ ?_ ?_
    · decide
    · simp [h00, hroom]
    · simp only [loopFuel]; omega
    clear g0 g3 hi hfit hlt hn hroom
    rintro i env H ⟨g0, g6, hi⟩
    have hfit : i < 9223372036854775807 := by omega
    by_cases hlt : i < L.length
    · have a1 := ha'.h i hlt
      have s1 := hst.h i hlt
      have b1 := hle.h (i + 1)
      rw [s1, List.length_append] at b1
      have hcl : (slF L[i]) = [L[i].pv Sight.cells 9] := rfl
      rw [hcl] at a1
      have hsc : ∀ H, sliceCells H 9 (.pure (L[i].pv Sight.cells 9)) = some (rowOf Sight.cells L[i].xs, L[i].xs.length) := fun H => sliceCells_sl' (f := Sight.cells) (sz := 9) (fun _ => rfl) _
      have hsc' : Hide _ := ⟨hsc⟩
      have s1' : Hide _ := ⟨s1⟩
      clear hsc s1 hcl
      (repeat' first | simp [*, initEnv] | (refine wpIf_two (fun _ h => ?_) (fun _ h => ?_) <;> try simp [-Nat.le_zero_eq] at h))
      refine wpE_appendRoom (f := Sight.cells) g6 (fun _ => rfl) (by decide) (fun _ => rfl) (hsc'.h _) b1 ?_
      intro v2 H2 hr2
      rw [← s1'.h] at hr2
      (repeat' first | simp [*, initEnv] | (refine wpIf_two (fun _ h => ?_) (fun _ h => ?_) <;> try simp [-Nat.le_zero_eq] at h))
      exact ⟨i + 1, by omega, by omega, hr2, by omega⟩
    · have hn : i = L.length := by omega
      rw [hn] at g6
      obtain ⟨ids, hids⟩ := g6.res (n := 10) (fun _ => rfl)
      simp only [List.length_eq_zero_iff] at hids
      (repeat' first | simp [*, initEnv] | (refine wpIf_two (fun _ h => ?_) (fun _ h => ?_) <;> try simp [-Nat.le_zero_eq] at h))
      exact ⟨ids, hids⟩
@[simp] theorem d114 (n : Nat) (H : Heap) (L : List (Sl Sight)) (hL : L.length ≤ 100) (hN : (flatTo L L.length).length ≤ 1000) : doCall (calleeOf G (n + 3)) H (.pure (.func 114 [])) [.pure (.slice true 1 (L.map slF))] = some (.val (.pure ((if (flatTo L L.length).length = 0 then Sl.nil else Sl.mk false (flatTo L L.length)).pv Sight.cells 9))) :=
  call_pureC (ps := [_]) (caps := []) sh114 (e114 n L hL hN)
end Go.Proofs.YtnomliioadjdgaaGreat.Vm

namespace Go.Proofs.YtnomliioadjdgaaGreat.Vm
open Go
set_option linter.unusedSimpArgs false
set_option linter.unusedVariables false
set_option maxHeartbeats 4000000

/-! ### The first error -/
def listE (h : Habit) (l m : List Sight) : Int := if habitS h = false then 1 else if 40 < l.length ∨ 40 < m.length then 2 else if allL sightR l = true ∧ allL sightR m = true then 0 else 1
theorem allL_append {α : Type} {p : α → Bool} : ∀ {l m : List α}, allL p (l ++ m) = (allL p l && allL p m)
  | [], m => by simp [allL]
  | a :: l, m => by simp [allL, allL_append (l := l), Bool.and_assoc]
theorem allL_false {α : Type} {p : α → Bool} {l : List α} {i : Nat} (h : i < l.length) (hp : p l[i] = false) : allL p l = false := by
  rw [Bool.eq_false_iff]
  intro ha
  have := allL_iff.1 ha _ (List.getElem_mem h)
  rw [hp] at this; simp at this
/-- Sights of lists that are not too long have short letters. -/
def briefS (l : List Sight) : Prop := l.length ≤ 40 → ∀ s ∈ l, s.letters.length ≤ 20
theorem sh66 : G.shared 66 = false := by decide
theorem e66 (n : Nat) (h : Habit) (l m : Sl Sight) : callP G (n + 5) 66 [.agg h.cells, l.pv Sight.cells 9, m.pv Sight.cells 9] = some (.int .i64 (listE h l.xs m.xs)) := by
  refine callP_of (ext_none _) rfl g66 rfl ?_
  by_cases hh : habitS h = false
  · have hP : listE h l.xs m.xs = 1 := by unfold listE; rw [if_pos hh]
    have hu : ∀ H, doCall (calleeOf G (n + 4)) H (.pure (.func 85 [])) [.pure (.agg h.cells)] = some (.val (.pure (.bool false))) := fun H => by rw [← hh]; exact d85 (n + 2) H _ _ _
    simp only [Habit.cells] at hu
    rw [hP]
    clear hP hh
    (repeat' first | simp [*, initEnv, c66] | (refine wpIf_two (fun _ h => ?_) (fun _ h => ?_) <;> try simp [-Nat.le_zero_eq] at h))
  have hu : ∀ H, doCall (calleeOf G (n + 4)) H (.pure (.func 85 [])) [.pure (.agg h.cells)] = some (.val (.pure (.bool true))) := fun H => by
    have : habitS h = true := by simpa using hh
    rw [← this]; exact d85 (n + 2) H _ _ _
  simp only [Habit.cells] at hu
  by_cases h40 : 40 < l.xs.length ∨ 40 < m.xs.length
  · have hP : listE h l.xs m.xs = 2 := by unfold listE; rw [if_neg hh, if_pos h40]
    rw [hP]
    clear hP hh
    rcases h40 with h40 | h40
    · have i1 : (40 : Int) < l.xs.length := by omega
      (repeat' first | simp [*, initEnv, c66] | (refine wpIf_two (fun _ h => ?_) (fun _ h => ?_) <;> try simp [-Nat.le_zero_eq] at h))
    · have i2 : (40 : Int) < m.xs.length := by omega
      by_cases h41 : 40 < l.xs.length
      · have i1 : (40 : Int) < l.xs.length := by omega
        (repeat' first | simp [*, initEnv, c66] | (refine wpIf_two (fun _ h => ?_) (fun _ h => ?_) <;> try simp [-Nat.le_zero_eq] at h))
      · have i1 : ¬ (40 : Int) < l.xs.length := by omega
        (repeat' first | simp [*, initEnv, c66] | (refine wpIf_two (fun _ h => ?_) (fun _ h => ?_) <;> try simp [-Nat.le_zero_eq] at h))
  have hL : flatTo [l, m] 2 = l.xs ++ m.xs := by simp [flatTo]
  have hlen : (l.xs ++ m.xs).length ≤ 80 := by rw [List.length_append]; omega
  have hc0 := e114 (n + 1) [l, m] (by simp) (by show (flatTo [l, m] 2).length ≤ 1000; rw [hL]; omega)
  have e2 : flatTo [l, m] [l, m].length = l.xs ++ m.xs := hL
  rw [e2] at hc0
  obtain ⟨s, hs⟩ : ∃ s : Sl Sight, s = (if (l.xs ++ m.xs).length = 0 then Sl.nil else Sl.mk false (l.xs ++ m.xs)) := ⟨_, rfl⟩
  rw [← hs] at hc0
  have hsx : s.xs = l.xs ++ m.xs := by
    rw [hs]
    split
    · rename_i h0; rw [List.eq_nil_of_length_eq_zero h0]; rfl
    · rfl
  have hcold : (s.pv Sight.cells 9).cold = true := by
    rw [hs]
    split
    · rfl
    · show PV.coldN 12 (.slice false 9 ((l.xs ++ m.xs).map Sight.cells)) = true
      rw [PV.coldN]
      simp only [Bool.not_false, Bool.true_and, Bool.or_eq_true, List.all_eq_true, List.mem_map]
      right
      rintro _ ⟨a, _, rfl⟩
      intro p hp
      simp at hp
      rcases hp with rfl | rfl | rfl | rfl | rfl | rfl | rfl | rfl | rfl <;> rfl
  have hc1 : callP G (n + 4) 114 [.slice true 1 [[l.pv Sight.cells 9], [m.pv Sight.cells 9]]] = some (s.pv Sight.cells 9) := hc0
  have hP : Hide (listE h l.xs m.xs = if allL sightR s.xs = true then 0 else 1) := ⟨by
    unfold listE
    rw [if_neg hh, if_neg h40, hsx, allL_append]
    simp only [Bool.and_eq_true]⟩
  have hsl : s.xs.length ≤ 80 := by rw [hsx]; exact hlen
  have hcold' : Hide _ := ⟨hcold⟩
  have hc1' : Hide _ := ⟨hc1⟩
  have h41 : ¬ (40 : Int) < l.xs.length := by omega
  have h42 : ¬ (40 : Int) < m.xs.length := by omega
  generalize listE h l.xs m.xs = P at *
  clear hh h40 hL hlen hc0 e2 hs hsx hcold hc1
  (repeat' first | simp [*, initEnv, c66] | (refine wpIf_two (fun _ h => ?_) (fun _ h => ?_) <;> try simp [-Nat.le_zero_eq] at h))
  refine wpE_own (ps := [.slice true 1 [[l.pv Sight.cells 9], [m.pv Sight.cells 9]]]) (caps := []) (by decide) (.cons (HeadV.frz (α := Sl Sight) (f := slF) (sz := 1) (l := [l, m]) (n := 10) (fun _ => rfl) ⟨0, [], by simp, by simp [rowOf, slF]⟩) .nil) hc1'.h hcold'.h ?_
  (repeat' first | simp [*, initEnv] | (refine wpIf_two (fun _ h => ?_) (fun _ h => ?_) <;> try simp [-Nat.le_zero_eq] at h))
  refine wp_loopF [(6, 6), (8, 9), (28, 37)] (fun (i : Nat) env H => env 28 = .pure (.int .i64 i) ∧ i ≤ s.xs.length ∧ Hide (∀ j (h : j < s.xs.length), j < i → sightR s.xs[j] = true)) (fun i => s.xs.length - i) 0 ?_ ?_ ?_ ?_
  · decide
  · exact ⟨by simp, by omega, ⟨fun j _ h => by omega⟩⟩
  · simp only [loopFuel]; omega
  rintro i env H ⟨g0, hi, hall⟩
  have hfit : i < 9223372036854775807 := by omega
  by_cases hlt : i < s.xs.length
  · have hck : ∀ H, doCall (calleeOf G (n + 4)) H (.pure (.func 86 [])) [.pure (.agg s.xs[i].cells)] = some (.val (.pure (.int .i64 (if sightR s.xs[i] = true then 0 else 1)))) := fun H => by
      rw [← sightS_sightR]; exact d86 n H _ _ _ _ _ _ _ _ _
    simp only [Sight.cells] at hck
    cases hr : sightR s.xs[i] with
    | true =>
      rw [hr, if_pos rfl] at hck
      have hn : Hide (∀ j (h : j < s.xs.length), j < i + 1 → sightR s.xs[j] = true) := ⟨fun j h hj => by
        by_cases e : j = i
        · subst e; exact hr
        · exact hall.h j h (by omega)⟩
      clear hr hall
      (repeat' first | simp [*, initEnv] | (refine wpIf_two (fun _ h => ?_) (fun _ h => ?_) <;> try simp [-Nat.le_zero_eq] at h))
      exact ⟨i + 1, by omega, by omega, by omega, hn⟩
    | false =>
      rw [hr, if_neg (by simp)] at hck
      have hPf : P = 1 := by rw [hP.h, allL_false hlt hr, if_neg (by simp)]
      clear hr hall
      (repeat' first | simp [*, initEnv] | (refine wpIf_two (fun _ h => ?_) (fun _ h => ?_) <;> try simp [-Nat.le_zero_eq] at h))
  · have hPt : P = 0 := by
      rw [hP.h, if_pos]
      exact allL_iff.2 fun a ha => by
        obtain ⟨j, hj, rfl⟩ := List.mem_iff_getElem.1 ha
        exact hall.h j hj (by omega)
    (repeat' first | simp [*, initEnv] | (refine wpIf_two (fun _ h => ?_) (fun _ h => ?_) <;> try simp [-Nat.le_zero_eq] at h))
@[simp] theorem d66 (n : Nat) (H : Heap) (h_step : Int) (h_place : Int) (h_sink : Int) (l : Sl Sight) (m : Sl Sight) : doCall (calleeOf G (n + 5)) H (.pure (.func 66 [])) [.pure (.agg [.int .i64 h_step, .int .i64 h_place, .int .i64 h_sink]), .pure (l.pv Sight.cells 9), .pure (m.pv Sight.cells 9)] = some (.val (.pure ((fun (h : Habit) => .int .i64 (listE h l.xs m.xs)) (⟨h_step, h_place, h_sink⟩ : Habit)))) :=
  call_pureC (ps := [_, _, _]) (caps := []) sh66 (e66 n (⟨h_step, h_place, h_sink⟩ : Habit) l m)
theorem sh117 : G.shared 117 = false := by decide
theorem e117 (n : Nat) (h : Habit) (l m : Sl Sight) (hl : briefS l.xs) (hm : briefS m.xs) : callP G (n + 5) 117 [.agg h.cells, l.pv Sight.cells 9, m.pv Sight.cells 9] = some (.int .i64 (listE h l.xs m.xs)) := by
  refine callP_of (ext_none _) rfl g117 rfl ?_
  by_cases hh : habitS h = false
  · have hP : listE h l.xs m.xs = 1 := by unfold listE; rw [if_pos hh]
    have hu : ∀ H, doCall (calleeOf G (n + 4)) H (.pure (.func 90 [])) [.pure (.agg h.cells)] = some (.val (.pure (.bool false))) := fun H => by rw [← hh]; exact d90 (n + 2) H _ _ _
    simp only [Habit.cells] at hu
    rw [hP]
    clear hP hh hl hm
    (repeat' first | simp [*, initEnv, c117] | (refine wpIf_two (fun _ h => ?_) (fun _ h => ?_) <;> try simp [-Nat.le_zero_eq] at h))
  have hu : ∀ H, doCall (calleeOf G (n + 4)) H (.pure (.func 90 [])) [.pure (.agg h.cells)] = some (.val (.pure (.bool true))) := fun H => by
    have : habitS h = true := by simpa using hh
    rw [← this]; exact d90 (n + 2) H _ _ _
  simp only [Habit.cells] at hu
  by_cases h40 : 40 < l.xs.length ∨ 40 < m.xs.length
  · have hP : listE h l.xs m.xs = 2 := by unfold listE; rw [if_neg hh, if_pos h40]
    rw [hP]
    clear hP hh hl hm
    rcases h40 with h40 | h40
    · have i1 : (40 : Int) < l.xs.length := by omega
      (repeat' first | simp [*, initEnv, c117] | (refine wpIf_two (fun _ h => ?_) (fun _ h => ?_) <;> try simp [-Nat.le_zero_eq] at h))
    · have i2 : (40 : Int) < m.xs.length := by omega
      by_cases h41 : 40 < l.xs.length
      · have i1 : (40 : Int) < l.xs.length := by omega
        (repeat' first | simp [*, initEnv, c117] | (refine wpIf_two (fun _ h => ?_) (fun _ h => ?_) <;> try simp [-Nat.le_zero_eq] at h))
      · have i1 : ¬ (40 : Int) < l.xs.length := by omega
        (repeat' first | simp [*, initEnv, c117] | (refine wpIf_two (fun _ h => ?_) (fun _ h => ?_) <;> try simp [-Nat.le_zero_eq] at h))
  have hP : Hide (listE h l.xs m.xs = if allL sightR l.xs = true ∧ allL sightR m.xs = true then 0 else 1) := ⟨by
    unfold listE
    rw [if_neg hh, if_neg h40]⟩
  have h41 : ¬ (40 : Int) < l.xs.length := by omega
  have h42 : ¬ (40 : Int) < m.xs.length := by omega
  have hl' : Hide _ := ⟨hl (by omega)⟩
  have hm' : Hide _ := ⟨hm (by omega)⟩
  generalize listE h l.xs m.xs = P at *
  clear hh h40 hl hm
  (repeat' first | simp [*, initEnv, c117] | (refine wpIf_two (fun _ h => ?_) (fun _ h => ?_) <;> try simp [-Nat.le_zero_eq] at h))
  refine wp_loopF [(6, 6), (8, 9), (24, 37)] (fun (i : Nat) env H => env 8 = .pure (.int .i64 i) ∧ i ≤ l.xs.length ∧ Hide (∀ j (h : j < l.xs.length), j < i → sightR l.xs[j] = true)) (fun i => l.xs.length - i) 0 ?_ ?_ ?_ ?_
  · decide
  · exact ⟨by simp, by omega, ⟨fun j _ h => by omega⟩⟩
  · simp only [loopFuel]; omega
  rintro i env H ⟨g0, hi, hall⟩
  have hfit : i < 9223372036854775807 := by omega
  by_cases hlt : i < l.xs.length
  · have hck : ∀ H, doCall (calleeOf G (n + 4)) H (.pure (.func 91 [])) [.pure (.agg l.xs[i].cells)] = some (.val (.pure (.int .i64 (if sightR l.xs[i] = true then 0 else 1)))) := fun H =>
      d91 n H _ _ _ _ _ _ _ _ _ (by have := hl'.h _ (List.getElem_mem hlt); show l.xs[i].letters.length < _; omega)
    simp only [Sight.cells] at hck
    cases hr : sightR l.xs[i] with
    | true =>
      rw [hr, if_pos rfl] at hck
      have hn : Hide (∀ j (h : j < l.xs.length), j < i + 1 → sightR l.xs[j] = true) := ⟨fun j h hj => by
        by_cases e : j = i
        · subst e; exact hr
        · exact hall.h j h (by omega)⟩
      clear hr hall
      (repeat' first | simp [*, initEnv] | (refine wpIf_two (fun _ h => ?_) (fun _ h => ?_) <;> try simp [-Nat.le_zero_eq] at h))
      exact ⟨i + 1, by omega, by omega, by omega, hn⟩
    | false =>
      rw [hr, if_neg (by simp)] at hck
      have hPf : P = 1 := by rw [hP.h, if_neg]; rintro ⟨h1, _⟩; rw [allL_false hlt hr] at h1; simp at h1
      clear hr hall
      (repeat' first | simp [*, initEnv] | (refine wpIf_two (fun _ h => ?_) (fun _ h => ?_) <;> try simp [-Nat.le_zero_eq] at h))
  · have hPt : Hide (P = if allL sightR m.xs = true then 0 else 1) := ⟨by
      rw [hP.h]
      have : allL sightR l.xs = true := allL_iff.2 fun a ha => by
        obtain ⟨j, hj, rfl⟩ := List.mem_iff_getElem.1 ha
        exact hall.h j hj (by omega)
      simp only [this, true_and]⟩
    clear hP hall hl'
    (repeat' first | simp [*, initEnv] | (refine wpIf_two (fun _ h => ?_) (fun _ h => ?_) <;> try simp [-Nat.le_zero_eq] at h))
    refine wp_loopF [(6, 6), (10, 11), (38, 51)] (fun (i : Nat) env H => env 10 = .pure (.int .i64 i) ∧ i ≤ m.xs.length ∧ Hide (∀ j (h : j < m.xs.length), j < i → sightR m.xs[j] = true)) (fun i => m.xs.length - i) 0 ?_ ?_ ?_ ?_
    · decide
    · exact ⟨by simp, by omega, ⟨fun j _ h => by omega⟩⟩
    · simp only [loopFuel]; omega
    clear g0 hi hfit hlt
    rintro i env H ⟨g0, hi, hall⟩
    have hfit : i < 9223372036854775807 := by omega
    by_cases hlt : i < m.xs.length
    · have hck : ∀ H, doCall (calleeOf G (n + 4)) H (.pure (.func 91 [])) [.pure (.agg m.xs[i].cells)] = some (.val (.pure (.int .i64 (if sightR m.xs[i] = true then 0 else 1)))) := fun H =>
        d91 n H _ _ _ _ _ _ _ _ _ (by have := hm'.h _ (List.getElem_mem hlt); show m.xs[i].letters.length < _; omega)
      simp only [Sight.cells] at hck
      cases hr : sightR m.xs[i] with
      | true =>
        rw [hr, if_pos rfl] at hck
        have hn : Hide (∀ j (h : j < m.xs.length), j < i + 1 → sightR m.xs[j] = true) := ⟨fun j h hj => by
          by_cases e : j = i
          · subst e; exact hr
          · exact hall.h j h (by omega)⟩
        clear hr hall
        (repeat' first | simp [*, initEnv] | (refine wpIf_two (fun _ h => ?_) (fun _ h => ?_) <;> try simp [-Nat.le_zero_eq] at h))
        exact ⟨i + 1, by omega, by omega, by omega, hn⟩
      | false =>
        rw [hr, if_neg (by simp)] at hck
        have hPf : P = 1 := by rw [hPt.h, allL_false hlt hr, if_neg (by simp)]
        clear hr hall
        (repeat' first | simp [*, initEnv] | (refine wpIf_two (fun _ h => ?_) (fun _ h => ?_) <;> try simp [-Nat.le_zero_eq] at h))
    · have hPt2 : P = 0 := by
        rw [hPt.h, if_pos]
        exact allL_iff.2 fun a ha => by
          obtain ⟨j, hj, rfl⟩ := List.mem_iff_getElem.1 ha
          exact hall.h j hj (by omega)
      (repeat' first | simp [*, initEnv] | (refine wpIf_two (fun _ h => ?_) (fun _ h => ?_) <;> try simp [-Nat.le_zero_eq] at h))
@[simp] theorem d117 (n : Nat) (H : Heap) (h_step : Int) (h_place : Int) (h_sink : Int) (l : Sl Sight) (m : Sl Sight) (hl : briefS l.xs) (hm : briefS m.xs) : doCall (calleeOf G (n + 5)) H (.pure (.func 117 [])) [.pure (.agg [.int .i64 h_step, .int .i64 h_place, .int .i64 h_sink]), .pure (l.pv Sight.cells 9), .pure (m.pv Sight.cells 9)] = some (.val (.pure ((fun (h : Habit) => .int .i64 (listE h l.xs m.xs)) (⟨h_step, h_place, h_sink⟩ : Habit)))) :=
  call_pureC (ps := [_, _, _]) (caps := []) sh117 (e117 n (⟨h_step, h_place, h_sink⟩ : Habit) l m hl hm)

/-! ### All pairs -/
def rowP (h : Habit) (a : Sight) (m : List Sight) (i : Nat) : Nat → List Pair
  | 0 => []
  | k + 1 => rowP h a m i k ++ if mayS h a m[k]! = true then [⟨i, k⟩] else []
def pairP (h : Habit) (l m : List Sight) : Nat → List Pair
  | 0 => []
  | i + 1 => pairP h l m i ++ rowP h l[i]! m i m.length
def pairsS (h : Habit) (l m : List Sight) : List Pair := pairP h l m l.length
theorem rowP_length {h : Habit} {a : Sight} {m : List Sight} {i : Nat} : ∀ k, (rowP h a m i k).length ≤ k
  | 0 => Nat.le_refl _
  | k + 1 => by
    have := rowP_length (h := h) (a := a) (m := m) (i := i) k
    rw [rowP, List.length_append]
    split <;> simp <;> omega
theorem pairP_length {h : Habit} {l m : List Sight} : ∀ i, (pairP h l m i).length ≤ i * m.length
  | 0 => Nat.zero_le _
  | i + 1 => by
    have h1 := pairP_length (h := h) (l := l) (m := m) i
    have h2 := rowP_length (h := h) (a := l[i]!) (m := m) (i := i) m.length
    rw [pairP, List.length_append, Nat.add_mul]; omega
structure Listed (h : Habit) (l m : List Sight) : Prop where
  step : 0 ≤ h.step
  l40 : l.length ≤ 40
  m40 : m.length ≤ 40
  ls : ∀ s ∈ l, sightR s = true
  ms : ∀ s ∈ m, sightR s = true
theorem listed_of {h : Habit} {l m : List Sight} (hz : listE h l m = 0) : Listed h l m := by
  unfold listE at hz
  split at hz
  · simp at hz
  · rename_i hh
    split at hz
    · simp at hz
    · split at hz
      · rename_i h1 h2
        have : habitS h = true := by simpa using hh
        simp only [habitS, inB, Bool.and_eq_true, decide_eq_true_eq] at this
        exact ⟨by omega, by omega, by omega, allL_iff.1 h2.1, allL_iff.1 h2.2⟩
      · simp at hz
theorem sight_box {s : Sight} (h : sightR s = true) : properR s.box = true ∧ s.letters.length ≤ 20 := by
  simp [sightR, patR] at h
  exact ⟨h.1.1.2, by omega⟩
end Go.Proofs.YtnomliioadjdgaaGreat.Vm

namespace Go.Proofs.YtnomliioadjdgaaGreat.Vm
open Go
set_option linter.unusedSimpArgs false
set_option linter.unusedVariables false
set_option maxHeartbeats 4000000

theorem sh67 : G.shared 67 = false := by decide
theorem e67 (n : Nat) (h : Habit) (l m : Sl Sight) (hL : Listed h l.xs m.xs) : callP G (n + 6) 67 [.agg h.cells, l.pv Sight.cells 9, m.pv Sight.cells 9] = some ((Sl.of (pairsS h l.xs m.xs)).pv Pair.cells 2) := by
  refine callP_of (ext_none _) rfl g67 rfl ?_
  have l40 := hL.l40
  have m40 := hL.m40
  have hmay : Hide (∀ H (i k : Nat) (hi : i < l.xs.length) (hk : k < m.xs.length), doCall (calleeOf G (n + 5)) H (.pure (.func 84 [])) [.pure (.agg h.cells), .pure (.agg l.xs[i].cells), .pure (.agg m.xs[k].cells)] = some (.val (.pure (.bool (mayS h l.xs[i] m.xs[k]))))) := ⟨fun H i k hi hk =>
    d84 n H _ _ _ _ _ _ _ _ _ _ _ _ _ _ _ _ _ _ _ _ _ (by rw [spanS_valid]; exact (sight_box (hL.ls _ (List.getElem_mem hi))).1) hL.step⟩
  have hst : Hide (∀ (i : Nat) (h' : i < l.xs.length), pairP h l.xs m.xs (i + 1) = pairP h l.xs m.xs i ++ rowP h l.xs[i] m.xs i m.xs.length) := ⟨fun i h' => by rw [pairP, getElem!_pos l.xs i h']⟩
  have hrs : Hide (∀ (a : Sight) (i k : Nat) (h' : k < m.xs.length), rowP h a m.xs i (k + 1) = rowP h a m.xs i k ++ if mayS h a m.xs[k] = true then [⟨i, k⟩] else []) := ⟨fun a i k h' => by rw [rowP, getElem!_pos m.xs k h']⟩
  have hpl : Hide (∀ i, i ≤ l.xs.length → (pairP h l.xs m.xs i).length ≤ 1600) := ⟨fun i hi => by
    have := pairP_length (h := h) (l := l.xs) (m := m.xs) i
    have : i * m.xs.length ≤ 40 * 40 := Nat.mul_le_mul (by omega) m40
    omega⟩
  have hrl : Hide (∀ (a : Sight) (i k : Nat), (rowP h a m.xs i k).length ≤ k) := ⟨fun a i k => rowP_length k⟩
  have h0 : pairP h l.xs m.xs 0 = [] := rfl
  have hr0 : Hide (∀ (a : Sight) (i : Nat), rowP h a m.xs i 0 = []) := ⟨fun _ _ => rfl⟩
  have hend : pairsS h l.xs m.xs = pairP h l.xs m.xs l.xs.length := rfl
  rw [hend]
  clear hend hL
  generalize hPP : pairP h l.xs m.xs = PP at *
  clear hPP
  (repeat' first | simp [*, initEnv, c67] | (refine wpIf_two (fun _ h => ?_) (fun _ h => ?_) <;> try simp [-Nat.le_zero_eq] at h) | (apply wpE_appendV; (focus (first | assumption | (repeat' first | assumption | with_reducible apply GrowV.setNew | with_reducible apply GrowV.alloc | with_reducible apply GrowV.set | (with_reducible show ¬ Names _ _; simp [*]; done)))); (focus (exact fun _ => rfl)); (focus decide); (focus (intro a; first | rfl | simp)); (focus (simp [maxCells] <;> omega))) | (refine after_intro fun v2 H2 hv2 hnx2 hget2 hnew2 hone2 hcel2 => ?_))
  refine wp_loopF [(7, 11), (14, 37)] (fun (i : Nat) env H => env 14 = .pure (.int .i64 i) ∧ GrowV Pair.cells 2 H (env 7) (PP i) ∧ i ≤ l.xs.length) (fun i => l.xs.length - i) 0 ?_ ?_ ?_ ?_
  · decide
  · exact ⟨by simp, by simpa [h0] using GrowV.nil, by omega⟩
  · simp only [loopFuel]; omega
  rintro i env H ⟨g0, g7, hi⟩
  have hfit : i < 9223372036854775807 := by omega
  by_cases hlt : i < l.xs.length
  · have hpl1 := hpl.h i hi
    have hst1 : Hide _ := ⟨hst.h i hlt⟩
    have hm1 : Hide (∀ H (k : Nat) (hk : k < m.xs.length), doCall (calleeOf G (n + 5)) H (.pure (.func 84 [])) [.pure (.agg h.cells), .pure (.agg l.xs[i].cells), .pure (.agg m.xs[k].cells)] = some (.val (.pure (.bool (mayS h l.xs[i] m.xs[k]))))) := ⟨fun H k hk => hmay.h H i k hlt hk⟩
    have a1 := addrV_sl (f := Sight.cells) (sz := 9) (k := .i64) (s := l) (n := i) hlt
    simp only [Sight.cells] at a1
    obtain ⟨a, ha⟩ : ∃ a, a = l.xs[i] := ⟨_, rfl⟩
    rw [← ha] at hst1 hm1 a1
    have g7n := g7
    clear ha hst hmay
    have hnn : ¬ Names (env 7) H.nx := g7.1.fresh _ (Nat.le_refl _)
    (repeat' first | simp [*, initEnv] | (refine wpIf_two (fun _ h => ?_) (fun _ h => ?_) <;> try simp [-Nat.le_zero_eq] at h) | (apply wpE_appendV; (focus (first | assumption | (repeat' first | assumption | with_reducible apply GrowV.setNew | with_reducible apply GrowV.alloc | with_reducible apply GrowV.set | (with_reducible show ¬ Names _ _; simp [*]; done)))); (focus (exact fun _ => rfl)); (focus decide); (focus (intro a; first | rfl | simp)); (focus (simp [maxCells] <;> omega))) | (refine after_intro fun v2 H2 hv2 hnx2 hget2 hnew2 hone2 hcel2 => ?_))
    refine wp_loopF [(7, 7), (10, 11), (21, 36)] (fun (k : Nat) env H3 => env 21 = .pure (.int .i64 k) ∧ k ≤ m.xs.length ∧ GrowV Pair.cells 2 H3 (env 7) (PP i ++ rowP h a m.xs i k) ∧ H3.get H.nx = .cells true (a.cells.map .pure) ∧ ¬ Names (env 7) H.nx) (fun k => m.xs.length - k) 0 ?_ ?_ ?_ ?_
    · decide
    · refine ⟨by simp, by omega, ?_, by simp [Sight.cells], ?_⟩
      · rw [hr0.h, List.append_nil]
        first | exact (g7.alloc _).set hnn _ | (simp; exact (g7.alloc _).set hnn _) | simpa using (g7.alloc _).set hnn _
      · simpa using hnn
    · simp only [loopFuel]; omega
    obtain ⟨bx, hbx⟩ : ∃ bx, bx = H.nx := ⟨_, rfl⟩
    rw [← hbx]
    clear g7 g7n hnn hbx
    rintro k env3 H3 ⟨k0, hk, k7, kb, kn⟩
    have hfk : k < 9223372036854775807 := by omega
    by_cases hlk : k < m.xs.length
    · have hm2 := fun H => hm1.h H k hlk
      have hrs1 : Hide _ := ⟨hrs.h a i k hlk⟩
      have hrl1 := hrl.h a i k
      have a2 := addrV_sl (f := Sight.cells) (sz := 9) (k := .i64) (s := m) (n := k) hlk
      have hln : (PP i ++ rowP h a m.xs i k).length ≤ 2000 := by rw [List.length_append]; omega
      simp only [Sight.cells] at a2 hm2 kb
      simp only [Habit.cells] at hm2
      generalize m.xs[k] = c at *
      have kbl := nx_of_get kb
      obtain ⟨R, hR⟩ : ∃ R, R = PP i ++ rowP h a m.xs i k := ⟨_, rfl⟩
      rw [← hR] at k7 hln
      have hR' : Hide _ := ⟨hR⟩
      clear hR hrl1 a1 hrl hr0 hpl hst1
      cases hy : mayS h a c with
      | true =>
        rw [hy] at hm2 hrs1
        have hend : Hide (R ++ [(⟨i, k⟩ : Pair)] = PP i ++ rowP h a m.xs i (k + 1)) := ⟨by rw [hrs1.h, if_pos rfl, hR'.h, List.append_assoc]⟩
        have bxn : ¬ (H3.nx = bx) := by omega
        have bxn2 : ¬ (bx = H3.nx) := by omega
        clear hy hrs1 hR'
        (repeat' first | simp [*, initEnv] | (refine wpIf_two (fun _ h => ?_) (fun _ h => ?_) <;> try simp [-Nat.le_zero_eq] at h) | (apply wpE_appendV; (focus (first | assumption | (repeat' first | assumption | with_reducible apply GrowV.setNew | with_reducible apply GrowV.alloc | with_reducible apply GrowV.set | (with_reducible show ¬ Names _ _; simp [*]; done)))); (focus (exact fun _ => rfl)); (focus decide); (focus (intro a; first | rfl | simp)); (focus (simp [maxCells] <;> omega))) | (refine after_intro fun v2 H2 hv2 hnx2 hget2 hnew2 hone2 hcel2 => ?_))
        refine ⟨k + 1, by omega, by omega, by omega, hv2.cast (by rw [← hend.h]), ?_, ?_⟩
        · rw [hget2 bx (by show bx < H3.nx + 1 + 1; omega) kn, get_alloc_lt (by show bx < H3.nx + 1; omega), get_set_ne bxn2, get_alloc_lt kbl]; exact kb
        · intro hn
          have h3 : H3.nx + 1 + 1 ≤ bx := hnew2 _ hn
          omega
      | false =>
        rw [hy] at hm2 hrs1
        have hend : Hide (R = PP i ++ rowP h a m.xs i (k + 1)) := ⟨by rw [hrs1.h, if_neg (by simp), hR'.h, List.append_nil]⟩
        have bxn : ¬ (H3.nx = bx) := by omega
        have bxn2 : ¬ (bx = H3.nx) := by omega
        clear hy hrs1 hR'
        (repeat' first | simp [*, initEnv] | (refine wpIf_two (fun _ h => ?_) (fun _ h => ?_) <;> try simp [-Nat.le_zero_eq] at h) | (apply wpE_appendV; (focus (first | assumption | (repeat' first | assumption | with_reducible apply GrowV.setNew | with_reducible apply GrowV.alloc | with_reducible apply GrowV.set | (with_reducible show ¬ Names _ _; simp [*]; done)))); (focus (exact fun _ => rfl)); (focus decide); (focus (intro a; first | rfl | simp)); (focus (simp [maxCells] <;> omega))) | (refine after_intro fun v2 H2 hv2 hnx2 hget2 hnew2 hone2 hcel2 => ?_))
        exact ⟨k + 1, by omega, by omega, by omega, by rw [← hend.h]; exact k7.setNew _ _⟩
    · have hn : k = m.xs.length := by omega
      rw [hn] at k7
      (repeat' first | simp [*, initEnv] | (refine wpIf_two (fun _ h => ?_) (fun _ h => ?_) <;> try simp [-Nat.le_zero_eq] at h) | (apply wpE_appendV; (focus (first | assumption | (repeat' first | assumption | with_reducible apply GrowV.setNew | with_reducible apply GrowV.alloc | with_reducible apply GrowV.set | (with_reducible show ¬ Names _ _; simp [*]; done)))); (focus (exact fun _ => rfl)); (focus decide); (focus (intro a; first | rfl | simp)); (focus (simp [maxCells] <;> omega))) | (refine after_intro fun v2 H2 hv2 hnx2 hget2 hnew2 hone2 hcel2 => ?_))
      exact ⟨i + 1, by omega, by omega, k7.cast (by rw [hst1.h]), by omega⟩
  · have hn : i = l.xs.length := by omega
    rw [hn] at g7
    obtain ⟨ids, hids⟩ := g7.res (n := 10) (fun _ => rfl)
    (repeat' first | simp [*, initEnv] | (refine wpIf_two (fun _ h => ?_) (fun _ h => ?_) <;> try simp [-Nat.le_zero_eq] at h) | (apply wpE_appendV; (focus (first | assumption | (repeat' first | assumption | with_reducible apply GrowV.setNew | with_reducible apply GrowV.alloc | with_reducible apply GrowV.set | (with_reducible show ¬ Names _ _; simp [*]; done)))); (focus (exact fun _ => rfl)); (focus decide); (focus (intro a; first | rfl | simp)); (focus (simp [maxCells] <;> omega))) | (refine after_intro fun v2 H2 hv2 hnx2 hget2 hnew2 hone2 hcel2 => ?_))
    exact ⟨ids, hids⟩
@[simp] theorem d67 (n : Nat) (H : Heap) (h_step : Int) (h_place : Int) (h_sink : Int) (l : Sl Sight) (m : Sl Sight) (hL : (fun (h : Habit) => Listed h l.xs m.xs) (⟨h_step, h_place, h_sink⟩ : Habit)) : doCall (calleeOf G (n + 6)) H (.pure (.func 67 [])) [.pure (.agg [.int .i64 h_step, .int .i64 h_place, .int .i64 h_sink]), .pure (l.pv Sight.cells 9), .pure (m.pv Sight.cells 9)] = some (.val (.pure ((fun (h : Habit) => (Sl.of (pairsS h l.xs m.xs)).pv Pair.cells 2) (⟨h_step, h_place, h_sink⟩ : Habit)))) :=
  call_pureC (ps := [_, _, _]) (caps := []) sh67 (e67 n (⟨h_step, h_place, h_sink⟩ : Habit) l m hL)
theorem sh72 : G.shared 72 = false := by decide
theorem e72 (n : Nat) (h : Habit) (l m : Sl Sight) (hl : briefS l.xs) (hm : briefS m.xs) : callP G (n + 6) 72 [.agg h.cells, l.pv Sight.cells 9, m.pv Sight.cells 9] = some (.agg (if listE h l.xs m.xs = 0 then [(Sl.of (pairsS h l.xs m.xs)).pv Pair.cells 2, .int .i64 0] else [.nils, .int .i64 (listE h l.xs m.xs)])) := by
  refine callP_of (ext_none _) rfl g72 rfl ?_
  have hck : ∀ H, doCall (calleeOf G (n + 5)) H (.pure (.func 117 [])) [.pure (.agg h.cells), .pure (l.pv Sight.cells 9), .pure (m.pv Sight.cells 9)] = some (.val (.pure (.int .i64 (listE h l.xs m.xs)))) := fun H => d117 n H _ _ _ l m hl hm
  simp only [Habit.cells] at hck
  by_cases hz : listE h l.xs m.xs = 0
  case neg =>
    generalize listE h l.xs m.xs = e at *
    (repeat' first | simp [*, initEnv, c72] | (refine wpIf_two (fun _ h => ?_) (fun _ h => ?_) <;> try simp [-Nat.le_zero_eq] at h) | (apply wpE_appendV; (focus (first | assumption | (repeat' first | assumption | with_reducible apply GrowV.setNew | with_reducible apply GrowV.alloc | with_reducible apply GrowV.set | (with_reducible show ¬ Names _ _; simp [*]; done)))); (focus (exact fun _ => rfl)); (focus decide); (focus (intro a; first | rfl | simp)); (focus (simp [maxCells] <;> omega))) | (refine after_intro fun v2 H2 hv2 hnx2 hget2 hnew2 hone2 hcel2 => ?_))
  have hL := listed_of hz
  rw [hz] at hck
  rw [if_pos hz]
  clear hz hl hm
  have l40 := hL.l40
  have m40 := hL.m40
  have hmay : Hide (∀ H (i k : Nat) (hi : i < l.xs.length) (hk : k < m.xs.length), doCall (calleeOf G (n + 5)) H (.pure (.func 118 [])) [.pure (.agg h.cells), .pure (.agg l.xs[i].cells), .pure (.agg m.xs[k].cells)] = some (.val (.pure (.bool (mayS h l.xs[i] m.xs[k]))))) := ⟨fun H i k hi hk =>
    d118 n H _ _ _ _ _ _ _ _ _ _ _ _ _ _ _ _ _ _ _ _ _ (sight_box (hL.ls _ (List.getElem_mem hi))).1 hL.step (sight_box (hL.ls _ (List.getElem_mem hi))).2 (sight_box (hL.ms _ (List.getElem_mem hk))).2⟩
  have hst : Hide (∀ (i : Nat) (h' : i < l.xs.length), pairP h l.xs m.xs (i + 1) = pairP h l.xs m.xs i ++ rowP h l.xs[i] m.xs i m.xs.length) := ⟨fun i h' => by rw [pairP, getElem!_pos l.xs i h']⟩
  have hrs : Hide (∀ (a : Sight) (i k : Nat) (h' : k < m.xs.length), rowP h a m.xs i (k + 1) = rowP h a m.xs i k ++ if mayS h a m.xs[k] = true then [⟨i, k⟩] else []) := ⟨fun a i k h' => by rw [rowP, getElem!_pos m.xs k h']⟩
  have hpl : Hide (∀ i, i ≤ l.xs.length → (pairP h l.xs m.xs i).length ≤ 1600) := ⟨fun i hi => by
    have := pairP_length (h := h) (l := l.xs) (m := m.xs) i
    have : i * m.xs.length ≤ 40 * 40 := Nat.mul_le_mul (by omega) m40
    omega⟩
  have hrl : Hide (∀ (a : Sight) (i k : Nat), (rowP h a m.xs i k).length ≤ k) := ⟨fun a i k => rowP_length k⟩
  have h0 : pairP h l.xs m.xs 0 = [] := rfl
  have hr0 : Hide (∀ (a : Sight) (i : Nat), rowP h a m.xs i 0 = []) := ⟨fun _ _ => rfl⟩
  have hend : pairsS h l.xs m.xs = pairP h l.xs m.xs l.xs.length := rfl
  rw [hend]
  clear hend hL
  generalize hPP : pairP h l.xs m.xs = PP at *
  clear hPP
  (repeat' first | simp [*, initEnv, c72] | (refine wpIf_two (fun _ h => ?_) (fun _ h => ?_) <;> try simp [-Nat.le_zero_eq] at h) | (apply wpE_appendV; (focus (first | assumption | (repeat' first | assumption | with_reducible apply GrowV.setNew | with_reducible apply GrowV.alloc | with_reducible apply GrowV.set | (with_reducible show ¬ Names _ _; simp [*]; done)))); (focus (exact fun _ => rfl)); (focus decide); (focus (intro a; first | rfl | simp)); (focus (simp [maxCells] <;> omega))) | (refine after_intro fun v2 H2 hv2 hnx2 hget2 hnew2 hone2 hcel2 => ?_))
  refine wp_loopF [(8, 11), (20, 48)] (fun (i : Nat) env H => env 9 = .pure (.int .i64 i) ∧ GrowV Pair.cells 2 H (env 8) (PP i) ∧ H.get 0 = .cells true [.pure .nils, .pure (.int .i64 0)] ∧ ¬ Names (env 8) 0 ∧ i ≤ l.xs.length) (fun i => l.xs.length - i) 0 ?_ ?_ ?_ ?_
  · decide
  · exact ⟨by simp, by simpa [h0] using GrowV.nil, by simp, by rintro ⟨_, _, _, h⟩; simp at h, by omega⟩
  · simp only [loopFuel]; omega
  rintro i env H ⟨g0, g8, gz, gn, hi⟩
  have hfit : i < 9223372036854775807 := by omega
  by_cases hlt : i < l.xs.length
  · have hpl1 := hpl.h i hi
    have hst1 : Hide _ := ⟨hst.h i hlt⟩
    have hm1 : Hide (∀ H (k : Nat) (hk : k < m.xs.length), doCall (calleeOf G (n + 5)) H (.pure (.func 118 [])) [.pure (.agg h.cells), .pure (.agg l.xs[i].cells), .pure (.agg m.xs[k].cells)] = some (.val (.pure (.bool (mayS h l.xs[i] m.xs[k]))))) := ⟨fun H k hk => hmay.h H i k hlt hk⟩
    have a1 := addrV_sl (f := Sight.cells) (sz := 9) (k := .i64) (s := l) (n := i) hlt
    simp only [Sight.cells] at a1
    obtain ⟨a, ha⟩ : ∃ a, a = l.xs[i] := ⟨_, rfl⟩
    rw [← ha] at hst1 hm1 a1
    clear ha hst hmay hck
    (repeat' first | simp [*, initEnv] | (refine wpIf_two (fun _ h => ?_) (fun _ h => ?_) <;> try simp [-Nat.le_zero_eq] at h) | (apply wpE_appendV; (focus (first | assumption | (repeat' first | assumption | with_reducible apply GrowV.setNew | with_reducible apply GrowV.alloc | with_reducible apply GrowV.set | (with_reducible show ¬ Names _ _; simp [*]; done)))); (focus (exact fun _ => rfl)); (focus decide); (focus (intro a; first | rfl | simp)); (focus (simp [maxCells] <;> omega))) | (refine after_intro fun v2 H2 hv2 hnx2 hget2 hnew2 hone2 hcel2 => ?_))
    refine wp_loopF [(8, 8), (10, 11), (26, 48)] (fun (k : Nat) env H3 => env 10 = .pure (.int .i64 k) ∧ k ≤ m.xs.length ∧ GrowV Pair.cells 2 H3 (env 8) (PP i ++ rowP h a m.xs i k) ∧ H3.get 0 = .cells true [.pure .nils, .pure (.int .i64 0)] ∧ ¬ Names (env 8) 0) (fun k => m.xs.length - k) 0 ?_ ?_ ?_ ?_
    · decide
    · refine ⟨by simp, by omega, ?_, by simpa using gz, by simpa using gn⟩
      rw [hr0.h, List.append_nil]
      simpa using g8
    · simp only [loopFuel]; omega
    clear g8 gz gn
    rintro k env3 H3 ⟨k0, hk, k8, kb, kn⟩
    have hfk : k < 9223372036854775807 := by omega
    by_cases hlk : k < m.xs.length
    · have hm2 := fun H => hm1.h H k hlk
      have hrs1 : Hide _ := ⟨hrs.h a i k hlk⟩
      have hrl1 := hrl.h a i k
      have a2 := addrV_sl (f := Sight.cells) (sz := 9) (k := .i64) (s := m) (n := k) hlk
      have hln : (PP i ++ rowP h a m.xs i k).length ≤ 2000 := by rw [List.length_append]; omega
      simp only [Sight.cells] at a2 hm2
      simp only [Habit.cells] at hm2
      generalize m.xs[k] = c at *
      have kbl := nx_of_get kb
      obtain ⟨R, hR⟩ : ∃ R, R = PP i ++ rowP h a m.xs i k := ⟨_, rfl⟩
      rw [← hR] at k8 hln
      have hR' : Hide _ := ⟨hR⟩
      clear hR hrl1 hrl hr0 hpl hst1
      cases hy : mayS h a c with
      | true =>
        rw [hy] at hm2 hrs1
        have hend : Hide (R ++ [(⟨i, k⟩ : Pair)] = PP i ++ rowP h a m.xs i (k + 1)) := ⟨by rw [hrs1.h, if_pos rfl, hR'.h, List.append_assoc]⟩
        clear hy hrs1 hR'
        (repeat' first | simp [*, initEnv] | (refine wpIf_two (fun _ h => ?_) (fun _ h => ?_) <;> try simp [-Nat.le_zero_eq] at h) | (apply wpE_appendV; (focus (first | assumption | (repeat' first | assumption | with_reducible apply GrowV.setNew | with_reducible apply GrowV.alloc | with_reducible apply GrowV.set | (with_reducible show ¬ Names _ _; simp [*]; done)))); (focus (exact fun _ => rfl)); (focus decide); (focus (intro a; first | rfl | simp)); (focus (simp [maxCells] <;> omega))) | (refine after_intro fun v2 H2 hv2 hnx2 hget2 hnew2 hone2 hcel2 => ?_))
        refine ⟨k + 1, by omega, by omega, by omega, hv2.cast (by rw [← hend.h]), ?_⟩
        intro hn
        have h3 : H3.nx + 1 ≤ 0 := hnew2 _ hn
        omega
      | false =>
        rw [hy] at hm2 hrs1
        have hend : Hide (R = PP i ++ rowP h a m.xs i (k + 1)) := ⟨by rw [hrs1.h, if_neg (by simp), hR'.h, List.append_nil]⟩
        clear hy hrs1 hR'
        (repeat' first | simp [*, initEnv] | (refine wpIf_two (fun _ h => ?_) (fun _ h => ?_) <;> try simp [-Nat.le_zero_eq] at h) | (apply wpE_appendV; (focus (first | assumption | (repeat' first | assumption | with_reducible apply GrowV.setNew | with_reducible apply GrowV.alloc | with_reducible apply GrowV.set | (with_reducible show ¬ Names _ _; simp [*]; done)))); (focus (exact fun _ => rfl)); (focus decide); (focus (intro a; first | rfl | simp)); (focus (simp [maxCells] <;> omega))) | (refine after_intro fun v2 H2 hv2 hnx2 hget2 hnew2 hone2 hcel2 => ?_))
        exact ⟨k + 1, by omega, by omega, by omega, by rw [← hend.h]; exact k8⟩
    · have hn : k = m.xs.length := by omega
      rw [hn] at k8
      (repeat' first | simp [*, initEnv] | (refine wpIf_two (fun _ h => ?_) (fun _ h => ?_) <;> try simp [-Nat.le_zero_eq] at h) | (apply wpE_appendV; (focus (first | assumption | (repeat' first | assumption | with_reducible apply GrowV.setNew | with_reducible apply GrowV.alloc | with_reducible apply GrowV.set | (with_reducible show ¬ Names _ _; simp [*]; done)))); (focus (exact fun _ => rfl)); (focus decide); (focus (intro a; first | rfl | simp)); (focus (simp [maxCells] <;> omega))) | (refine after_intro fun v2 H2 hv2 hnx2 hget2 hnew2 hone2 hcel2 => ?_))
      exact ⟨i + 1, by omega, by omega, k8.cast (by rw [hst1.h]), by omega⟩
  · have hn : i = l.xs.length := by omega
    rw [hn] at g8
    have hres := (g8.set gn (.cells true [env 8, .pure (.int .i64 0)])).res (n := 9) (fun _ => rfl)
    have hfr := FrzK.aggV (n := 11) (.cons hres (.cons (.pure (n := 10) (.int .i64 0)) .nil))
    have hfr' : Hide _ := ⟨hfr⟩
    clear hres hfr
    have h1c := g8.1.one
    clear hck
    (repeat' first | simp [*, initEnv] | (refine wpIf_two (fun _ h => ?_) (fun _ h => ?_) <;> try simp [-Nat.le_zero_eq] at h) | (apply wpE_appendV; (focus (first | assumption | (repeat' first | assumption | with_reducible apply GrowV.setNew | with_reducible apply GrowV.alloc | with_reducible apply GrowV.set | (with_reducible show ¬ Names _ _; simp [*]; done)))); (focus (exact fun _ => rfl)); (focus decide); (focus (intro a; first | rfl | simp)); (focus (simp [maxCells] <;> omega))) | (refine after_intro fun v2 H2 hv2 hnx2 hget2 hnew2 hone2 hcel2 => ?_))
    rw [get_set_same (nx_of_get gz)]
    obtain ⟨ids, hids⟩ := hfr'.h
    exact ⟨_, rfl, ids, hids⟩
@[simp] theorem d72 (n : Nat) (H : Heap) (h_step : Int) (h_place : Int) (h_sink : Int) (l : Sl Sight) (m : Sl Sight) (hl : briefS l.xs) (hm : briefS m.xs) : doCall (calleeOf G (n + 6)) H (.pure (.func 72 [])) [.pure (.agg [.int .i64 h_step, .int .i64 h_place, .int .i64 h_sink]), .pure (l.pv Sight.cells 9), .pure (m.pv Sight.cells 9)] = some (.val (.pure ((fun (h : Habit) => .agg (if listE h l.xs m.xs = 0 then [(Sl.of (pairsS h l.xs m.xs)).pv Pair.cells 2, .int .i64 0] else [.nils, .int .i64 (listE h l.xs m.xs)])) (⟨h_step, h_place, h_sink⟩ : Habit)))) :=
  call_pureC (ps := [_, _, _]) (caps := []) sh72 (e72 n (⟨h_step, h_place, h_sink⟩ : Habit) l m hl hm)

/-! ### Lists of numbers -/
theorem sh116 : G.shared 116 = false := by decide
theorem e116 (n : Nat) (l : Sl Int) (x : Int) (hl : l.xs.length < 1000) (P : Bool) (hP : P = true ↔ x ∈ l.xs) : callP G (n + 1) 116 [l.pv intF 1, .int .i64 x] = some (.int .i64 (if P = true then ((l.xs.idxOf x : Nat) : Int) else -1)) := by
  refine callP_of (ext_none _) rfl g116 rfl ?_
  have hfst : Hide (∀ i (h : i < l.xs.length), l.xs[i] = x → (∀ j (h' : j < l.xs.length), j < i → l.xs[j] ≠ x) → P = true ∧ l.xs.idxOf x = i) := ⟨fun i h he hn => by
    refine ⟨hP.2 (he ▸ List.getElem_mem h), ?_⟩
    have hm : x ∈ l.xs := he ▸ List.getElem_mem h
    have h1 := List.idxOf_lt_length_of_mem hm
    have h2 : l.xs[l.xs.idxOf x] = x := List.getElem_idxOf h1
    rcases Nat.lt_trichotomy (l.xs.idxOf x) i with h3 | h3 | h3
    · exact absurd h2 (hn _ h1 h3)
    · exact h3
    · exfalso
      have h4 := List.not_of_lt_findIdx (p := (· == x)) (xs := l.xs) (i := i) h3
      simp at h4
      exact h4 he⟩
  have hnon : Hide ((∀ j (h' : j < l.xs.length), l.xs[j] ≠ x) → P = false) := ⟨fun hn => by
    rw [Bool.eq_false_iff]
    intro h
    obtain ⟨j, hj, he⟩ := List.mem_iff_getElem.1 (hP.1 h)
    exact hn j hj he⟩
  generalize l.xs.idxOf x = q at *
  clear hP
  (repeat' first | simp [*, initEnv, c116] | (refine wpIf_two (fun _ h => ?_) (fun _ h => ?_) <;> try simp [-Nat.le_zero_eq] at h))
  refine wp_loopF [(4, 5), (8, 18)] (fun (i : Nat) env H => env 8 = .pure (.int .i64 i) ∧ i ≤ l.xs.length ∧ Hide (∀ j (h' : j < l.xs.length), j < i → l.xs[j] ≠ x)) (fun i => l.xs.length - i) 0 ?_ ?_ ?_ ?_
  · decide
  · exact ⟨by simp, by omega, ⟨fun _ _ h => by omega⟩⟩
  · simp only [loopFuel]; omega
  rintro i env H ⟨g0, hi, hn⟩
  have hfit : i < 9223372036854775807 := by omega
  by_cases hlt : i < l.xs.length
  · have a1 := addrV_sl (f := intF) (sz := 1) (k := .i64) (s := l) (n := i) hlt
    by_cases he : l.xs[i] = x
    · obtain ⟨h1, h2⟩ := hfst.h i hlt he hn.h
      have he' : Hide _ := ⟨he⟩
      clear hfst hnon hn
      (repeat' first | simp [*, initEnv] | (refine wpIf_two (fun _ h => ?_) (fun _ h => ?_) <;> try simp [-Nat.le_zero_eq] at h))
    · have hn' : Hide (∀ j (h' : j < l.xs.length), j < i + 1 → l.xs[j] ≠ x) := ⟨fun j h' hj => by
        by_cases e : j = i
        · subst e; exact he
        · exact hn.h j h' (by omega)⟩
      have he' : ¬ x = l.xs[i] := fun e => he e.symm
      clear hfst hnon hn
      (repeat' first | simp [*, initEnv] | (refine wpIf_two (fun _ h => ?_) (fun _ h => ?_) <;> try simp [-Nat.le_zero_eq] at h))
      exact ⟨i + 1, by omega, by omega, by omega, hn'⟩
  · have h1 := hnon.h (fun j h' => hn.h j h' (by omega))
    clear hfst hnon hn
    (repeat' first | simp [*, initEnv] | (refine wpIf_two (fun _ h => ?_) (fun _ h => ?_) <;> try simp [-Nat.le_zero_eq] at h))
@[simp] theorem d116 (n : Nat) (H : Heap) (l : Sl Int) (x : Int) (hl : l.xs.length < 1000) (P : Bool) (hP : P = true ↔ x ∈ l.xs) : doCall (calleeOf G (n + 1)) H (.pure (.func 116 [])) [.pure (l.pv intF 1), .pure (.int .i64 x)] = some (.val (.pure (.int .i64 (if P = true then ((l.xs.idxOf x : Nat) : Int) else -1)))) :=
  call_pureC (ps := [_, _]) (caps := []) sh116 (e116 n l x hl P hP)
theorem sh69 : G.shared 69 = false := by decide
theorem e69 (n : Nat) (l : Sl Int) (x : Int) (hl : l.xs.length < 1000) : callP G (n + 2) 69 [l.pv intF 1, .int .i64 x] = some (.bool (decide (x ∈ l.xs))) := by
  refine callP_of (ext_none _) rfl g69 rfl ?_
  have h1 : ∀ H, doCall (calleeOf G (n + 1)) H (.pure (.func 116 [])) [.pure (l.pv intF 1), .pure (.int .i64 x)] = some (.val (.pure (.int .i64 (if decide (x ∈ l.xs) = true then ((l.xs.idxOf x : Nat) : Int) else -1)))) := fun H => d116 n H l x hl (decide (x ∈ l.xs)) (by simp)
  generalize l.xs.idxOf x = q at *
  generalize decide (x ∈ l.xs) = P at *
  cases P
  · simp only [Bool.false_eq_true, if_false] at h1
    (repeat' first | simp [*, initEnv, c69] | (refine wpIf_two (fun _ h => ?_) (fun _ h => ?_) <;> try simp [-Nat.le_zero_eq] at h))
  · simp only [if_true] at h1
    have hq : (0 : Int) ≤ (q : Int) := by omega
    (repeat' first | simp [*, initEnv, c69] | (refine wpIf_two (fun _ h => ?_) (fun _ h => ?_) <;> try simp [-Nat.le_zero_eq] at h))
@[simp] theorem d69 (n : Nat) (H : Heap) (l : Sl Int) (x : Int) (hl : l.xs.length < 1000) : doCall (calleeOf G (n + 2)) H (.pure (.func 69 [])) [.pure (l.pv intF 1), .pure (.int .i64 x)] = some (.val (.pure (.bool (decide (x ∈ l.xs))))) :=
  call_pureC (ps := [_, _]) (caps := []) sh69 (e69 n l x hl)
theorem sh75 : G.shared 75 = false := by decide
theorem e75 (n : Nat) (l : Sl Int) (x : Int) (hl : l.xs.length < 1000) : callP G (n + 1) 75 [l.pv intF 1, .int .i64 x] = some (.bool (decide (x ∈ l.xs))) := by
  refine callP_of (ext_none _) rfl g75 rfl ?_
  have hyes : Hide (∀ i (h : i < l.xs.length), l.xs[i] = x → decide (x ∈ l.xs) = true) := ⟨fun i h he => by simp; exact he ▸ List.getElem_mem h⟩
  have hnon : Hide ((∀ j (h' : j < l.xs.length), l.xs[j] ≠ x) → decide (x ∈ l.xs) = false) := ⟨fun hn => by
    rw [Bool.eq_false_iff]
    intro h
    obtain ⟨j, hj, he⟩ := List.mem_iff_getElem.1 (by simpa using h)
    exact hn j hj he⟩
  generalize decide (x ∈ l.xs) = P at *
  (repeat' first | simp [*, initEnv, c75] | (refine wpIf_two (fun _ h => ?_) (fun _ h => ?_) <;> try simp [-Nat.le_zero_eq] at h))
  refine wp_loopF [(4, 17)] (fun (i : Nat) env H => env 5 = .pure (.int .i64 i) ∧ i ≤ l.xs.length ∧ Hide (∀ j (h' : j < l.xs.length), j < i → l.xs[j] ≠ x)) (fun i => l.xs.length - i) 0 ?_ ?_ ?_ ?_
  · decide
  · exact ⟨by simp, by omega, ⟨fun _ _ h => by omega⟩⟩
  · simp only [loopFuel]; omega
  rintro i env H ⟨g0, hi, hn⟩
  have hfit : i < 9223372036854775807 := by omega
  by_cases hlt : i < l.xs.length
  · have a1 := addrV_sl (f := intF) (sz := 1) (k := .i64) (s := l) (n := i) hlt
    by_cases he : l.xs[i] = x
    · have h1 := hyes.h i hlt he
      clear hyes hnon hn
      (repeat' first | simp [*, initEnv] | (refine wpIf_two (fun _ h => ?_) (fun _ h => ?_) <;> try simp [-Nat.le_zero_eq] at h))
    · have hn' : Hide (∀ j (h' : j < l.xs.length), j < i + 1 → l.xs[j] ≠ x) := ⟨fun j h' hj => by
        by_cases e : j = i
        · subst e; exact he
        · exact hn.h j h' (by omega)⟩
      clear hyes hnon hn
      (repeat' first | simp [*, initEnv] | (refine wpIf_two (fun _ h => ?_) (fun _ h => ?_) <;> try simp [-Nat.le_zero_eq] at h))
      exact ⟨i + 1, by omega, by omega, by omega, hn'⟩
  · have h1 := hnon.h (fun j h' => hn.h j h' (by omega))
    clear hyes hnon hn
    (repeat' first | simp [*, initEnv] | (refine wpIf_two (fun _ h => ?_) (fun _ h => ?_) <;> try simp [-Nat.le_zero_eq] at h))
@[simp] theorem d75 (n : Nat) (H : Heap) (l : Sl Int) (x : Int) (hl : l.xs.length < 1000) : doCall (calleeOf G (n + 1)) H (.pure (.func 75 [])) [.pure (l.pv intF 1), .pure (.int .i64 x)] = some (.val (.pure (.bool (decide (x ∈ l.xs))))) :=
  call_pureC (ps := [_, _]) (caps := []) sh75 (e75 n l x hl)
end Go.Proofs.YtnomliioadjdgaaGreat.Vm

namespace Go.Proofs.YtnomliioadjdgaaGreat.Vm
open Go
set_option linter.unusedSimpArgs false
set_option linter.unusedVariables false
set_option maxHeartbeats 4000000

theorem boolOf (p : Prop) : ∃ P : Bool, P = true ↔ p := by
  by_cases h : p
  · exact ⟨true, by simp [h]⟩
  · exact ⟨false, by simp [h]⟩
theorem Pair.ext_iff' {p q : Pair} : p = q ↔ p.one = q.one ∧ p.two = q.two := by
  cases p; cases q; simp
def firstAt (l : List Pair) (x : Pair) (P : Bool) (q : Int) : Prop := (∀ i (h : i < l.length), l[i] = x → (∀ j (h' : j < l.length), j < i → l[j] ≠ x) → q = i) ∧ (P = false → q = -1)
theorem sh115 : G.shared 115 = false := by decide
theorem e115 (n : Nat) (l : Sl Pair) (x : Pair) (hl : l.xs.length < 2000) (P : Bool) (hP : P = true ↔ x ∈ l.xs) (q : Int) (hq : firstAt l.xs x P q) : callP G (n + 1) 115 [l.pv Pair.cells 2, .agg x.cells] = some (.int .i64 q) := by
  refine callP_of (ext_none _) rfl g115 rfl ?_
  have hnon : Hide ((∀ j (h' : j < l.xs.length), l.xs[j] ≠ x) → q = -1) := ⟨fun hn => hq.2 (by
    rw [Bool.eq_false_iff]
    intro h
    obtain ⟨j, hj, he⟩ := List.mem_iff_getElem.1 (hP.1 h)
    exact hn j hj he)⟩
  have hfst : Hide _ := ⟨hq.1⟩
  clear hP hq
  (repeat' first | simp [*, initEnv, c115] | (refine wpIf_two (fun _ h => ?_) (fun _ h => ?_) <;> try simp [-Nat.le_zero_eq] at h))
  refine wp_loopF [(4, 5), (8, 18)] (fun (i : Nat) env H => env 8 = .pure (.int .i64 i) ∧ i ≤ l.xs.length ∧ Hide (∀ j (h' : j < l.xs.length), j < i → l.xs[j] ≠ x)) (fun i => l.xs.length - i) 0 ?_ ?_ ?_ ?_
  · decide
  · exact ⟨by simp, by omega, ⟨fun _ _ h => by omega⟩⟩
  · simp only [loopFuel]; omega
  rintro i env H ⟨g0, hi, hn⟩
  have hfit : i < 9223372036854775807 := by omega
  by_cases hlt : i < l.xs.length
  · have a1 := addrV_sl (f := Pair.cells) (sz := 2) (k := .i64) (s := l) (n := i) hlt
    simp only [Pair.cells] at a1
    by_cases he : l.xs[i] = x
    · have h1 := hfst.h i hlt he hn.h
      have e1 : l.xs[i].one = x.one := by rw [he]
      have e2 : l.xs[i].two = x.two := by rw [he]
      clear hfst hnon hn he
      (repeat' first | simp [*, initEnv, st_aggEq, cellsEq, isAggV] | (refine wpIf_two (fun _ h => ?_) (fun _ h => ?_) <;> try simp [-Nat.le_zero_eq] at h))
    · have hn' : Hide (∀ j (h' : j < l.xs.length), j < i + 1 → l.xs[j] ≠ x) := ⟨fun j h' hj => by
        by_cases e : j = i
        · subst e; exact he
        · exact hn.h j h' (by omega)⟩
      clear hfst hnon hn
      by_cases e1 : x.one = l.xs[i].one
      · have e2 : ¬ x.two = l.xs[i].two := fun e2 => he (Pair.ext_iff'.2 ⟨e1.symm, e2.symm⟩)
        clear he
        (repeat' first | simp [*, initEnv, st_aggEq, cellsEq, isAggV] | (refine wpIf_two (fun _ h => ?_) (fun _ h => ?_) <;> try simp [-Nat.le_zero_eq] at h))
        exact ⟨i + 1, by omega, by omega, by omega, hn'⟩
      · clear he
        (repeat' first | simp [*, initEnv, st_aggEq, cellsEq, isAggV] | (refine wpIf_two (fun _ h => ?_) (fun _ h => ?_) <;> try simp [-Nat.le_zero_eq] at h))
        exact ⟨i + 1, by omega, by omega, by omega, hn'⟩
  · have h1 := hnon.h (fun j h' => hn.h j h' (by omega))
    clear hfst hnon hn
    (repeat' first | simp [*, initEnv] | (refine wpIf_two (fun _ h => ?_) (fun _ h => ?_) <;> try simp [-Nat.le_zero_eq] at h))
@[simp] theorem d115 (n : Nat) (H : Heap) (l : Sl Pair) (x_one : Int) (x_two : Int) (hl : l.xs.length < 2000) (P : Bool) (hP : (fun (x : Pair) => P = true ↔ x ∈ l.xs) (⟨x_one, x_two⟩ : Pair)) (q : Int) (hq : (fun (x : Pair) => firstAt l.xs x P q) (⟨x_one, x_two⟩ : Pair)) : doCall (calleeOf G (n + 1)) H (.pure (.func 115 [])) [.pure (l.pv Pair.cells 2), .pure (.agg [.int .i64 x_one, .int .i64 x_two])] = some (.val (.pure (.int .i64 q))) :=
  call_pureC (ps := [_, _]) (caps := []) sh115 (e115 n l (⟨x_one, x_two⟩ : Pair) hl P hP q hq)
theorem firstOf (l : List Pair) (x : Pair) : ∃ q : Int, (x ∈ l → 0 ≤ q) ∧ (∀ i (h : i < l.length), l[i] = x → (∀ j (h' : j < l.length), j < i → l[j] ≠ x) → q = i) ∧ (x ∉ l → q = -1) := by
  by_cases hm : x ∈ l
  · have : ∃ i, ∃ h : i < l.length, l[i] = x ∧ ∀ j (h' : j < l.length), j < i → l[j] ≠ x := by
      induction l with
      | nil => simp at hm
      | cons a l ih =>
        by_cases ha : a = x
        · exact ⟨0, by simp, by simpa using ha, fun j h' hj => by omega⟩
        · rcases List.mem_cons.1 hm with rfl | hm
          · exact absurd rfl ha
          · obtain ⟨i, h, h1, h2⟩ := ih hm
            refine ⟨i + 1, by simp; omega, by simpa using h1, fun j h' hj => ?_⟩
            cases j with
            | zero => simpa using ha
            | succ j => simpa using h2 j (by simpa using h') (by omega)
    obtain ⟨i, h, h1, h2⟩ := this
    refine ⟨i, fun _ => by omega, fun j hj he hn => ?_, fun h => absurd hm h⟩
    rcases Nat.lt_trichotomy i j with h3 | h3 | h3
    · exact absurd h1 (hn i h h3)
    · rw [h3]
    · exact absurd he (h2 j hj h3)
  · exact ⟨-1, fun h => absurd h hm, fun i h he _ => absurd (he ▸ List.getElem_mem h) hm, fun _ => rfl⟩
theorem sh68 : G.shared 68 = false := by decide
theorem e68 (n : Nat) (l : Sl Pair) (x : Pair) (hl : l.xs.length < 2000) (P : Bool) (hP : P = true ↔ x ∈ l.xs) : callP G (n + 2) 68 [l.pv Pair.cells 2, .agg x.cells] = some (.bool P) := by
  refine callP_of (ext_none _) rfl g68 rfl ?_
  obtain ⟨q, hq1, hq2, hq3⟩ := firstOf l.xs x
  have h1 : ∀ H, doCall (calleeOf G (n + 1)) H (.pure (.func 115 [])) [.pure (l.pv Pair.cells 2), .pure (.agg x.cells)] = some (.val (.pure (.int .i64 q))) := fun H => d115 n H l x.one x.two hl P hP q ⟨hq2, fun h => hq3 (fun hm => by rw [hP.2 hm] at h; simp at h)⟩
  simp only [Pair.cells] at h1
  cases P with
  | true =>
    have := hq1 (hP.1 rfl)
    clear hq1 hq2 hq3 hP hl
    (repeat' first | simp [*, initEnv, c68] | (refine wpIf_two (fun _ h => ?_) (fun _ h => ?_) <;> try simp [-Nat.le_zero_eq] at h))
  | false =>
    have : ¬ 0 ≤ q := by have := hq3 (fun hm => by have := hP.2 hm; simp at this); omega
    clear hq1 hq2 hq3 hP hl
    (repeat' first | simp [*, initEnv, c68] | (refine wpIf_two (fun _ h => ?_) (fun _ h => ?_) <;> try simp [-Nat.le_zero_eq] at h))
@[simp] theorem d68 (n : Nat) (H : Heap) (l : Sl Pair) (x_one : Int) (x_two : Int) (hl : l.xs.length < 2000) (P : Bool) (hP : (fun (x : Pair) => P = true ↔ x ∈ l.xs) (⟨x_one, x_two⟩ : Pair)) : doCall (calleeOf G (n + 2)) H (.pure (.func 68 [])) [.pure (l.pv Pair.cells 2), .pure (.agg [.int .i64 x_one, .int .i64 x_two])] = some (.val (.pure (.bool P))) :=
  call_pureC (ps := [_, _]) (caps := []) sh68 (e68 n l (⟨x_one, x_two⟩ : Pair) hl P hP)

/-! ### Rising indices -/
def risS (l : List Int) : Prop := ∀ i (h : i + 1 < l.length), l[i] < l[i+1]
def insS' (l : List Int) (N : Int) : Prop := risS l ∧ ∀ x ∈ l, 0 ≤ x ∧ x < N
theorem ris_le {l : List Int} (h : risS l) : ∀ (j i : Nat) (hj : j < l.length) (hi : i ≤ j), l[i]'(by omega) ≤ l[j]
  | 0, i, hj, hi => by
    have : i = 0 := by omega
    subst this; omega
  | j + 1, i, hj, hi => by
    by_cases e : i = j + 1
    · subst e; omega
    · have h1 := ris_le h j i (by omega) (by omega)
      have h2 := h j hj
      omega
theorem ins_ends {l : List Int} {N : Int} (h : risS l) (h0 : 0 < l.length) : insS' l N ↔ 0 ≤ l[0] ∧ l[l.length - 1]'(by omega) < N := by
  constructor
  · rintro ⟨_, h1⟩
    exact ⟨(h1 _ (List.getElem_mem _)).1, (h1 _ (List.getElem_mem _)).2⟩
  · rintro ⟨h1, h2⟩
    refine ⟨h, fun x hx => ?_⟩
    obtain ⟨i, hi, rfl⟩ := List.mem_iff_getElem.1 hx
    have h3 := ris_le h i 0 hi (by omega)
    have h4 := ris_le h (l.length - 1) i (by omega) (by omega)
    omega
theorem sh71 : G.shared 71 = false := by decide
theorem e71 (n : Nat) (l : Sl Int) (hl : l.xs.length < 1000) (P : Bool) (hP : P = true ↔ risS l.xs) : callP G (n + 1) 71 [l.pv intF 1] = some (.bool P) := by
  refine callP_of (ext_none _) rfl g71 rfl ?_
  have hP' : Hide _ := ⟨hP⟩
  clear hP
  (repeat' first | simp [*, initEnv, c71] | (refine wpIf_two (fun _ h => ?_) (fun _ h => ?_) <;> try simp [-Nat.le_zero_eq] at h))
  refine wp_loopF [(2, 19)] (fun (i : Nat) env H => env 3 = .pure (.int .i64 (i + 1 : Nat)) ∧ (i ≤ l.xs.length) ∧ Hide (∀ j (h : j + 1 < l.xs.length), j < i → l.xs[j] < l.xs[j+1])) (fun i => l.xs.length - i) 0 ?_ ?_ ?_ ?_
  · decide
  · exact ⟨by simp, by omega, ⟨fun _ _ h => by omega⟩⟩
  · simp only [loopFuel]; omega
  rintro i env H ⟨g0, hi, hn⟩
  have hfit : i + 1 < 9223372036854775807 := by omega
  have hfit' : i < 9223372036854775807 := by omega
  by_cases hlt : i + 1 < l.xs.length
  · have a1 := addrV_sl (f := intF) (sz := 1) (k := .i64) (s := l) (n := i + 1) hlt
    have a2 := addrV_sl (f := intF) (sz := 1) (k := .i64) (s := l) (n := i) (by omega)
    have hlt' : i < l.xs.length := by omega
    have w1 : IntKind.i64.wrap (i : Int) = i := wrap64 (by omega) (by omega)
    have w2 : IntKind.i64.wrap ((i : Int) + 1 + 1) = (i : Int) + 1 + 1 := wrap64 (by omega) (by omega)
    have hlI : (i : Int) + 1 < l.xs.length := by omega
    push_cast at a1 g0
    by_cases he : l.xs[i] < l.xs[i+1]
    · have hn' : Hide (∀ j (h : j + 1 < l.xs.length), j < i + 1 → l.xs[j] < l.xs[j+1]) := ⟨fun j h' hj => by
        by_cases e : j = i
        · subst e; exact he
        · exact hn.h j h' (by omega)⟩
      have he' : ¬ l.xs[i+1] ≤ l.xs[i] := by omega
      clear hn hP' he
      (repeat' first | simp [*, initEnv] | (refine wpIf_two (fun _ h => ?_) (fun _ h => ?_) <;> try simp [-Nat.le_zero_eq] at h))
      exact ⟨i + 1, by omega, by push_cast; rfl, by omega, hn'⟩
    · have hPf : P = false := by
        rw [Bool.eq_false_iff]
        intro h
        exact he (hP'.h.1 h i hlt)
      have he' : l.xs[i+1] ≤ l.xs[i] := by omega
      clear hn hP' he
      (repeat' first | simp [*, initEnv] | (refine wpIf_two (fun _ h => ?_) (fun _ h => ?_) <;> try simp [-Nat.le_zero_eq] at h))
  · have hPt : P = true := hP'.h.2 fun j h => hn.h j h (by omega)
    have hlI : ¬ (i : Int) + 1 < l.xs.length := by omega
    push_cast at g0
    clear hn hP'
    (repeat' first | simp [*, initEnv] | (refine wpIf_two (fun _ h => ?_) (fun _ h => ?_) <;> try simp [-Nat.le_zero_eq] at h))
@[simp] theorem d71 (n : Nat) (H : Heap) (l : Sl Int) (hl : l.xs.length < 1000) (P : Bool) (hP : P = true ↔ risS l.xs) : doCall (calleeOf G (n + 1)) H (.pure (.func 71 [])) [.pure (l.pv intF 1)] = some (.val (.pure (.bool P))) :=
  call_pureC (ps := [_]) (caps := []) sh71 (e71 n l hl P hP)
theorem sh70 : G.shared 70 = false := by decide
theorem e70 (n : Nat) (l : Sl Int) (N : Int) (hl : l.xs.length < 1000) (P : Bool) (hP : P = true ↔ insS' l.xs N) : callP G (n + 2) 70 [l.pv intF 1, .int .i64 N] = some (.bool P) := by
  refine callP_of (ext_none _) rfl g70 rfl ?_
  obtain ⟨R, hR⟩ := boolOf (risS l.xs)
  have h1 : ∀ H, doCall (calleeOf G (n + 1)) H (.pure (.func 71 [])) [.pure (l.pv intF 1)] = some (.val (.pure (.bool R))) := fun H => d71 n H l hl R hR
  cases R with
  | false =>
    have hPf : P = false := by
      rw [Bool.eq_false_iff]
      intro h
      have := hR.2 (hP.1 h).1
      simp at this
    clear hP hR hl
    (repeat' first | simp [*, initEnv, c70] | (refine wpIf_two (fun _ h => ?_) (fun _ h => ?_) <;> try simp [-Nat.le_zero_eq] at h))
  | true =>
    have hr := hR.1 rfl
    clear hR
    by_cases h0 : l.xs.length = 0
    · have hPt : P = true := hP.2 ⟨hr, fun x hx => by rw [List.eq_nil_of_length_eq_zero h0] at hx; simp at hx⟩
      clear hP hr
      (repeat' first | simp [*, initEnv, c70] | (refine wpIf_two (fun _ h => ?_) (fun _ h => ?_) <;> try simp [-Nat.le_zero_eq] at h))
    · have hpos : 0 < l.xs.length := by omega
      have hlast : l.xs.length - 1 < l.xs.length := by omega
      rw [ins_ends hr hpos] at hP
      have a1 := addrV_sl (f := intF) (sz := 1) (k := .i64) (s := l) (n := 0) hpos
      have a2 := addrV_sl (f := intF) (sz := 1) (k := .i64) (s := l) (n := l.xs.length - 1) hlast
      have w1 : IntKind.i64.wrap ((l.xs.length : Int) - 1) = ((l.xs.length - 1 : Nat) : Int) := wrap_pred (by omega) (by omega)
      generalize l.xs[0] = a at *
      generalize l.xs[l.xs.length - 1] = b at *
      generalize l.xs.length - 1 = k at *
      simp only [Int.natCast_zero] at a1
      clear hr hl hpos hlast
      by_cases ha : 0 ≤ a
      · by_cases hb : b < N
        · have hPt : P = true := hP.2 ⟨ha, hb⟩
          clear hP
          (repeat' first | simp [*, initEnv, c70] | (refine wpIf_two (fun _ h => ?_) (fun _ h => ?_) <;> try simp [-Nat.le_zero_eq] at h))
        · have hPf : P = false := by rw [Bool.eq_false_iff]; intro h; exact hb (hP.1 h).2
          clear hP
          (repeat' first | simp [*, initEnv, c70] | (refine wpIf_two (fun _ h => ?_) (fun _ h => ?_) <;> try simp [-Nat.le_zero_eq] at h))
      · have hPf : P = false := by rw [Bool.eq_false_iff]; intro h; exact ha (hP.1 h).1
        clear hP
        (repeat' first | simp [*, initEnv, c70] | (refine wpIf_two (fun _ h => ?_) (fun _ h => ?_) <;> try simp [-Nat.le_zero_eq] at h))
@[simp] theorem d70 (n : Nat) (H : Heap) (l : Sl Int) (N : Int) (hl : l.xs.length < 1000) (P : Bool) (hP : P = true ↔ insS' l.xs N) : doCall (calleeOf G (n + 2)) H (.pure (.func 70 [])) [.pure (l.pv intF 1), .pure (.int .i64 N)] = some (.val (.pure (.bool P))) :=
  call_pureC (ps := [_, _]) (caps := []) sh70 (e70 n l N hl P hP)
theorem sh73 : G.shared 73 = false := by decide
theorem e73 (n : Nat) (l : Sl Int) (N : Int) (hl : l.xs.length < 1000) (P : Bool) (hP : P = true ↔ insS' l.xs N) : callP G (n + 1) 73 [l.pv intF 1, .int .i64 N] = some (.bool P) := by
  refine callP_of (ext_none _) rfl g73 rfl ?_
  have hP' : Hide _ := ⟨hP⟩
  clear hP
  (repeat' first | simp [*, initEnv, c73] | (refine wpIf_two (fun _ h => ?_) (fun _ h => ?_) <;> try simp [-Nat.le_zero_eq] at h))
  refine wp_loopF [(4, 30)] (fun (i : Nat) env H => env 6 = .pure (.int .i64 i) ∧ i ≤ l.xs.length ∧ ∃ last : Int, env 5 = .pure (.int .i64 last) ∧ Hide ((∀ j (h : j + 1 < l.xs.length), j + 1 < i → l.xs[j] < l.xs[j+1]) ∧ (∀ j (h : j < l.xs.length), j < i → 0 ≤ l.xs[j] ∧ l.xs[j] < N) ∧ (i = 0 → last = -1) ∧ (∀ (h : i - 1 < l.xs.length), 0 < i → last = l.xs[i-1]))) (fun i => l.xs.length - i) 0 ?_ ?_ ?_ ?_
  · decide
  · exact ⟨by simp, by omega, -1, by simp, ⟨fun _ _ h => by omega, fun _ _ h => by omega, fun _ => rfl, fun _ h => by omega⟩⟩
  · simp only [loopFuel]; omega
  rintro i env H ⟨g0, hi, last, g5, hn⟩
  have hfit : i < 9223372036854775807 := by omega
  by_cases hlt : i < l.xs.length
  · have a1 := addrV_sl (f := intF) (sz := 1) (k := .i64) (s := l) (n := i) hlt
    obtain ⟨n1, n2, n3, n4⟩ := hn.h
    clear hn
    by_cases he : last < l.xs[i] ∧ l.xs[i] < N
    · obtain ⟨e1, e2⟩ := he
      have hn' : Hide ((∀ j (h : j + 1 < l.xs.length), j + 1 < i + 1 → l.xs[j] < l.xs[j+1]) ∧ (∀ j (h : j < l.xs.length), j < i + 1 → 0 ≤ l.xs[j] ∧ l.xs[j] < N) ∧ (i + 1 = 0 → l.xs[i] = -1) ∧ (∀ (h : i + 1 - 1 < l.xs.length), 0 < i + 1 → l.xs[i] = l.xs[i+1-1])) := ⟨by
        refine ⟨fun j h hj => ?_, fun j h hj => ?_, fun h => by omega, fun h _ => by simp⟩
        · by_cases e : j + 1 = i
          · subst e
            have := n4 (by omega) (by omega)
            simp at this
            omega
          · exact n1 j h (by omega)
        · by_cases e : j = i
          · subst e
            refine ⟨?_, e2⟩
            by_cases h0 : j = 0
            · have := n3 h0; omega
            · have := n4 (by omega) (by omega)
              have := n2 (j - 1) (by omega) (by omega)
              omega
          · exact n2 j h (by omega)⟩
      have f1 : ¬ l.xs[i] ≤ last := by omega
      have f2 : ¬ N ≤ l.xs[i] := by omega
      clear n1 n2 n3 n4 hP' e1 e2
      (repeat' first | simp [*, initEnv] | (refine wpIf_two (fun _ h => ?_) (fun _ h => ?_) <;> try simp [-Nat.le_zero_eq] at h))
      exact ⟨i + 1, by omega, by omega, by omega, hn'⟩
    · have hPf : P = false := by
        rw [Bool.eq_false_iff]
        intro h
        obtain ⟨h1, h2⟩ := hP'.h.1 h
        refine he ⟨?_, (h2 _ (List.getElem_mem hlt)).2⟩
        by_cases h0 : i = 0
        · have := n3 h0
          have := (h2 _ (List.getElem_mem hlt)).1
          omega
        · have h3 := n4 (by omega) (by omega)
          have h4 := h1 (i - 1) (by omega)
          have h5 : l.xs[i - 1 + 1]'(by omega) = l.xs[i] := by congr 1; omega
          omega
      clear n1 n2 n3 n4 hP'
      by_cases f1 : l.xs[i] ≤ last
      · clear he
        (repeat' first | simp [*, initEnv] | (refine wpIf_two (fun _ h => ?_) (fun _ h => ?_) <;> try simp [-Nat.le_zero_eq] at h))
      · have f2 : N ≤ l.xs[i] := by omega
        clear he
        (repeat' first | simp [*, initEnv] | (refine wpIf_two (fun _ h => ?_) (fun _ h => ?_) <;> try simp [-Nat.le_zero_eq] at h))
  · have hPt : P = true := hP'.h.2 ⟨fun j h => hn.h.1 j h (by omega), fun x hx => by
      obtain ⟨j, hj, rfl⟩ := List.mem_iff_getElem.1 hx
      exact hn.h.2.1 j hj (by omega)⟩
    clear hn hP'
    (repeat' first | simp [*, initEnv] | (refine wpIf_two (fun _ h => ?_) (fun _ h => ?_) <;> try simp [-Nat.le_zero_eq] at h))
@[simp] theorem d73 (n : Nat) (H : Heap) (l : Sl Int) (N : Int) (hl : l.xs.length < 1000) (P : Bool) (hP : P = true ↔ insS' l.xs N) : doCall (calleeOf G (n + 1)) H (.pure (.func 73 [])) [.pure (l.pv intF 1), .pure (.int .i64 N)] = some (.val (.pure (.bool P))) :=
  call_pureC (ps := [_, _]) (caps := []) sh73 (e73 n l N hl P hP)
end Go.Proofs.YtnomliioadjdgaaGreat.Vm

namespace Go.Proofs.YtnomliioadjdgaaGreat.Vm
open Go
set_option linter.unusedSimpArgs false
set_option linter.unusedVariables false
set_option maxHeartbeats 4000000

/-- Pairs of a list, no two of which have a sight in common. -/
def okM (l all : List Pair) (i : Nat) : Prop := ∀ (h : i < l.length), l[i] ∈ all ∧ ∀ k (hk : k < i), l[k].one ≠ l[i].one ∧ l[k].two ≠ l[i].two
def matS (l all : List Pair) : Prop := ∀ i, okM l all i
/-- Is x among the first k? -/
def isAny (all : List Pair) (x : Pair) (k : Nat) (B : Bool) : Prop := B = true ↔ ∃ j, ∃ h : j < all.length, j < k ∧ all[j] = x
theorem sh74 : G.shared 74 = false := by decide
theorem e74 (n : Nat) (l all : Sl Pair) (hl : l.xs.length < 1000) (ha : all.xs.length < 2000) (P : Bool) (hP : P = true ↔ matS l.xs all.xs) : callP G (n + 1) 74 [l.pv Pair.cells 2, all.pv Pair.cells 2] = some (.bool P) := by
  refine callP_of (ext_none _) rfl g74 rfl ?_
  have hbad : Hide (∀ i, ¬ okM l.xs all.xs i → P = false) := ⟨fun i h => by rw [Bool.eq_false_iff]; intro hp; exact h (hP.1 hp i)⟩
  have hgood : Hide ((∀ i, i < l.xs.length → okM l.xs all.xs i) → P = true) := ⟨fun h => hP.2 fun i hi => h i hi hi⟩
  clear hP
  (repeat' first | simp [*, initEnv, c74] | (refine wpIf_two (fun _ h => ?_) (fun _ h => ?_) <;> try simp [-Nat.le_zero_eq] at h))
  refine wp_loopF [(4, 63)] (fun (i : Nat) env H => env 5 = .pure (.int .i64 i) ∧ i ≤ l.xs.length ∧ Hide (∀ j, j < i → okM l.xs all.xs j)) (fun i => l.xs.length - i) 0 ?_ ?_ ?_ ?_
  · decide
  · exact ⟨by simp, by omega, ⟨fun _ h => by omega⟩⟩
  · simp only [loopFuel]; omega
  rintro i env H ⟨g0, hi, hn⟩
  have hfit : i < 9223372036854775807 := by omega
  by_cases hlt : i < l.xs.length
  case neg =>
    have hPt := hgood.h fun j hj => hn.h j (by omega)
    clear hn hbad hgood
    (repeat' first | simp [*, initEnv] | (refine wpIf_two (fun _ h => ?_) (fun _ h => ?_) <;> try simp [-Nat.le_zero_eq] at h))
  have a1 := addrV_sl (f := Pair.cells) (sz := 2) (k := .i64) (s := l) (n := i) hlt
  simp only [Pair.cells] at a1
  have hst : Hide ((l.xs[i] ∈ all.xs ∧ ∀ k (hk : k < i), l.xs[k].one ≠ l.xs[i].one ∧ l.xs[k].two ≠ l.xs[i].two) ↔ okM l.xs all.xs i) := ⟨⟨fun h _ => h, fun h => h hlt⟩⟩
  obtain ⟨x, hx⟩ : ∃ x, x = l.xs[i] := ⟨_, rfl⟩
  rw [← hx] at a1 hst
  have hx' : Hide _ := ⟨hx⟩
  clear hx
  (repeat' first | simp [*, initEnv] | (refine wpIf_two (fun _ h => ?_) (fun _ h => ?_) <;> try simp [-Nat.le_zero_eq] at h))
  refine wp_loopF [(6, 7), (15, 32)] (fun (k : Nat) env H => env 7 = .pure (.int .i64 k) ∧ k ≤ all.xs.length ∧ ∃ B : Bool, env 6 = .pure (.bool B) ∧ isAny all.xs x k B) (fun k => all.xs.length - k) 0 ?_ ?_ ?_ ?_
  · decide
  · exact ⟨by simp, by omega, false, by simp, by simp [isAny]⟩
  · simp only [loopFuel]; omega
  rintro k env2 H2 ⟨g7, hk, B, g6, hB⟩
  have hfk : k < 9223372036854775807 := by omega
  by_cases hlk : k < all.xs.length
  · have a2 := addrV_sl (f := Pair.cells) (sz := 2) (k := .i64) (s := all) (n := k) hlk
    simp only [Pair.cells] at a2
    have hBy : Hide (all.xs[k] = x → isAny all.xs x (k + 1) true) := ⟨fun e => by unfold isAny; simp; exact ⟨k, by omega, hlk, e⟩⟩
    have hBn : Hide (¬ all.xs[k] = x → isAny all.xs x (k + 1) B) := ⟨fun e => by
      unfold isAny at *
      rw [hB]
      constructor
      · rintro ⟨j, h, h1, h2⟩; exact ⟨j, h, by omega, h2⟩
      · rintro ⟨j, h, h1, h2⟩
        have : j ≠ k := fun e' => by subst e'; exact e h2
        exact ⟨j, h, by omega, h2⟩⟩
    have hBt : Hide (B = true → isAny all.xs x (k + 1) true) := ⟨fun e => by
      unfold isAny at *
      have := hB.1 e
      simp only [true_iff]
      obtain ⟨j, h, h1, h2⟩ := this
      exact ⟨j, h, by omega, h2⟩⟩
    have hxy : Hide (all.xs[k] = x ↔ all.xs[k].one = x.one ∧ all.xs[k].two = x.two) := ⟨Pair.ext_iff'⟩
    obtain ⟨y, hy⟩ : ∃ y, y = all.xs[k] := ⟨_, rfl⟩
    rw [← hy] at a2 hBy hBn hxy
    clear hB hn hbad hgood hst hy
    cases B with
    | true =>
      clear hBy hBn hxy
      (repeat' first | simp [*, initEnv, st_aggEq, cellsEq, isAggV] | (refine wpIf_two (fun _ h => ?_) (fun _ h => ?_) <;> try simp [-Nat.le_zero_eq] at h))
      exact ⟨k + 1, by omega, by omega, by omega, hBt.h rfl⟩
    | false =>
      clear hBt
      by_cases e1 : y.one = x.one
      · by_cases e2 : y.two = x.two
        · have := hBy.h (hxy.h.2 ⟨e1, e2⟩)
          have t : Hide _ := ⟨this⟩
          clear this hBy hBn hxy
          (repeat' first | simp [*, initEnv, st_aggEq, cellsEq, isAggV] | (refine wpIf_two (fun _ h => ?_) (fun _ h => ?_) <;> try simp [-Nat.le_zero_eq] at h))
          exact ⟨k + 1, by omega, by omega, by omega, t.h⟩
        · have := hBn.h (fun h => e2 (hxy.h.1 h).2)
          have t : Hide _ := ⟨this⟩
          clear this hBy hBn hxy
          (repeat' first | simp [*, initEnv, st_aggEq, cellsEq, isAggV] | (refine wpIf_two (fun _ h => ?_) (fun _ h => ?_) <;> try simp [-Nat.le_zero_eq] at h))
          exact ⟨k + 1, by omega, by omega, by omega, t.h⟩
      · have := hBn.h (fun h => e1 (hxy.h.1 h).1)
        have t : Hide _ := ⟨this⟩
        clear this hBy hBn hxy
        (repeat' first | simp [*, initEnv, st_aggEq, cellsEq, isAggV] | (refine wpIf_two (fun _ h => ?_) (fun _ h => ?_) <;> try simp [-Nat.le_zero_eq] at h))
        exact ⟨k + 1, by omega, by omega, by omega, t.h⟩
  have hke : k = all.xs.length := by omega
  cases B with
  | false =>
    have hPf := hbad.h i (fun h => by
      have := (hst.h.2 h).1
      obtain ⟨j, hj, he⟩ := List.mem_iff_getElem.1 this
      have := hB.2 ⟨j, hj, by omega, he⟩
      simp at this)
    clear hB hbad hgood hst hn
    (repeat' first | simp [*, initEnv] | (refine wpIf_two (fun _ h => ?_) (fun _ h => ?_) <;> try simp [-Nat.le_zero_eq] at h))
  | true =>
    have hmem : x ∈ all.xs := by
      obtain ⟨j, hj, _, he⟩ := hB.1 rfl
      exact he ▸ List.getElem_mem hj
    have hmem' : Hide _ := ⟨hmem⟩
    clear hB hmem
    (repeat' first | simp [*, initEnv] | (refine wpIf_two (fun _ h => ?_) (fun _ h => ?_) <;> try simp [-Nat.le_zero_eq] at h))
    refine wp_loopF [(4, 4), (8, 8), (35, 63)] (fun (k : Nat) env H => env 8 = .pure (.int .i64 k) ∧ k ≤ i ∧ Hide (∀ j (hj : j < k) (h : j < l.xs.length), l.xs[j].one ≠ x.one ∧ l.xs[j].two ≠ x.two)) (fun k => i - k) 0 ?_ ?_ ?_ ?_
    · decide
    · exact ⟨by simp, by omega, ⟨fun _ h => by omega⟩⟩
    · simp only [loopFuel]; omega
    clear g7 hk g6 hfk hlk hke
    rintro k env3 H3 ⟨g8, hk, hd⟩
    have hfk : k < 9223372036854775807 := by omega
    by_cases hlk : k < i
    · have hkl : k < l.xs.length := by omega
      have a2 := addrV_sl (f := Pair.cells) (sz := 2) (k := .i64) (s := l) (n := k) hkl
      simp only [Pair.cells] at a2
      have hyes : Hide ((l.xs[k].one ≠ x.one ∧ l.xs[k].two ≠ x.two) → (∀ j (hj : j < k + 1) (h : j < l.xs.length), l.xs[j].one ≠ x.one ∧ l.xs[j].two ≠ x.two)) := ⟨fun e j hj h => by
        by_cases e' : j = k
        · subst e'; exact e
        · exact hd.h j (by omega) h⟩
      have hno : Hide (¬ (l.xs[k].one ≠ x.one ∧ l.xs[k].two ≠ x.two) → P = false) := ⟨fun e => hbad.h i fun h => e ((hst.h.2 h).2 k hlk)⟩
      obtain ⟨y, hy⟩ : ∃ y, y = l.xs[k] := ⟨_, rfl⟩
      rw [← hy] at a2 hyes hno
      clear hd hbad hgood hst hn hmem' hy
      by_cases e1 : y.one = x.one
      · have hPf := hno.h (fun h => h.1 e1)
        clear hno hyes
        (repeat' first | simp [*, initEnv] | (refine wpIf_two (fun _ h => ?_) (fun _ h => ?_) <;> try simp [-Nat.le_zero_eq] at h))
      · by_cases e2 : y.two = x.two
        · have hPf := hno.h (fun h => h.2 e2)
          clear hno hyes
          (repeat' first | simp [*, initEnv] | (refine wpIf_two (fun _ h => ?_) (fun _ h => ?_) <;> try simp [-Nat.le_zero_eq] at h))
        · have t : Hide _ := ⟨hyes.h ⟨e1, e2⟩⟩
          clear hno hyes
          (repeat' first | simp [*, initEnv] | (refine wpIf_two (fun _ h => ?_) (fun _ h => ?_) <;> try simp [-Nat.le_zero_eq] at h))
          exact ⟨k + 1, by omega, by omega, by omega, t⟩
    · have hke : k = i := by omega
      have hok : Hide (∀ j, j < i + 1 → okM l.xs all.xs j) := ⟨fun j hj => by
        by_cases e : j = i
        · subst e
          exact hst.h.1 ⟨hmem'.h, fun k hk => hd.h k (by omega) (by omega)⟩
        · exact hn.h j (by omega)⟩
      clear hd hbad hgood hst hn hmem'
      (repeat' first | simp [*, initEnv] | (refine wpIf_two (fun _ h => ?_) (fun _ h => ?_) <;> try simp [-Nat.le_zero_eq] at h))
      exact ⟨i + 1, by omega, by omega, by omega, hok⟩
@[simp] theorem d74 (n : Nat) (H : Heap) (l : Sl Pair) (all : Sl Pair) (hl : l.xs.length < 1000) (ha : all.xs.length < 2000) (P : Bool) (hP : P = true ↔ matS l.xs all.xs) : doCall (calleeOf G (n + 1)) H (.pure (.func 74 [])) [.pure (l.pv Pair.cells 2), .pure (all.pv Pair.cells 2)] = some (.val (.pure (.bool P))) :=
  call_pureC (ps := [_, _]) (caps := []) sh74 (e74 n l all hl ha P hP)

/-! ### CheckMatch -/
def coverS' (all : List Pair) (one two : List Int) : Prop := ∀ p ∈ all, p.one ∈ one ∨ p.two ∈ two
structure GoodM (h : Habit) (l m : List Sight) (some : List Pair) (one two : List Int) : Prop where
  mat : matS some (pairsS h l m)
  cov : coverS' (pairsS h l m) one two
  io : insS' one l.length
  it : insS' two m.length
  len : some.length = one.length + two.length
/-- What is answered. -/
def ansM (h : Habit) (l m : List Sight) (some : List Pair) (one two : List Int) (P : Int) : Prop :=
  (listE h l m ≠ 0 → P = listE h l m) ∧ (listE h l m = 0 → (GoodM h l m some one two → P = 0) ∧ (¬ GoodM h l m some one two → P = 8))
theorem ansM_ex (h : Habit) (l m : List Sight) (some : List Pair) (one two : List Int) : ∃ P, ansM h l m some one two P := by
  by_cases hz : listE h l m = 0
  · by_cases hg : GoodM h l m some one two
    · exact ⟨0, fun h => absurd hz h, fun _ => ⟨fun _ => rfl, fun h => absurd hg h⟩⟩
    · exact ⟨8, fun h => absurd hz h, fun _ => ⟨fun h => absurd h hg, fun _ => rfl⟩⟩
  · exact ⟨_, fun _ => rfl, fun h => absurd h hz⟩
theorem pairsS_length {h : Habit} {l m : List Sight} (hL : Listed h l m) : (pairsS h l m).length ≤ 1600 := by
  have := pairP_length (h := h) (l := l) (m := m) l.length
  have h1 := hL.l40
  have h2 := hL.m40
  have : l.length * m.length ≤ 40 * 40 := Nat.mul_le_mul h1 h2
  unfold pairsS; omega
theorem sh32 : G.shared 32 = false := by decide
theorem e32 (n : Nat) (h : Habit) (l m : Sl Sight) (sm : Sl Pair) (one two : Sl Int) (hl : briefS l.xs) (hm : briefS m.xs) (hs : sm.xs.length < 1000) (ho : one.xs.length < 1000) (ht : two.xs.length < 1000) (P : Int) (hP : ansM h l.xs m.xs sm.xs one.xs two.xs P) : callP G (n + 7) 32 [.agg h.cells, l.pv Sight.cells 9, m.pv Sight.cells 9, sm.pv Pair.cells 2, one.pv intF 1, two.pv intF 1] = some (.int .i64 P) := by
  refine callP_of (ext_none _) rfl g32 rfl ?_
  have hck : ∀ H, doCall (calleeOf G (n + 6)) H (.pure (.func 72 [])) [.pure (.agg h.cells), .pure (l.pv Sight.cells 9), .pure (m.pv Sight.cells 9)] = .some (.val (.pure (.agg (if listE h l.xs m.xs = 0 then [(Sl.of (pairsS h l.xs m.xs)).pv Pair.cells 2, .int .i64 0] else [.nils, .int .i64 (listE h l.xs m.xs)])))) := fun H => d72 n H _ _ _ l m hl hm
  simp only [Habit.cells] at hck
  by_cases hz : listE h l.xs m.xs = 0
  case neg =>
    have hPe := hP.1 hz
    rw [if_neg hz] at hck
    rw [← hPe] at hck hz
    clear hP hPe hl hm
    (repeat' first | simp [*, initEnv, c32] | (refine wpIf_two (fun _ h => ?_) (fun _ h => ?_) <;> try simp [-Nat.le_zero_eq] at h))
  have hL := listed_of hz
  have hPg := (hP.2 hz).1
  have hPb := (hP.2 hz).2
  rw [if_pos hz] at hck
  clear hz hl hm hP
  have hall := pairsS_length hL
  obtain ⟨all, hal⟩ : ∃ all : Sl Pair, all = Sl.of (pairsS h l.xs m.xs) := ⟨_, rfl⟩
  have hax : all.xs = pairsS h l.xs m.xs := by rw [hal, Sl.xs_of]
  rw [← hal] at hck
  obtain ⟨A, hA⟩ := boolOf (insS' one.xs l.xs.length)
  obtain ⟨B, hB⟩ := boolOf (insS' two.xs m.xs.length)
  obtain ⟨C, hC⟩ := boolOf (matS sm.xs all.xs)
  have hal' : all.xs.length < 2000 := by rw [hax]; omega
  have h1 : ∀ H, doCall (calleeOf G (n + 6)) H (.pure (.func 73 [])) [.pure (one.pv intF 1), .pure (.int .i64 (l.xs.length : Nat))] = .some (.val (.pure (.bool A))) := fun H => d73 (n + 5) H one _ ho A hA
  have h2 : ∀ H, doCall (calleeOf G (n + 6)) H (.pure (.func 73 [])) [.pure (two.pv intF 1), .pure (.int .i64 (m.xs.length : Nat))] = .some (.val (.pure (.bool B))) := fun H => d73 (n + 5) H two _ ht B hB
  have h3 : ∀ H, doCall (calleeOf G (n + 6)) H (.pure (.func 74 [])) [.pure (sm.pv Pair.cells 2), .pure (all.pv Pair.cells 2)] = .some (.val (.pure (.bool C))) := fun H => d74 (n + 5) H sm all hs hal' C hC
  have hl40 := hL.l40
  have hm40 := hL.m40
  have hgood : Hide (A = true → B = true → C = true → sm.xs.length = one.xs.length + two.xs.length → (∀ p ∈ all.xs, p.one ∈ one.xs ∨ p.two ∈ two.xs) → P = 0) := ⟨fun a b c e f => hPg ⟨hax ▸ hC.1 c, hax ▸ f, hA.1 a, hB.1 b, e⟩⟩
  have hbad : Hide (¬ (A = true ∧ B = true ∧ C = true ∧ sm.xs.length = one.xs.length + two.xs.length ∧ (∀ p ∈ all.xs, p.one ∈ one.xs ∨ p.two ∈ two.xs)) → P = 8) := ⟨fun hn => hPb fun g => hn ⟨hA.2 g.io, hB.2 g.it, hC.2 (hax ▸ g.mat), g.len, hax ▸ g.cov⟩⟩
  have w1 : IntKind.i64.wrap ((one.xs.length : Int) + (two.xs.length : Int)) = (one.xs.length : Int) + two.xs.length := wrap64 (by omega) (by omega)
  clear hPg hPb hA hB hC hL hal hax hall
  by_cases hpre : A = true ∧ B = true ∧ C = true ∧ sm.xs.length = one.xs.length + two.xs.length
  case neg =>
    have hP8 := hbad.h (fun h => hpre ⟨h.1, h.2.1, h.2.2.1, h.2.2.2.1⟩)
    clear hbad hgood
    cases A with
    | false => clear hpre; (repeat' first | simp [*, initEnv, c32] | (refine wpIf_two (fun _ h => ?_) (fun _ h => ?_) <;> try simp [-Nat.le_zero_eq] at h))
    | true =>
      cases B with
      | false => clear hpre; (repeat' first | simp [*, initEnv, c32] | (refine wpIf_two (fun _ h => ?_) (fun _ h => ?_) <;> try simp [-Nat.le_zero_eq] at h))
      | true =>
        cases C with
        | false => clear hpre; (repeat' first | simp [*, initEnv, c32] | (refine wpIf_two (fun _ h => ?_) (fun _ h => ?_) <;> try simp [-Nat.le_zero_eq] at h))
        | true =>
          have hne : ¬ ((sm.xs.length : Int) = (one.xs.length : Int) + two.xs.length) := fun e => hpre ⟨rfl, rfl, rfl, by omega⟩
          clear hpre
          (repeat' first | simp [*, initEnv, c32] | (refine wpIf_two (fun _ h => ?_) (fun _ h => ?_) <;> try simp [-Nat.le_zero_eq] at h))
  obtain ⟨rfl, rfl, rfl, hlen⟩ := hpre
  have hlenI : (sm.xs.length : Int) = (one.xs.length : Int) + two.xs.length := by omega
  have hlen' : Hide _ := ⟨hlen⟩
  clear hlen
  (repeat' first | simp [*, initEnv, c32] | (refine wpIf_two (fun _ h => ?_) (fun _ h => ?_) <;> try simp [-Nat.le_zero_eq] at h))
  refine wp_loopF [(12, 12), (17, 19), (61, 89)] (fun (i : Nat) env H => env 17 = .pure (.int .i64 i) ∧ i ≤ all.xs.length ∧ H.get 0 = .cells true [.pure (all.pv Pair.cells 2), .pure (.int .i64 0)] ∧ Hide (∀ j (h : j < all.xs.length), j < i → all.xs[j].one ∈ one.xs ∨ all.xs[j].two ∈ two.xs)) (fun i => all.xs.length - i) 0 ?_ ?_ ?_ ?_
  · decide
  · exact ⟨by simp, by omega, by simp, ⟨fun _ _ h => by omega⟩⟩
  · simp only [loopFuel]; omega
  rintro i env H ⟨g0, hi, gz, hn⟩
  have hfit : i < 9223372036854775807 := by omega
  by_cases hlt : i < all.xs.length
  · have a1 := addrV_sl (f := Pair.cells) (sz := 2) (k := .i64) (s := all) (n := i) hlt
    simp only [Pair.cells] at a1
    have f1 : ∀ H, doCall (calleeOf G (n + 6)) H (.pure (.func 75 [])) [.pure (one.pv intF 1), .pure (.int .i64 all.xs[i].one)] = .some (.val (.pure (.bool (decide (all.xs[i].one ∈ one.xs))))) := fun H => d75 (n + 5) H one _ ho
    have f2 : ∀ H, doCall (calleeOf G (n + 6)) H (.pure (.func 75 [])) [.pure (two.pv intF 1), .pure (.int .i64 all.xs[i].two)] = .some (.val (.pure (.bool (decide (all.xs[i].two ∈ two.xs))))) := fun H => d75 (n + 5) H two _ ht
    have hy : Hide ((all.xs[i].one ∈ one.xs ∨ all.xs[i].two ∈ two.xs) → ∀ j (h : j < all.xs.length), j < i + 1 → all.xs[j].one ∈ one.xs ∨ all.xs[j].two ∈ two.xs) := ⟨fun e j h hj => by
      by_cases e' : j = i
      · subst e'; exact e
      · exact hn.h j h (by omega)⟩
    have hno : Hide (¬ (all.xs[i].one ∈ one.xs ∨ all.xs[i].two ∈ two.xs) → P = 8) := ⟨fun e => hbad.h fun h => e (h.2.2.2.2 _ (List.getElem_mem hlt))⟩
    generalize all.xs[i] = x at *
    clear hn hbad hgood hck h1 h2 h3
    by_cases e1 : x.one ∈ one.xs
    · have t : Hide _ := ⟨hy.h (.inl e1)⟩
      have d1 : decide (x.one ∈ one.xs) = true := by simpa using e1
      rw [d1] at f1
      generalize decide (x.two ∈ two.xs) = Q at *
      clear hy hno e1 d1
      (repeat' first | simp [*, initEnv] | (refine wpIf_two (fun _ h => ?_) (fun _ h => ?_) <;> try simp [-Nat.le_zero_eq] at h))
      all_goals exact ⟨i + 1, by omega, by omega, by omega, t⟩
    · have d1 : decide (x.one ∈ one.xs) = false := by simpa using e1
      by_cases e2 : x.two ∈ two.xs
      · have t : Hide _ := ⟨hy.h (.inr e2)⟩
        have d2 : decide (x.two ∈ two.xs) = true := by simpa using e2
        rw [d1] at f1
        rw [d2] at f2
        clear hy hno e1 d1 e2 d2
        (repeat' first | simp [*, initEnv] | (refine wpIf_two (fun _ h => ?_) (fun _ h => ?_) <;> try simp [-Nat.le_zero_eq] at h))
        all_goals exact ⟨i + 1, by omega, by omega, by omega, t⟩
      · have d2 : decide (x.two ∈ two.xs) = false := by simpa using e2
        have hP8 := hno.h (fun h => by rcases h with h | h; exact e1 h; exact e2 h)
        rw [d1] at f1
        rw [d2] at f2
        clear hy hno e1 d1 e2 d2
        (repeat' first | simp [*, initEnv] | (refine wpIf_two (fun _ h => ?_) (fun _ h => ?_) <;> try simp [-Nat.le_zero_eq] at h))
  · have hP0 := hgood.h rfl rfl rfl hlen'.h (fun p hp => by
      obtain ⟨j, hj, rfl⟩ := List.mem_iff_getElem.1 hp
      exact hn.h j hj (by omega))
    clear hn hbad hgood hck h1 h2 h3
    (repeat' first | simp [*, initEnv] | (refine wpIf_two (fun _ h => ?_) (fun _ h => ?_) <;> try simp [-Nat.le_zero_eq] at h))
@[simp] theorem d32 (n : Nat) (H : Heap) (h_step : Int) (h_place : Int) (h_sink : Int) (l : Sl Sight) (m : Sl Sight) (sm : Sl Pair) (one : Sl Int) (two : Sl Int) (hl : briefS l.xs) (hm : briefS m.xs) (hs : sm.xs.length < 1000) (ho : one.xs.length < 1000) (ht : two.xs.length < 1000) (P : Int) (hP : (fun (h : Habit) => ansM h l.xs m.xs sm.xs one.xs two.xs P) (⟨h_step, h_place, h_sink⟩ : Habit)) : doCall (calleeOf G (n + 7)) H (.pure (.func 32 [])) [.pure (.agg [.int .i64 h_step, .int .i64 h_place, .int .i64 h_sink]), .pure (l.pv Sight.cells 9), .pure (m.pv Sight.cells 9), .pure (sm.pv Pair.cells 2), .pure (one.pv intF 1), .pure (two.pv intF 1)] = some (.val (.pure (.int .i64 P))) :=
  call_pureC (ps := [_, _, _, _, _, _]) (caps := []) sh32 (e32 n (⟨h_step, h_place, h_sink⟩ : Habit) l m sm one two hl hm hs ho ht P hP)
end Go.Proofs.YtnomliioadjdgaaGreat.Vm
