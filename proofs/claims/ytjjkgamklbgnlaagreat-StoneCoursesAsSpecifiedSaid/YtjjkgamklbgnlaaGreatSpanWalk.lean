/- What the functions of spans and letters compute: the program's, and the specification's. -/
import Derived.Test.YtjjkgamklbgnlaaGreatCourseWalk
namespace Go.Proofs.YtjjkgamklbgnlaaGreat.Vm
open Go
set_option linter.unusedSimpArgs false
set_option linter.unusedVariables false
set_option maxHeartbeats 4000000

def meetS (a b : Span) : Span := ⟨max a.lo b.lo, min a.hi b.hi⟩
def onD (d : Int) (s : Span) : Span := ⟨s.lo - d, s.hi + d⟩
def okSp (s : Span) : Prop := -1048576 ≤ s.lo ∧ s.lo ≤ 1048576 ∧ -1048576 ≤ s.hi ∧ s.hi ≤ 1048576
theorem sh110 : G.shared 110 = false := by decide
theorem e110 (n : Nat) (a b : Span) : callP G (n + 1) 110 [.agg a.cells, .agg b.cells] = some (.agg (meetS a b).cells) := by
  refine callP_of (ext_none _) rfl g110 rfl ?_
  (repeat' first | simp [*, initEnv, c110, meetS] | (refine wpIf_two (fun _ h => ?_) (fun _ h => ?_) <;> try simp [-Nat.le_zero_eq] at h) | (apply wpE_appendV; (focus (first | assumption | (repeat' first | assumption | with_reducible apply GrowV.setNew | with_reducible apply GrowV.alloc | with_reducible apply GrowV.set | (with_reducible show ¬ Names _ _; simp [*]; done)))); (focus (exact fun _ => rfl)); (focus decide); (focus (intro a; first | rfl | simp)); (focus (simp [maxCells] <;> omega))) | (refine after_intro fun v2 H2 hv2 hnx2 hget2 hnew2 hone2 hcel2 => ?_))
@[simp] theorem d110 (n : Nat) (H : Heap) (a_lo : Int) (a_hi : Int) (b_lo : Int) (b_hi : Int) : doCall (calleeOf G (n + 1)) H (.pure (.func 110 [])) [.pure (.agg [.int .i64 a_lo, .int .i64 a_hi]), .pure (.agg [.int .i64 b_lo, .int .i64 b_hi])] = some (.val (.pure ((fun (a : Span) => (fun (b : Span) => .agg (meetS a b).cells) (⟨b_lo, b_hi⟩ : Span)) (⟨a_lo, a_hi⟩ : Span)))) :=
  call_pureC (ps := [_, _]) (caps := []) sh110 (e110 n (⟨a_lo, a_hi⟩ : Span) (⟨b_lo, b_hi⟩ : Span))
theorem sh111 : G.shared 111 = false := by decide
theorem e111 (n : Nat) (s : Span) : callP G (n + 1) 111 [.agg s.cells] = some (.bool (decide (s.hi < s.lo))) := by
  refine callP_of (ext_none _) rfl g111 rfl ?_
  (repeat' first | simp [*, initEnv, c111] | (refine wpIf_two (fun _ h => ?_) (fun _ h => ?_) <;> try simp [-Nat.le_zero_eq] at h) | (apply wpE_appendV; (focus (first | assumption | (repeat' first | assumption | with_reducible apply GrowV.setNew | with_reducible apply GrowV.alloc | with_reducible apply GrowV.set | (with_reducible show ¬ Names _ _; simp [*]; done)))); (focus (exact fun _ => rfl)); (focus decide); (focus (intro a; first | rfl | simp)); (focus (simp [maxCells] <;> omega))) | (refine after_intro fun v2 H2 hv2 hnx2 hget2 hnew2 hone2 hcel2 => ?_))
@[simp] theorem d111 (n : Nat) (H : Heap) (s_lo : Int) (s_hi : Int) : doCall (calleeOf G (n + 1)) H (.pure (.func 111 [])) [.pure (.agg [.int .i64 s_lo, .int .i64 s_hi])] = some (.val (.pure ((fun (s : Span) => .bool (decide (s.hi < s.lo))) (⟨s_lo, s_hi⟩ : Span)))) :=
  call_pureC (ps := [_]) (caps := []) sh111 (e111 n (⟨s_lo, s_hi⟩ : Span))
theorem sh139 : G.shared 139 = false := by decide
theorem e139 (n : Nat) (s : Span) (y d : Int) (hs : okSp s) (hd : 0 ≤ d ∧ d ≤ 1000000) : callP G (n + 1) 139 [.agg s.cells, .int .i64 y, .ptr false [.int .i64 d] 0] = some (.agg (onD d s).cells) := by
  refine callP_of (ext_none _) rfl g139 rfl ?_
  have h1 : IntKind.i64.wrap (s.lo - d) = s.lo - d := by unfold okSp at hs; exact wrap64 (by omega) (by omega)
  have h2 : IntKind.i64.wrap (s.hi + d) = s.hi + d := by unfold okSp at hs; exact wrap64 (by omega) (by omega)
  (repeat' first | simp [*, initEnv, c139, onD] | (refine wpIf_two (fun _ h => ?_) (fun _ h => ?_) <;> try simp [-Nat.le_zero_eq] at h) | (apply wpE_appendV; (focus (first | assumption | (repeat' first | assumption | with_reducible apply GrowV.setNew | with_reducible apply GrowV.alloc | with_reducible apply GrowV.set | (with_reducible show ¬ Names _ _; simp [*]; done)))); (focus (exact fun _ => rfl)); (focus decide); (focus (intro a; first | rfl | simp)); (focus (simp [maxCells] <;> omega))) | (refine after_intro fun v2 H2 hv2 hnx2 hget2 hnew2 hone2 hcel2 => ?_))
@[simp] theorem d139 (n : Nat) (H : Heap) (s_lo : Int) (s_hi : Int) (y : Int) (d : Int) (hs : (fun (s : Span) => okSp s) (⟨s_lo, s_hi⟩ : Span)) (hd : 0 ≤ d ∧ d ≤ 1000000) : doCall (calleeOf G (n + 1)) H (.pure (.func 139 [.ptr false [.int .i64 d] 0])) [.pure (.agg [.int .i64 s_lo, .int .i64 s_hi]), .pure (.int .i64 y)] = some (.val (.pure ((fun (s : Span) => .agg (onD d s).cells) (⟨s_lo, s_hi⟩ : Span)))) :=
  call_pureC (ps := [_, _]) (caps := [_]) sh139 (e139 n (⟨s_lo, s_hi⟩ : Span) y d hs hd)
@[simp] def reachD (d : Int) : List PV := [.func 139 [.ptr false [.int .i64 d] 0], .func 139 [.ptr false [.int .i64 d] 0]]
theorem sh132 : G.shared 132 = false := by decide
theorem e132 (n : Nat) (d : Int) : callP G (n + 1) 132 [.int .i64 d] = some (.agg (reachD d)) := by
  refine callP_of (ext_none _) rfl g132 rfl ?_
  (repeat' first | simp [*, initEnv, c132, reachD] | (refine wpIf_two (fun _ h => ?_) (fun _ h => ?_) <;> try simp [-Nat.le_zero_eq] at h) | (apply wpE_appendV; (focus (first | assumption | (repeat' first | assumption | with_reducible apply GrowV.setNew | with_reducible apply GrowV.alloc | with_reducible apply GrowV.set | (with_reducible show ¬ Names _ _; simp [*]; done)))); (focus (exact fun _ => rfl)); (focus decide); (focus (intro a; first | rfl | simp)); (focus (simp [maxCells] <;> omega))) | (refine after_intro fun v2 H2 hv2 hnx2 hget2 hnew2 hone2 hcel2 => ?_))
@[simp] theorem d132 (n : Nat) (H : Heap) (d : Int) : doCall (calleeOf G (n + 1)) H (.pure (.func 132 [])) [.pure (.int .i64 d)] = some (.val (.pure (.agg (reachD d)))) :=
  call_pureC (ps := [_]) (caps := []) sh132 (e132 n d)
theorem sh107 : G.shared 107 = false := by decide
theorem e107 (n : Nat) (h : Habit) : callP G (n + 2) 107 [.agg h.cells] = some (.agg (reachD 0)) := by
  refine callP_of (ext_none _) rfl g107 rfl ?_
  (repeat' first | simp [*, initEnv, c107] | (refine wpIf_two (fun _ h => ?_) (fun _ h => ?_) <;> try simp [-Nat.le_zero_eq] at h) | (apply wpE_appendV; (focus (first | assumption | (repeat' first | assumption | with_reducible apply GrowV.setNew | with_reducible apply GrowV.alloc | with_reducible apply GrowV.set | (with_reducible show ¬ Names _ _; simp [*]; done)))); (focus (exact fun _ => rfl)); (focus decide); (focus (intro a; first | rfl | simp)); (focus (simp [maxCells] <;> omega))) | (refine after_intro fun v2 H2 hv2 hnx2 hget2 hnew2 hone2 hcel2 => ?_))
@[simp] theorem d107 (n : Nat) (H : Heap) (h_step : Int) (h_place : Int) (h_sink : Int) : doCall (calleeOf G (n + 2)) H (.pure (.func 107 [])) [.pure (.agg [.int .i64 h_step, .int .i64 h_place, .int .i64 h_sink])] = some (.val (.pure (.agg (reachD 0)))) :=
  call_pureC (ps := [_]) (caps := []) sh107 (e107 n (⟨h_step, h_place, h_sink⟩ : Habit))
theorem sh108 : G.shared 108 = false := by decide
theorem e108 (n : Nat) (h : Habit) : callP G (n + 2) 108 [.agg h.cells] = some (.agg (reachD h.step)) := by
  refine callP_of (ext_none _) rfl g108 rfl ?_
  (repeat' first | simp [*, initEnv, c108] | (refine wpIf_two (fun _ h => ?_) (fun _ h => ?_) <;> try simp [-Nat.le_zero_eq] at h) | (apply wpE_appendV; (focus (first | assumption | (repeat' first | assumption | with_reducible apply GrowV.setNew | with_reducible apply GrowV.alloc | with_reducible apply GrowV.set | (with_reducible show ¬ Names _ _; simp [*]; done)))); (focus (exact fun _ => rfl)); (focus decide); (focus (intro a; first | rfl | simp)); (focus (simp [maxCells] <;> omega))) | (refine after_intro fun v2 H2 hv2 hnx2 hget2 hnew2 hone2 hcel2 => ?_))
@[simp] theorem d108 (n : Nat) (H : Heap) (h_step : Int) (h_place : Int) (h_sink : Int) : doCall (calleeOf G (n + 2)) H (.pure (.func 108 [])) [.pure (.agg [.int .i64 h_step, .int .i64 h_place, .int .i64 h_sink])] = some (.val (.pure ((fun (h : Habit) => .agg (reachD h.step)) (⟨h_step, h_place, h_sink⟩ : Habit)))) :=
  call_pureC (ps := [_]) (caps := []) sh108 (e108 n (⟨h_step, h_place, h_sink⟩ : Habit))
theorem sh109 : G.shared 109 = false := by decide
theorem e109 (n : Nat) (h : Habit) : callP G (n + 2) 109 [.agg h.cells] = some (.agg (reachD h.place)) := by
  refine callP_of (ext_none _) rfl g109 rfl ?_
  (repeat' first | simp [*, initEnv, c109] | (refine wpIf_two (fun _ h => ?_) (fun _ h => ?_) <;> try simp [-Nat.le_zero_eq] at h) | (apply wpE_appendV; (focus (first | assumption | (repeat' first | assumption | with_reducible apply GrowV.setNew | with_reducible apply GrowV.alloc | with_reducible apply GrowV.set | (with_reducible show ¬ Names _ _; simp [*]; done)))); (focus (exact fun _ => rfl)); (focus decide); (focus (intro a; first | rfl | simp)); (focus (simp [maxCells] <;> omega))) | (refine after_intro fun v2 H2 hv2 hnx2 hget2 hnew2 hone2 hcel2 => ?_))
@[simp] theorem d109 (n : Nat) (H : Heap) (h_step : Int) (h_place : Int) (h_sink : Int) : doCall (calleeOf G (n + 2)) H (.pure (.func 109 [])) [.pure (.agg [.int .i64 h_step, .int .i64 h_place, .int .i64 h_sink])] = some (.val (.pure ((fun (h : Habit) => .agg (reachD h.place)) (⟨h_step, h_place, h_sink⟩ : Habit)))) :=
  call_pureC (ps := [_]) (caps := []) sh109 (e109 n (⟨h_step, h_place, h_sink⟩ : Habit))
theorem sh82 : G.shared 82 = false := by decide
theorem e82 (n : Nat)  : callP G (n + 1) 82 [] = some (.agg [.func 107 [], .func 108 [], .func 109 []]) := by
  refine callP_of (ext_none _) rfl g82 rfl ?_
  (repeat' first | simp [*, initEnv, c82] | (refine wpIf_two (fun _ h => ?_) (fun _ h => ?_) <;> try simp [-Nat.le_zero_eq] at h) | (apply wpE_appendV; (focus (first | assumption | (repeat' first | assumption | with_reducible apply GrowV.setNew | with_reducible apply GrowV.alloc | with_reducible apply GrowV.set | (with_reducible show ¬ Names _ _; simp [*]; done)))); (focus (exact fun _ => rfl)); (focus decide); (focus (intro a; first | rfl | simp)); (focus (simp [maxCells] <;> omega))) | (refine after_intro fun v2 H2 hv2 hnx2 hget2 hnew2 hone2 hcel2 => ?_))
@[simp] theorem d82 (n : Nat) (H : Heap)  : doCall (calleeOf G (n + 1)) H (.pure (.func 82 [])) [] = some (.val (.pure (.agg [.func 107 [], .func 108 [], .func 109 []]))) :=
  call_pureC (ps := []) (caps := []) sh82 (e82 n )
def farD (h : Habit) (k : Int) : Int := if k = 1 then h.step else if k = 2 then h.place else 0
theorem sh93 : G.shared 93 = false := by decide
theorem e93 (n : Nat) (l : Life) (k : Int) : callP G (n + 1) 93 [.agg l.cells, .int .i64 k] = some (.int .i64 (farD l.habit k)) := by
  refine callP_of (ext_none _) rfl g93 rfl ?_
  (repeat' first | simp [*, initEnv, c93, farD] | (refine wpIf_two (fun _ h => ?_) (fun _ h => ?_) <;> try simp [-Nat.le_zero_eq] at h) | (apply wpE_appendV; (focus (first | assumption | (repeat' first | assumption | with_reducible apply GrowV.setNew | with_reducible apply GrowV.alloc | with_reducible apply GrowV.set | (with_reducible show ¬ Names _ _; simp [*]; done)))); (focus (exact fun _ => rfl)); (focus decide); (focus (intro a; first | rfl | simp)); (focus (simp [maxCells] <;> omega))) | (refine after_intro fun v2 H2 hv2 hnx2 hget2 hnew2 hone2 hcel2 => ?_))
@[simp] theorem d93 (n : Nat) (H : Heap) (l_habit_step : Int) (l_habit_place : Int) (l_habit_sink : Int) (l_sights : Sl Sight) (l_notes : Sl Note) (k : Int) : doCall (calleeOf G (n + 1)) H (.pure (.func 93 [])) [.pure (.agg [.int .i64 l_habit_step, .int .i64 l_habit_place, .int .i64 l_habit_sink, (l_sights).pv Sight.cells 9, (l_notes).pv Note.cells 4]), .pure (.int .i64 k)] = some (.val (.pure ((fun (l : Life) => .int .i64 (farD l.habit k)) (⟨⟨l_habit_step, l_habit_place, l_habit_sink⟩, l_sights, l_notes⟩ : Life)))) :=
  call_pureC (ps := [_, _]) (caps := []) sh93 (e93 n (⟨⟨l_habit_step, l_habit_place, l_habit_sink⟩, l_sights, l_notes⟩ : Life) k)
theorem sh94 : G.shared 94 = false := by decide
theorem e94 (n : Nat) (s t : Span) (d : Int) (hs : okSp t) (hd : 0 ≤ d ∧ d ≤ 1000000) : callP G (n + 1) 94 [.agg s.cells, .agg t.cells, .int .i64 d] = some (.agg (meetS s (onD d t)).cells) := by
  refine callP_of (ext_none _) rfl g94 rfl ?_
  have h1 : IntKind.i64.wrap (t.lo - d) = t.lo - d := by unfold okSp at hs; exact wrap64 (by omega) (by omega)
  have h2 : IntKind.i64.wrap (t.hi + d) = t.hi + d := by unfold okSp at hs; exact wrap64 (by omega) (by omega)
  (repeat' first | simp [*, initEnv, c94, onD, meetS] | (refine wpIf_two (fun _ h => ?_) (fun _ h => ?_) <;> try simp [-Nat.le_zero_eq] at h) | (apply wpE_appendV; (focus (first | assumption | (repeat' first | assumption | with_reducible apply GrowV.setNew | with_reducible apply GrowV.alloc | with_reducible apply GrowV.set | (with_reducible show ¬ Names _ _; simp [*]; done)))); (focus (exact fun _ => rfl)); (focus decide); (focus (intro a; first | rfl | simp)); (focus (simp [maxCells] <;> omega))) | (refine after_intro fun v2 H2 hv2 hnx2 hget2 hnew2 hone2 hcel2 => ?_))
@[simp] theorem d94 (n : Nat) (H : Heap) (s_lo : Int) (s_hi : Int) (t_lo : Int) (t_hi : Int) (d : Int) (hs : (fun (t : Span) => okSp t) (⟨t_lo, t_hi⟩ : Span)) (hd : 0 ≤ d ∧ d ≤ 1000000) : doCall (calleeOf G (n + 1)) H (.pure (.func 94 [])) [.pure (.agg [.int .i64 s_lo, .int .i64 s_hi]), .pure (.agg [.int .i64 t_lo, .int .i64 t_hi]), .pure (.int .i64 d)] = some (.val (.pure ((fun (s : Span) => (fun (t : Span) => .agg (meetS s (onD d t)).cells) (⟨t_lo, t_hi⟩ : Span)) (⟨s_lo, s_hi⟩ : Span)))) :=
  call_pureC (ps := [_, _, _]) (caps := []) sh94 (e94 n (⟨s_lo, s_hi⟩ : Span) (⟨t_lo, t_hi⟩ : Span) d hs hd)
theorem sh81 : G.shared 81 = false := by decide
theorem e81 (n : Nat) (l : Life) (c : Sl Int) (k : Nat) (hk : k < c.xs.length) (h0 : 0 ≤ c.xs[k]! ∧ c.xs[k]! ≤ 2) : callP G (n + 3) 81 [.int .i64 (k : Nat), .ptr false [c.pv intF 1] 0, .ptr false l.cells 0] = some (.agg (reachD (farD l.habit c.xs[k]!))) := by
  refine callP_of (ext_none _) rfl g81 rfl ?_
  rw [getElem!_pos c.xs k hk] at h0 ⊢
  have h3 : c.xs[k] = 0 ∨ c.xs[k] = 1 ∨ c.xs[k] = 2 := by omega
  rcases h3 with h3 | h3 | h3
  · (repeat' first | simp [*, initEnv, c81, farD] | (refine wpIf_two (fun _ h => ?_) (fun _ h => ?_) <;> try simp [-Nat.le_zero_eq] at h) | (apply wpE_appendV; (focus (first | assumption | (repeat' first | assumption | with_reducible apply GrowV.setNew | with_reducible apply GrowV.alloc | with_reducible apply GrowV.set | (with_reducible show ¬ Names _ _; simp [*]; done)))); (focus (exact fun _ => rfl)); (focus decide); (focus (intro a; first | rfl | simp)); (focus (simp [maxCells] <;> omega))) | (refine after_intro fun v2 H2 hv2 hnx2 hget2 hnew2 hone2 hcel2 => ?_))
  · (repeat' first | simp [*, initEnv, c81, farD] | (refine wpIf_two (fun _ h => ?_) (fun _ h => ?_) <;> try simp [-Nat.le_zero_eq] at h) | (apply wpE_appendV; (focus (first | assumption | (repeat' first | assumption | with_reducible apply GrowV.setNew | with_reducible apply GrowV.alloc | with_reducible apply GrowV.set | (with_reducible show ¬ Names _ _; simp [*]; done)))); (focus (exact fun _ => rfl)); (focus decide); (focus (intro a; first | rfl | simp)); (focus (simp [maxCells] <;> omega))) | (refine after_intro fun v2 H2 hv2 hnx2 hget2 hnew2 hone2 hcel2 => ?_))
  · (repeat' first | simp [*, initEnv, c81, farD] | (refine wpIf_two (fun _ h => ?_) (fun _ h => ?_) <;> try simp [-Nat.le_zero_eq] at h) | (apply wpE_appendV; (focus (first | assumption | (repeat' first | assumption | with_reducible apply GrowV.setNew | with_reducible apply GrowV.alloc | with_reducible apply GrowV.set | (with_reducible show ¬ Names _ _; simp [*]; done)))); (focus (exact fun _ => rfl)); (focus decide); (focus (intro a; first | rfl | simp)); (focus (simp [maxCells] <;> omega))) | (refine after_intro fun v2 H2 hv2 hnx2 hget2 hnew2 hone2 hcel2 => ?_))
@[simp] theorem d81 (n : Nat) (H : Heap) (l_habit_step : Int) (l_habit_place : Int) (l_habit_sink : Int) (l_sights : Sl Sight) (l_notes : Sl Note) (c : Sl Int) (k : Nat) (hk : k < c.xs.length) (h0 : 0 ≤ c.xs[k]! ∧ c.xs[k]! ≤ 2) : doCall (calleeOf G (n + 3)) H (.pure (.func 81 [.ptr false [c.pv intF 1] 0, .ptr false [.int .i64 l_habit_step, .int .i64 l_habit_place, .int .i64 l_habit_sink, (l_sights).pv Sight.cells 9, (l_notes).pv Note.cells 4] 0])) [.pure (.int .i64 (k : Nat))] = some (.val (.pure ((fun (l : Life) => .agg (reachD (farD l.habit c.xs[k]!))) (⟨⟨l_habit_step, l_habit_place, l_habit_sink⟩, l_sights, l_notes⟩ : Life)))) :=
  call_pureC (ps := [_]) (caps := [_, _]) sh81 (e81 n (⟨⟨l_habit_step, l_habit_place, l_habit_sink⟩, l_sights, l_notes⟩ : Life) c k hk h0)
theorem sh84 : G.shared 84 = false := by decide
theorem e84 (n : Nat) (s : Sight) : callP G (n + 1) 84 [.agg s.cells] = some (.agg s.box.x.cells) := by
  refine callP_of (ext_none _) rfl g84 rfl ?_
  (repeat' first | simp [*, initEnv, c84] | (refine wpIf_two (fun _ h => ?_) (fun _ h => ?_) <;> try simp [-Nat.le_zero_eq] at h) | (apply wpE_appendV; (focus (first | assumption | (repeat' first | assumption | with_reducible apply GrowV.setNew | with_reducible apply GrowV.alloc | with_reducible apply GrowV.set | (with_reducible show ¬ Names _ _; simp [*]; done)))); (focus (exact fun _ => rfl)); (focus decide); (focus (intro a; first | rfl | simp)); (focus (simp [maxCells] <;> omega))) | (refine after_intro fun v2 H2 hv2 hnx2 hget2 hnew2 hone2 hcel2 => ?_))
@[simp] theorem d84 (n : Nat) (H : Heap) (s_id : Int) (s_year : Int) (s_box_x_lo : Int) (s_box_x_hi : Int) (s_box_y_lo : Int) (s_box_y_hi : Int) (s_letters : List UInt8) (s_height_lo : Int) (s_height_hi : Int) : doCall (calleeOf G (n + 1)) H (.pure (.func 84 [])) [.pure (.agg [.int .i64 s_id, .int .i64 s_year, .int .i64 s_box_x_lo, .int .i64 s_box_x_hi, .int .i64 s_box_y_lo, .int .i64 s_box_y_hi, .str ⟨(s_letters).toArray⟩, .int .i64 s_height_lo, .int .i64 s_height_hi])] = some (.val (.pure ((fun (s : Sight) => .agg s.box.x.cells) (⟨s_id, s_year, ⟨⟨s_box_x_lo, s_box_x_hi⟩, ⟨s_box_y_lo, s_box_y_hi⟩⟩, s_letters, ⟨s_height_lo, s_height_hi⟩⟩ : Sight)))) :=
  call_pureC (ps := [_]) (caps := []) sh84 (e84 n (⟨s_id, s_year, ⟨⟨s_box_x_lo, s_box_x_hi⟩, ⟨s_box_y_lo, s_box_y_hi⟩⟩, s_letters, ⟨s_height_lo, s_height_hi⟩⟩ : Sight))
theorem sh85 : G.shared 85 = false := by decide
theorem e85 (n : Nat) (s : Sight) : callP G (n + 1) 85 [.agg s.cells] = some (.agg s.box.y.cells) := by
  refine callP_of (ext_none _) rfl g85 rfl ?_
  (repeat' first | simp [*, initEnv, c85] | (refine wpIf_two (fun _ h => ?_) (fun _ h => ?_) <;> try simp [-Nat.le_zero_eq] at h) | (apply wpE_appendV; (focus (first | assumption | (repeat' first | assumption | with_reducible apply GrowV.setNew | with_reducible apply GrowV.alloc | with_reducible apply GrowV.set | (with_reducible show ¬ Names _ _; simp [*]; done)))); (focus (exact fun _ => rfl)); (focus decide); (focus (intro a; first | rfl | simp)); (focus (simp [maxCells] <;> omega))) | (refine after_intro fun v2 H2 hv2 hnx2 hget2 hnew2 hone2 hcel2 => ?_))
@[simp] theorem d85 (n : Nat) (H : Heap) (s_id : Int) (s_year : Int) (s_box_x_lo : Int) (s_box_x_hi : Int) (s_box_y_lo : Int) (s_box_y_hi : Int) (s_letters : List UInt8) (s_height_lo : Int) (s_height_hi : Int) : doCall (calleeOf G (n + 1)) H (.pure (.func 85 [])) [.pure (.agg [.int .i64 s_id, .int .i64 s_year, .int .i64 s_box_x_lo, .int .i64 s_box_x_hi, .int .i64 s_box_y_lo, .int .i64 s_box_y_hi, .str ⟨(s_letters).toArray⟩, .int .i64 s_height_lo, .int .i64 s_height_hi])] = some (.val (.pure ((fun (s : Sight) => .agg s.box.y.cells) (⟨s_id, s_year, ⟨⟨s_box_x_lo, s_box_x_hi⟩, ⟨s_box_y_lo, s_box_y_hi⟩⟩, s_letters, ⟨s_height_lo, s_height_hi⟩⟩ : Sight)))) :=
  call_pureC (ps := [_]) (caps := []) sh85 (e85 n (⟨s_id, s_year, ⟨⟨s_box_x_lo, s_box_x_hi⟩, ⟨s_box_y_lo, s_box_y_hi⟩⟩, s_letters, ⟨s_height_lo, s_height_hi⟩⟩ : Sight))
theorem sh86 : G.shared 86 = false := by decide
theorem e86 (n : Nat) (s : Sight) : callP G (n + 1) 86 [.agg s.cells] = some (.agg s.height.cells) := by
  refine callP_of (ext_none _) rfl g86 rfl ?_
  (repeat' first | simp [*, initEnv, c86] | (refine wpIf_two (fun _ h => ?_) (fun _ h => ?_) <;> try simp [-Nat.le_zero_eq] at h) | (apply wpE_appendV; (focus (first | assumption | (repeat' first | assumption | with_reducible apply GrowV.setNew | with_reducible apply GrowV.alloc | with_reducible apply GrowV.set | (with_reducible show ¬ Names _ _; simp [*]; done)))); (focus (exact fun _ => rfl)); (focus decide); (focus (intro a; first | rfl | simp)); (focus (simp [maxCells] <;> omega))) | (refine after_intro fun v2 H2 hv2 hnx2 hget2 hnew2 hone2 hcel2 => ?_))
@[simp] theorem d86 (n : Nat) (H : Heap) (s_id : Int) (s_year : Int) (s_box_x_lo : Int) (s_box_x_hi : Int) (s_box_y_lo : Int) (s_box_y_hi : Int) (s_letters : List UInt8) (s_height_lo : Int) (s_height_hi : Int) : doCall (calleeOf G (n + 1)) H (.pure (.func 86 [])) [.pure (.agg [.int .i64 s_id, .int .i64 s_year, .int .i64 s_box_x_lo, .int .i64 s_box_x_hi, .int .i64 s_box_y_lo, .int .i64 s_box_y_hi, .str ⟨(s_letters).toArray⟩, .int .i64 s_height_lo, .int .i64 s_height_hi])] = some (.val (.pure ((fun (s : Sight) => .agg s.height.cells) (⟨s_id, s_year, ⟨⟨s_box_x_lo, s_box_x_hi⟩, ⟨s_box_y_lo, s_box_y_hi⟩⟩, s_letters, ⟨s_height_lo, s_height_hi⟩⟩ : Sight)))) :=
  call_pureC (ps := [_]) (caps := []) sh86 (e86 n (⟨s_id, s_year, ⟨⟨s_box_x_lo, s_box_x_hi⟩, ⟨s_box_y_lo, s_box_y_hi⟩⟩, s_letters, ⟨s_height_lo, s_height_hi⟩⟩ : Sight))
/-! ### Heights -/
def upH (h : Habit) (k y : Int) (s : Span) : Span := if k = 0 then ⟨s.lo - h.sink * y, s.hi⟩ else ⟨0, 100⟩
def downH (h : Habit) (k y : Int) (s : Span) : Span := if k = 0 then ⟨s.lo, s.hi + h.sink * y⟩ else ⟨0, 100⟩
def hPtr (h : Habit) : PV := .ptr false h.cells 0
def upF (h : Habit) (k : Int) : PV := if k = 0 then .func 113 [hPtr h] else .func 112 []
def downF (h : Habit) (k : Int) : PV := if k = 0 then .func 114 [hPtr h] else .func 112 []
@[simp] theorem upF_one (h : Habit) (k : Int) : AV.one (.pure (upF h k)) = true := by unfold upF; split <;> rfl
@[simp] theorem downF_one (h : Habit) (k : Int) : AV.one (.pure (downF h k)) = true := by unfold downF; split <;> rfl
@[simp] theorem upF_cells (h : Habit) (k : Int) : AV.cells (.pure (upF h k)) = [.pure (upF h k)] := by unfold upF; split <;> rfl
@[simp] theorem downF_cells (h : Habit) (k : Int) : AV.cells (.pure (downF h k)) = [.pure (downF h k)] := by unfold downF; split <;> rfl
theorem sh112 : G.shared 112 = false := by decide
theorem e112 (n : Nat) (s : Span) (y : Int) : callP G (n + 1) 112 [.agg s.cells, .int .i64 y] = some (.agg [.int .i64 0, .int .i64 100]) := by
  refine callP_of (ext_none _) rfl g112 rfl ?_
  (repeat' first | simp [*, initEnv, c112] | (refine wpIf_two (fun _ h => ?_) (fun _ h => ?_) <;> try simp [-Nat.le_zero_eq] at h) | (apply wpE_appendV; (focus (first | assumption | (repeat' first | assumption | with_reducible apply GrowV.setNew | with_reducible apply GrowV.alloc | with_reducible apply GrowV.set | (with_reducible show ¬ Names _ _; simp [*]; done)))); (focus (exact fun _ => rfl)); (focus decide); (focus (intro a; first | rfl | simp)); (focus (simp [maxCells] <;> omega))) | (refine after_intro fun v2 H2 hv2 hnx2 hget2 hnew2 hone2 hcel2 => ?_))
@[simp] theorem d112 (n : Nat) (H : Heap) (s_lo : Int) (s_hi : Int) (y : Int) : doCall (calleeOf G (n + 1)) H (.pure (.func 112 [])) [.pure (.agg [.int .i64 s_lo, .int .i64 s_hi]), .pure (.int .i64 y)] = some (.val (.pure (.agg [.int .i64 0, .int .i64 100]))) :=
  call_pureC (ps := [_, _]) (caps := []) sh112 (e112 n (⟨s_lo, s_hi⟩ : Span) y)
theorem sink_le {h : Habit} {y : Int} (hh : habitS h = true) (hy : 0 ≤ y ∧ y ≤ 4000) : 0 ≤ h.sink * y ∧ h.sink * y ≤ 80000 := by
  simp [habitS, inB] at hh
  refine ⟨Int.mul_nonneg (by omega) hy.1, ?_⟩
  have : h.sink * y ≤ 20 * 4000 := Int.mul_le_mul (by omega) hy.2 hy.1 (by omega)
  omega
theorem sh113 : G.shared 113 = false := by decide
theorem e113 (n : Nat) (s : Span) (y : Int) (h : Habit) (hs : okSp s) (hh : habitS h = true) (hy : 0 ≤ y ∧ y ≤ 4000) : callP G (n + 1) 113 [.agg s.cells, .int .i64 y, .ptr false h.cells 0] = some (.agg (upH h 0 y s).cells) := by
  refine callP_of (ext_none _) rfl g113 rfl ?_
  have h9 := sink_le hh hy
  have h1 : IntKind.i64.wrap (h.sink * y) = h.sink * y := wrap64 (by omega) (by omega)
  have h2 : IntKind.i64.wrap (s.lo - h.sink * y) = s.lo - h.sink * y := by unfold okSp at hs; exact wrap64 (by omega) (by omega)
  (repeat' first | simp [*, initEnv, c113, upH] | (refine wpIf_two (fun _ h => ?_) (fun _ h => ?_) <;> try simp [-Nat.le_zero_eq] at h) | (apply wpE_appendV; (focus (first | assumption | (repeat' first | assumption | with_reducible apply GrowV.setNew | with_reducible apply GrowV.alloc | with_reducible apply GrowV.set | (with_reducible show ¬ Names _ _; simp [*]; done)))); (focus (exact fun _ => rfl)); (focus decide); (focus (intro a; first | rfl | simp)); (focus (simp [maxCells] <;> omega))) | (refine after_intro fun v2 H2 hv2 hnx2 hget2 hnew2 hone2 hcel2 => ?_))
@[simp] theorem d113 (n : Nat) (H : Heap) (s_lo : Int) (s_hi : Int) (y : Int) (h_step : Int) (h_place : Int) (h_sink : Int) (hs : (fun (s : Span) => okSp s) (⟨s_lo, s_hi⟩ : Span)) (hh : (fun (h : Habit) => habitS h = true) (⟨h_step, h_place, h_sink⟩ : Habit)) (hy : 0 ≤ y ∧ y ≤ 4000) : doCall (calleeOf G (n + 1)) H (.pure (.func 113 [.ptr false [.int .i64 h_step, .int .i64 h_place, .int .i64 h_sink] 0])) [.pure (.agg [.int .i64 s_lo, .int .i64 s_hi]), .pure (.int .i64 y)] = some (.val (.pure ((fun (s : Span) => (fun (h : Habit) => .agg (upH h 0 y s).cells) (⟨h_step, h_place, h_sink⟩ : Habit)) (⟨s_lo, s_hi⟩ : Span)))) :=
  call_pureC (ps := [_, _]) (caps := [_]) sh113 (e113 n (⟨s_lo, s_hi⟩ : Span) y (⟨h_step, h_place, h_sink⟩ : Habit) hs hh hy)
theorem sh114 : G.shared 114 = false := by decide
theorem e114 (n : Nat) (s : Span) (y : Int) (h : Habit) (hs : okSp s) (hh : habitS h = true) (hy : 0 ≤ y ∧ y ≤ 4000) : callP G (n + 1) 114 [.agg s.cells, .int .i64 y, .ptr false h.cells 0] = some (.agg (downH h 0 y s).cells) := by
  refine callP_of (ext_none _) rfl g114 rfl ?_
  have h9 := sink_le hh hy
  have h1 : IntKind.i64.wrap (h.sink * y) = h.sink * y := wrap64 (by omega) (by omega)
  have h2 : IntKind.i64.wrap (s.hi + h.sink * y) = s.hi + h.sink * y := by unfold okSp at hs; exact wrap64 (by omega) (by omega)
  (repeat' first | simp [*, initEnv, c114, downH] | (refine wpIf_two (fun _ h => ?_) (fun _ h => ?_) <;> try simp [-Nat.le_zero_eq] at h) | (apply wpE_appendV; (focus (first | assumption | (repeat' first | assumption | with_reducible apply GrowV.setNew | with_reducible apply GrowV.alloc | with_reducible apply GrowV.set | (with_reducible show ¬ Names _ _; simp [*]; done)))); (focus (exact fun _ => rfl)); (focus decide); (focus (intro a; first | rfl | simp)); (focus (simp [maxCells] <;> omega))) | (refine after_intro fun v2 H2 hv2 hnx2 hget2 hnew2 hone2 hcel2 => ?_))
@[simp] theorem d114 (n : Nat) (H : Heap) (s_lo : Int) (s_hi : Int) (y : Int) (h_step : Int) (h_place : Int) (h_sink : Int) (hs : (fun (s : Span) => okSp s) (⟨s_lo, s_hi⟩ : Span)) (hh : (fun (h : Habit) => habitS h = true) (⟨h_step, h_place, h_sink⟩ : Habit)) (hy : 0 ≤ y ∧ y ≤ 4000) : doCall (calleeOf G (n + 1)) H (.pure (.func 114 [.ptr false [.int .i64 h_step, .int .i64 h_place, .int .i64 h_sink] 0])) [.pure (.agg [.int .i64 s_lo, .int .i64 s_hi]), .pure (.int .i64 y)] = some (.val (.pure ((fun (s : Span) => (fun (h : Habit) => .agg (downH h 0 y s).cells) (⟨h_step, h_place, h_sink⟩ : Habit)) (⟨s_lo, s_hi⟩ : Span)))) :=
  call_pureC (ps := [_, _]) (caps := [_]) sh114 (e114 n (⟨s_lo, s_hi⟩ : Span) y (⟨h_step, h_place, h_sink⟩ : Habit) hs hh hy)
theorem sh88 : G.shared 88 = false := by decide
theorem e88 (n : Nat) (h : Habit) (k : Int) : callP G (n + 1) 88 [.agg h.cells, .int .i64 k] = some (.agg [upF h k, downF h k]) := by
  refine callP_of (ext_none _) rfl g88 rfl ?_
  (repeat' first | simp [*, initEnv, c88, upF, downF, hPtr] | (refine wpIf_two (fun _ h => ?_) (fun _ h => ?_) <;> try simp [-Nat.le_zero_eq] at h) | (apply wpE_appendV; (focus (first | assumption | (repeat' first | assumption | with_reducible apply GrowV.setNew | with_reducible apply GrowV.alloc | with_reducible apply GrowV.set | (with_reducible show ¬ Names _ _; simp [*]; done)))); (focus (exact fun _ => rfl)); (focus decide); (focus (intro a; first | rfl | simp)); (focus (simp [maxCells] <;> omega))) | (refine after_intro fun v2 H2 hv2 hnx2 hget2 hnew2 hone2 hcel2 => ?_))
@[simp] theorem d88 (n : Nat) (H : Heap) (h_step : Int) (h_place : Int) (h_sink : Int) (k : Int) : doCall (calleeOf G (n + 1)) H (.pure (.func 88 [])) [.pure (.agg [.int .i64 h_step, .int .i64 h_place, .int .i64 h_sink]), .pure (.int .i64 k)] = some (.val (.pure ((fun (h : Habit) => .agg [upF h k, downF h k]) (⟨h_step, h_place, h_sink⟩ : Habit)))) :=
  call_pureC (ps := [_, _]) (caps := []) sh88 (e88 n (⟨h_step, h_place, h_sink⟩ : Habit) k)
theorem sh87 : G.shared 87 = false := by decide
theorem e87 (n : Nat) (l : Life) (c : Sl Int) (k : Nat) (hk : k < c.xs.length) : callP G (n + 2) 87 [.int .i64 (k : Nat), .ptr false l.cells 0, .ptr false [c.pv intF 1] 0] = some (.agg [upF l.habit c.xs[k]!, downF l.habit c.xs[k]!]) := by
  refine callP_of (ext_none _) rfl g87 rfl ?_
  rw [getElem!_pos c.xs k hk]
  (repeat' first | simp [*, initEnv, c87] | (refine wpIf_two (fun _ h => ?_) (fun _ h => ?_) <;> try simp [-Nat.le_zero_eq] at h) | (apply wpE_appendV; (focus (first | assumption | (repeat' first | assumption | with_reducible apply GrowV.setNew | with_reducible apply GrowV.alloc | with_reducible apply GrowV.set | (with_reducible show ¬ Names _ _; simp [*]; done)))); (focus (exact fun _ => rfl)); (focus decide); (focus (intro a; first | rfl | simp)); (focus (simp [maxCells] <;> omega))) | (refine after_intro fun v2 H2 hv2 hnx2 hget2 hnew2 hone2 hcel2 => ?_))
@[simp] theorem d87 (n : Nat) (H : Heap) (l_habit_step : Int) (l_habit_place : Int) (l_habit_sink : Int) (l_sights : Sl Sight) (l_notes : Sl Note) (c : Sl Int) (k : Nat) (hk : k < c.xs.length) : doCall (calleeOf G (n + 2)) H (.pure (.func 87 [.ptr false [.int .i64 l_habit_step, .int .i64 l_habit_place, .int .i64 l_habit_sink, (l_sights).pv Sight.cells 9, (l_notes).pv Note.cells 4] 0, .ptr false [c.pv intF 1] 0])) [.pure (.int .i64 (k : Nat))] = some (.val (.pure ((fun (l : Life) => .agg [upF l.habit c.xs[k]!, downF l.habit c.xs[k]!]) (⟨⟨l_habit_step, l_habit_place, l_habit_sink⟩, l_sights, l_notes⟩ : Life)))) :=
  call_pureC (ps := [_]) (caps := [_, _]) sh87 (e87 n (⟨⟨l_habit_step, l_habit_place, l_habit_sink⟩, l_sights, l_notes⟩ : Life) c k hk)
def someS (l : List Span) : Bool := allL (fun s => !decide (s.hi < s.lo)) l
theorem sh92 : G.shared 92 = false := by decide
theorem e92 (n : Nat) (l : Sl Span) (hl : l.xs.length < 1000) : callP G (n + 1) 92 [l.pv Span.cells 2] = some (.bool (someS l.xs)) := by
  refine callP_of (ext_none _) rfl g92 rfl ?_
  (repeat' first | simp [*, initEnv, c92] | (refine wpIf_two (fun _ h => ?_) (fun _ h => ?_) <;> try simp [-Nat.le_zero_eq] at h) | (apply wpE_appendV; (focus (first | assumption | (repeat' first | assumption | with_reducible apply GrowV.setNew | with_reducible apply GrowV.alloc | with_reducible apply GrowV.set | (with_reducible show ¬ Names _ _; simp [*]; done)))); (focus (exact fun _ => rfl)); (focus decide); (focus (intro a; first | rfl | simp)); (focus (simp [maxCells] <;> omega))) | (refine after_intro fun v2 H2 hv2 hnx2 hget2 hnew2 hone2 hcel2 => ?_))
  have hP : Hide (someS l.xs = allL (fun s => !decide (s.hi < s.lo)) l.xs) := ⟨rfl⟩
  generalize someS l.xs = P at *
  refine wp_loopF [(2, 20)] (fun (i : Nat) env H => env 3 = .pure (.int .i64 i) ∧ i ≤ l.xs.length ∧ Hide (P = allL (fun s => !decide (s.hi < s.lo)) (l.xs.drop i))) (fun i => l.xs.length - i) 0 ?_ ?_ ?_ ?_
  · decide
  · simp; exact hP
  · simp only [loopFuel]; omega
  rintro i env H ⟨h3, hi, hn⟩
  have hfit : i < 9223372036854775807 := by omega
  (repeat' first | simp [*, initEnv] | (refine wpIf_two (fun _ h => ?_) (fun _ h => ?_) <;> try simp [-Nat.le_zero_eq] at h) | (apply wpE_appendV; (focus (first | assumption | (repeat' first | assumption | with_reducible apply GrowV.setNew | with_reducible apply GrowV.alloc | with_reducible apply GrowV.set | (with_reducible show ¬ Names _ _; simp [*]; done)))); (focus (exact fun _ => rfl)); (focus decide); (focus (intro a; first | rfl | simp)); (focus (simp [maxCells] <;> omega))) | (refine after_intro fun v2 H2 hv2 hnx2 hget2 hnew2 hone2 hcel2 => ?_))
  all_goals try (rw [hn.h, allL_drop (by assumption)]; simp [*]; done)
  all_goals try (refine ⟨i + 1, by omega, by simp, by omega, ⟨?_⟩⟩; rw [hn.h, allL_drop (by assumption)]; simp [*]; done)
  rw [hn.h, allL_end (by omega)]
@[simp] theorem d92 (n : Nat) (H : Heap) (l : Sl Span) (hl : l.xs.length < 1000) : doCall (calleeOf G (n + 1)) H (.pure (.func 92 [])) [.pure (l.pv Span.cells 2)] = some (.val (.pure (.bool (someS l.xs)))) :=
  call_pureC (ps := [_]) (caps := []) sh92 (e92 n l hl)

/-! ### Through all gaps, and back -/
def wideS (s : Span) : Prop := s.lo ≤ 1048576 ∧ -1048576 ≤ s.hi
theorem okSp_meet {a b : Span} (ha : okSp a) (hb : wideS b) : okSp (meetS a b) := by
  unfold okSp wideS meetS at *; simp only; omega
def headF (on : Nat → Span → Span) (k : Nat) (p : Option Span) (s : Span) : Span := match p with
  | none => s
  | some q => meetS s (on (k-1) q)
def fwdS (on : Nat → Span → Span) : Nat → Option Span → List Span → Option (List Span)
  | _, _, [] => some []
  | k, p, s :: r => if (headF on k p s).hi < (headF on k p s).lo then none else (fwdS on (k+1) (some (headF on k p s)) r).map (headF on k p s :: ·)
def bwdS (back : Nat → Span → Span) : Nat → List Span → List Span
  | _, [] => []
  | k, s :: r => match bwdS back (k+1) r with
    | [] => [s]
    | t :: r' => meetS s (back k t) :: t :: r'
def thrPV : Option (List Span) → PV
  | none => .tup [.nils, .bool false]
  | some l => .tup [(Sl.of l).pv Span.cells 2, .bool true]
def throughS (on back : Nat → Span → Span) (l : List Span) : Option (List Span) := (fwdS on 0 none l).map (bwdS back 0)
theorem fwdS_step {on : Nat → Span → Span} {k : Nat} {p : Option Span} {l : List Span} (hk : k < l.length) {t : Span} (ht : t = headF on k p l[k]) :
    fwdS on k p (l.drop k) = if t.hi < t.lo then none else (fwdS on (k+1) (some t) (l.drop (k+1))).map (t :: ·) := by
  rw [List.drop_eq_getElem_cons hk, fwdS, ← ht]
theorem bwdS_length (back : Nat → Span → Span) : ∀ (l : List Span) (k : Nat), (bwdS back k l).length = l.length
  | [], k => rfl
  | s :: r, k => by
    have := bwdS_length back r (k+1)
    rw [bwdS]
    cases h : bwdS back (k+1) r with
    | nil => rw [h] at this; simp at this; simp [← this]
    | cons t r' => rw [h] at this; simp at this ⊢; exact this
theorem bwdS_step {back : Nat → Span → Span} {l : List Span} {j : Nat} (hj : j + 1 < l.length) :
    bwdS back j (l.drop j) = meetS l[j] (back j ((bwdS back (j+1) (l.drop (j+1)))[0]'(by rw [bwdS_length]; simp; omega))) :: bwdS back (j+1) (l.drop (j+1)) := by
  rw [List.drop_eq_getElem_cons (by omega), bwdS]
  have hlen := bwdS_length back (l.drop (j+1)) (j+1)
  obtain ⟨t, r', h⟩ : ∃ t r', bwdS back (j+1) (l.drop (j+1)) = t :: r' := by
    cases h : bwdS back (j+1) (l.drop (j+1)) with
    | nil => rw [h] at hlen; simp at hlen; omega
    | cons t r' => exact ⟨t, r', rfl⟩
  simp [h]
theorem bwdS_last {back : Nat → Span → Span} {l : List Span} {j : Nat} (hj : j + 1 = l.length) : bwdS back j (l.drop j) = l.drop j := by
  rw [List.drop_eq_getElem_cons (by omega), List.drop_eq_nil_of_le (by omega)]; rfl

theorem fwd_go {on : Nat → Span → Span} {out l : List Span} {t : Span} (hk : out.length < l.length) (ht : t = headF on out.length out.getLast? l[out.length])
    (hn : fwdS on 0 none l = (fwdS on out.length out.getLast? (l.drop out.length)).map (out ++ ·)) :
    (t.hi < t.lo → fwdS on 0 none l = none) ∧ (¬ t.hi < t.lo → fwdS on 0 none l = (fwdS on (out ++ [t]).length (out ++ [t]).getLast? (l.drop (out ++ [t]).length)).map ((out ++ [t]) ++ ·)) := by
  rw [fwdS_step hk ht] at hn
  constructor
  · intro h; rw [hn, if_pos h]; rfl
  · intro h
    rw [hn, if_neg h]
    simp [Function.comp_def]
theorem bwd_ok {back : Nat → Span → Span} (hw : ∀ k t, okSp t → wideS (back k t)) : ∀ (l : List Span) (k : Nat), (∀ s ∈ l, okSp s) → ∀ s ∈ bwdS back k l, okSp s
  | [], k, _ => by simp [bwdS]
  | a :: r, k, h => by
    have ih := bwd_ok hw r (k+1) (fun s hs => h s (by simp [hs]))
    rw [bwdS]
    cases hb : bwdS back (k+1) r with
    | nil => intro s hs; simp at hs; subst hs; exact h _ (by simp)
    | cons t r' =>
      rw [hb] at ih
      intro s hs
      rcases List.mem_cons.1 hs with rfl | hs
      · exact okSp_meet (h a (by simp)) (hw _ _ (ih t (by simp)))
      · exact ih s hs
theorem through_eq (n : Nat) (l : Life) (of gap : PV) (ofF : Sight → Span) (on back : Nat → Span → Span) (g1 g2 : Nat → PV) (yr : Nat → Int)
    (h1 : 1 ≤ l.sights.xs.length) (h9 : l.sights.xs.length ≤ 9)
    (hofs : ∀ s ∈ l.sights.xs, okSp (ofF s))
    (hw1 : ∀ k t, okSp t → wideS (on k t)) (hw2 : ∀ k t, okSp t → wideS (back k t))
    (hyr : ∀ k (h : k + 1 < l.sights.xs.length), IntKind.i64.wrap (l.sights.xs[k+1].year - l.sights.xs[k].year) = yr k)
    (hof : ∀ H s, doCall (calleeOf G (n + 5)) H (.pure of) [.pure (.agg (Sight.cells s))] = some (.val (.pure (.agg (ofF s).cells))))
    (hgap : ∀ H (k : Nat), k + 1 < l.sights.xs.length → doCall (calleeOf G (n + 5)) H (.pure gap) [.pure (.int .i64 k)] = some (.val (.pure (.agg [g1 k, g2 k]))))
    (hon : ∀ H (k : Nat) s, k + 1 < l.sights.xs.length → okSp s → doCall (calleeOf G (n + 5)) H (.pure (g1 k)) [.pure (.agg (Span.cells s)), .pure (.int .i64 (yr k))] = some (.val (.pure (.agg (on k s).cells))))
    (hbk : ∀ H (k : Nat) s, k + 1 < l.sights.xs.length → okSp s → doCall (calleeOf G (n + 5)) H (.pure (g2 k)) [.pure (.agg (Span.cells s)), .pure (.int .i64 (yr k))] = some (.val (.pure (.agg (back k s).cells)))) 
    (hc1 : ∀ k, AV.cells (.pure (g1 k)) = [.pure (g1 k)]) (hc2 : ∀ k, AV.cells (.pure (g2 k)) = [.pure (g2 k)]) :
    callP G (n + 6) 83 [.agg l.cells, l.sights.pv Sight.cells 9, of, gap] = some (thrPV (throughS on back (l.sights.xs.map ofF))) := by
  have hon' : ∀ H (k : Nat) lo hi, k + 1 < l.sights.xs.length → okSp ⟨lo, hi⟩ → doCall (calleeOf G (n + 5)) H (.pure (g1 k)) [.pure (.agg [.int .i64 lo, .int .i64 hi]), .pure (.int .i64 (yr k))] = some (.val (.pure (.agg [.int .i64 (on k ⟨lo, hi⟩).lo, .int .i64 (on k ⟨lo, hi⟩).hi]))) := fun H k lo hi h h' => hon H k ⟨lo, hi⟩ h h'
  have hbk' : ∀ H (k : Nat) lo hi, k + 1 < l.sights.xs.length → okSp ⟨lo, hi⟩ → doCall (calleeOf G (n + 5)) H (.pure (g2 k)) [.pure (.agg [.int .i64 lo, .int .i64 hi]), .pure (.int .i64 (yr k))] = some (.val (.pure (.agg [.int .i64 (back k ⟨lo, hi⟩).lo, .int .i64 (back k ⟨lo, hi⟩).hi]))) := fun H k lo hi h h' => hbk H k ⟨lo, hi⟩ h h'
  have hof' : ∀ H (a b c d e f : Int) (g : List UInt8) (i j : Int), doCall (calleeOf G (n + 5)) H (.pure of) [.pure (.agg [.int .i64 a, .int .i64 b, .int .i64 c, .int .i64 d, .int .i64 e, .int .i64 f, .str ⟨g.toArray⟩, .int .i64 i, .int .i64 j])] = some (.val (.pure (.agg [.int .i64 (ofF ⟨a, b, ⟨⟨c, d⟩, ⟨e, f⟩⟩, g, ⟨i, j⟩⟩).lo, .int .i64 (ofF ⟨a, b, ⟨⟨c, d⟩, ⟨e, f⟩⟩, g, ⟨i, j⟩⟩).hi]))) := fun H a b c d e f g i j => hof H ⟨a, b, ⟨⟨c, d⟩, ⟨e, f⟩⟩, g, ⟨i, j⟩⟩
  clear hon hbk hof
  refine callP_of (ext_none _) rfl g83 rfl ?_
  have hP : Hide (thrPV (throughS on back (l.sights.xs.map ofF)) = thrPV ((fwdS on 0 none (l.sights.xs.map ofF)).map (bwdS back 0))) := ⟨rfl⟩
  generalize thrPV (throughS on back (l.sights.xs.map ofF)) = P at *
  (repeat' first | simp [*, initEnv, c83] | (refine wpIf_two (fun _ h => ?_) (fun _ h => ?_) <;> try simp [-Nat.le_zero_eq] at h) | (apply wpE_appendV; (focus (first | assumption | (repeat' first | assumption | with_reducible apply GrowV.setNew | with_reducible apply GrowV.alloc | with_reducible apply GrowV.set | (with_reducible show ¬ Names _ _; simp [*]; done)))); (focus (exact fun _ => rfl)); (focus decide); (focus (intro a; first | rfl | simp)); (focus (simp [maxCells] <;> omega))) | (refine after_intro fun v2 H2 hv2 hnx2 hget2 hnew2 hone2 hcel2 => ?_))
  refine wp_loopF [(8, 13), (17, 60)] (fun (out : List Span) env H => env 17 = .pure (.int .i64 out.length) ∧ out.length ≤ l.sights.xs.length ∧ GrowV Span.cells 2 H (env 10) out ∧ (∀ s ∈ out, okSp s) ∧
      Hide (fwdS on 0 none (l.sights.xs.map ofF) = (fwdS on out.length out.getLast? ((l.sights.xs.map ofF).drop out.length)).map (out ++ ·))) (fun out => l.sights.xs.length - out.length) [] ?_ ?_ ?_ ?_
  · decide
  · simp [GrowV.nil]
  · simp only [loopFuel]; simp; omega
  rintro out env H ⟨h17, hi, hg, hok, hn⟩
  have hfit : out.length < 9223372036854775807 := by omega
  have ha : ∀ k i, i < out.length → addrV 2 (env 10) (.pure (.int k (i : Nat))) = some (.val (.box (idOf (env 10)) (i * 2))) := fun k i h => hg.1.addr h
  have hob : 0 < out.length → H.get (idOf (env 10)) = .cells true (rowOf Span.cells out) := fun h => hg.1.objI h
  have hlt : 0 < out.length → idOf (env 10) < H.nx := fun h => hg.1.ltI h
  have hlt2 : 0 < out.length → idOf (env 10) < H.nx + 1 := fun h => by have := hlt h; omega
  have hne1 : 0 < out.length → ¬ (idOf (env 10) = H.nx) := fun h => by have := hlt h; omega
  have hne2 : 0 < out.length → ¬ (idOf (env 10) = H.nx + 1) := fun h => by have := hlt h; omega
  have hl1 : 0 < out.length → out.length - 1 < out.length := fun h => by omega
  have hl2 : 0 < out.length → out.length - 1 < l.sights.xs.length := fun h => by omega
  have hl3 : 0 < out.length → out.length < l.sights.xs.length → out.length - 1 + 1 < l.sights.xs.length := fun h h' => by omega
  have hok1 : ∀ h : 0 < out.length, okSp (out[out.length - 1]'(by omega)) := fun h => hok _ (List.getElem_mem _)
  have hyi : ∀ (h : 0 < out.length) (h' : out.length < l.sights.xs.length), IntKind.i64.wrap (l.sights.xs[out.length].year - (l.sights.xs[out.length - 1]'(by omega)).year) = yr (out.length - 1) := fun h h' => by
    have := hyr (out.length - 1) (by omega)
    have h9 : out.length - 1 + 1 = out.length := by omega
    simp only [h9] at this
    exact this
  have hlen2 : (rowOf Span.cells out).length = out.length * 2 := rowOf_length (f := Span.cells) (sz := 2) (fun _ => rfl) out
  have hfr := hg.1.fresh
  have go0 : ∀ (h : out.length ≤ 0) (h' : out.length < l.sights.xs.length), Hide (((ofF l.sights.xs[out.length]).hi < (ofF l.sights.xs[out.length]).lo → fwdS on 0 none (l.sights.xs.map ofF) = none) ∧ (¬ (ofF l.sights.xs[out.length]).hi < (ofF l.sights.xs[out.length]).lo → fwdS on 0 none (l.sights.xs.map ofF) = (fwdS on (out ++ [ofF l.sights.xs[out.length]]).length (out ++ [ofF l.sights.xs[out.length]]).getLast? ((l.sights.xs.map ofF).drop (out ++ [ofF l.sights.xs[out.length]]).length)).map ((out ++ [ofF l.sights.xs[out.length]]) ++ ·))) := fun h h' => by
    have : out = [] := List.eq_nil_of_length_eq_zero (by omega)
    refine ⟨fwd_go (by simpa using h') ?_ hn.h⟩
    subst this; simp [headF]
  have go1 : ∀ (h : 0 < out.length) (h' : out.length < l.sights.xs.length) (t : Span), t = meetS (ofF l.sights.xs[out.length]) (on (out.length - 1) (out[out.length - 1]'(by omega))) → Hide ((t.hi < t.lo → fwdS on 0 none (l.sights.xs.map ofF) = none) ∧ (¬ t.hi < t.lo → fwdS on 0 none (l.sights.xs.map ofF) = (fwdS on (out ++ [t]).length (out ++ [t]).getLast? ((l.sights.xs.map ofF).drop (out ++ [t]).length)).map ((out ++ [t]) ++ ·))) := fun h h' t ht => by
    refine ⟨fwd_go (by simpa using h') ?_ hn.h⟩
    rw [List.getLast?_eq_getElem?, List.getElem?_eq_getElem (by omega)]
    simpa [headF] using ht
  (repeat' first | simp [*, initEnv] | (refine wpIf_two (fun _ h => ?_) (fun _ h => ?_) <;> try simp [-Nat.le_zero_eq] at h) | (apply wpE_appendV; (focus (first | assumption | (repeat' first | assumption | with_reducible apply GrowV.setNew | with_reducible apply GrowV.alloc | with_reducible apply GrowV.set | (with_reducible show ¬ Names _ _; simp [*]; done)))); (focus (exact fun _ => rfl)); (focus decide); (focus (intro a; first | rfl | simp)); (focus (simp [maxCells] <;> omega))) | (refine after_intro fun v2 H2 hv2 hnx2 hget2 hnew2 hone2 hcel2 => ?_))
  · have hl : out.length < l.sights.xs.length := by assumption
    have h0 : 0 < out.length := by assumption
    rw [hP.h, (go1 h0 hl _ rfl).h.1 (by assumption)]; rfl
  · have hl : out.length < l.sights.xs.length := by assumption
    have h0 : 0 < out.length := by assumption
    refine ⟨out ++ [meetS (ofF l.sights.xs[out.length]) (on (out.length - 1) (out[out.length - 1]'(by omega)))], by simp; omega, by simp, by simp; omega, hv2, ?_, ⟨(go1 h0 hl _ rfl).h.2 (by omega)⟩⟩
    intro s hs
    rcases List.mem_append.1 hs with h | h
    · exact hok s h
    · simp at h; subst h
      exact okSp_meet (hofs _ (List.getElem_mem _)) (hw1 _ _ (hok1 h0))
  · have hl : out.length < l.sights.xs.length := by assumption
    have h0 : out.length ≤ 0 := by assumption
    rw [hP.h, (go0 h0 hl).h.1 (by assumption)]; rfl
  · have hl : out.length < l.sights.xs.length := by assumption
    have h0 : out.length ≤ 0 := by assumption
    refine ⟨out ++ [ofF l.sights.xs[out.length]], by simp; omega, by simp, by simp; omega, hv2, ?_, ⟨(go0 h0 hl).h.2 (by omega)⟩⟩
    intro s hs
    rcases List.mem_append.1 hs with h | h
    · exact hok s h
    · simp at h; subst h
      exact hofs _ (List.getElem_mem _)
  have hl : out.length = l.sights.xs.length := by omega
  have hP2 : Hide (P = thrPV (some (bwdS back 0 out))) := ⟨by rw [hP.h, hn.h, List.drop_eq_nil_of_le (by simp; omega)]; simp [fwdS]⟩
  clear hP hn go0 go1 hl1 hl2 hl3 hok1 hyi hlt2 hne1 hne2 ha hfr
  have hrow := hob (by omega)
  have hlt1 := hlt (by omega)
  clear hob hlt
  obtain ⟨id, hid, hget⟩ := hg.1.row (by intro e; rw [e] at hl; simp at hl; omega)
  have hw2' : IntKind.i64.wrap ((l.sights.xs.length : Int) - 2) = (l.sights.xs.length : Int) - 2 := wrap64 (by omega) (by omega)
  have hlen3 := hg.1.len
  clear hg hlen2 hrow hlt1
  (repeat' first | simp [*, initEnv] | (refine wpIf_two (fun _ h => ?_) (fun _ h => ?_) <;> try simp [-Nat.le_zero_eq] at h) | (apply wpE_appendV; (focus (first | assumption | (repeat' first | assumption | with_reducible apply GrowV.setNew | with_reducible apply GrowV.alloc | with_reducible apply GrowV.set | (with_reducible show ¬ Names _ _; simp [*]; done)))); (focus (exact fun _ => rfl)); (focus decide); (focus (intro a; first | rfl | simp)); (focus (simp [maxCells] <;> omega))) | (refine after_intro fun v2 H2 hv2 hnx2 hget2 hnew2 hone2 hcel2 => ?_))
  refine wp_loopF [(14, 14), (64, 99)] (fun (j : Nat) env H => env 14 = .pure (.int .i64 ((j : Int) - 1)) ∧ j + 1 ≤ l.sights.xs.length ∧ H.get id = .cells true (rowOf Span.cells (out.take j ++ bwdS back j (out.drop j)))) (fun j => j) (l.sights.xs.length - 1) ?_ ?_ ?_ ?_
  · decide
  · have h8 : out.take (l.sights.xs.length - 1) ++ bwdS back (l.sights.xs.length - 1) (out.drop (l.sights.xs.length - 1)) = out := by
      rw [bwdS_last (by omega), List.take_append_drop]
    refine ⟨?_, by omega, by rw [h8]; exact hget⟩
    simp
    omega
  · simp only [loopFuel]; omega
  rintro j env2 H2 ⟨h14, hj, hget2⟩
  cases j with
  | zero =>
    have h14' : env2 14 = .pure (.int .i64 (-1)) := by simpa using h14
    clear h14
    rw [List.take_zero, List.nil_append, List.drop_zero] at hget2
    have hbl : (bwdS back 0 out).length = l.sights.xs.length := by rw [bwdS_length, hl]
    have hown : OwnV Span.cells 2 H2 (.row id 2 0 l.sights.xs.length) (bwdS back 0 out) := .inr ⟨id, by rw [hbl], hget2⟩
    have hne : bwdS back 0 out ≠ [] := by intro e; rw [e] at hbl; simp at hbl; omega
    obtain ⟨ids, hids⟩ := GrowV.res (n := 9) ⟨hown, fun e => absurd e hne⟩ (fun _ => rfl)
    have hP3 : P = .tup [(Sl.of (bwdS back 0 out)).pv Span.cells 2, .bool true] := hP2.h
    (repeat' first | simp [*, initEnv] | (refine wpIf_two (fun _ h => ?_) (fun _ h => ?_) <;> try simp [-Nat.le_zero_eq] at h) | (apply wpE_appendV; (focus (first | assumption | (repeat' first | assumption | with_reducible apply GrowV.setNew | with_reducible apply GrowV.alloc | with_reducible apply GrowV.set | (with_reducible show ¬ Names _ _; simp [*]; done)))); (focus (exact fun _ => rfl)); (focus decide); (focus (intro a; first | rfl | simp)); (focus (simp [maxCells] <;> omega))) | (refine after_intro fun v2 H2 hv2 hnx2 hget2 hnew2 hone2 hcel2 => ?_))
  | succ k =>
    have h14' : env2 14 = .pure (.int .i64 (k : Nat)) := by rw [h14]; congr 2; omega
    clear h14
    have hB : ((bwdS back (k+1) (out.drop (k+1))).length = l.sights.xs.length - (k + 1)) := by rw [bwdS_length]; simp; omega
    have c0 : (out.take (k+1) ++ bwdS back (k+1) (out.drop (k+1))).length = l.sights.xs.length := by rw [List.length_append, hB, List.length_take]; omega
    have c2 : ∀ h, (out.take (k+1) ++ bwdS back (k+1) (out.drop (k+1)))[k]'h = out[k]'(by omega) := fun h => by
      rw [List.getElem_append_left (by simp; omega)]; simp
    have c3 : ∀ h, (out.take (k+1) ++ bwdS back (k+1) (out.drop (k+1)))[k+1]'h = (bwdS back (k+1) (out.drop (k+1)))[0]'(by omega) := fun h => by
      rw [List.getElem_append_right (by simp; omega)]
      congr 1
      simp; omega
    have c4 : ∀ h, okSp ((out.take (k+1) ++ bwdS back (k+1) (out.drop (k+1)))[k+1]'h) := fun h => by
      rw [c3]
      exact bwd_ok hw2 _ _ (fun s hs => hok s (List.mem_of_mem_drop hs)) _ (List.getElem_mem _)
    have c5 : ∀ h1 h2, (out.take (k+1) ++ bwdS back (k+1) (out.drop (k+1))).set k (meetS ((out.take (k+1) ++ bwdS back (k+1) (out.drop (k+1)))[k]'h1) (back k ((out.take (k+1) ++ bwdS back (k+1) (out.drop (k+1)))[k+1]'h2))) = out.take k ++ bwdS back k (out.drop k) := fun h1 h2 => by
      rw [c2, c3, bwdS_step (j := k) (by omega), List.set_append_left _ _ (by simp; omega), ← take_succ' (xs := out) (i := k) (by omega)]
      rw [List.set_append_right _ _ (by rw [List.length_take]; omega)]
      simp
      congr 1
      simp [Nat.min_eq_left (show k ≤ out.length by omega)] <;> omega
    obtain ⟨cur, e1, d0, d4, d5⟩ : ∃ cur : List Span, H2.get id = .cells true (rowOf Span.cells cur) ∧ cur.length = l.sights.xs.length ∧ (∀ h, okSp (cur[k+1]'h)) ∧ (∀ h1 h2, cur.set k (meetS (cur[k]'h1) (back k (cur[k+1]'h2))) = out.take k ++ bwdS back k (out.drop k)) := ⟨_, hget2, c0, c4, c5⟩
    clear c0 c2 c3 c4 c5 hB hget2
    have hk1 : k + 1 < l.sights.xs.length := by omega
    have hk0 : k < l.sights.xs.length := by omega
    have hfit2 : k < 9223372036854775807 := by omega
    have c6 := d4 (by omega)
    have hid2 := nx_of_get e1
    have hyk := hyr k hk1
    have c5' : Hide _ := ⟨d5 (by omega) (by omega)⟩
    clear d5 d4
    (repeat' first | simp [*, initEnv] | (refine wpIf_two (fun _ h => ?_) (fun _ h => ?_) <;> try simp [-Nat.le_zero_eq] at h) | (apply wpE_appendV; (focus (first | assumption | (repeat' first | assumption | with_reducible apply GrowV.setNew | with_reducible apply GrowV.alloc | with_reducible apply GrowV.set | (with_reducible show ¬ Names _ _; simp [*]; done)))); (focus (exact fun _ => rfl)); (focus decide); (focus (intro a; first | rfl | simp)); (focus (simp [maxCells] <;> omega))) | (refine after_intro fun v2 H2 hv2 hnx2 hget2 hnew2 hone2 hcel2 => ?_))
    exact ⟨k, by omega, wrap64 (by omega) (by omega), by omega, by rw [c5'.h]⟩
end Go.Proofs.YtjjkgamklbgnlaaGreat.Vm
