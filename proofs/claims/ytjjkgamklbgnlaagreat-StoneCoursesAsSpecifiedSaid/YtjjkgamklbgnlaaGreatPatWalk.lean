/- What the functions of patterns and sights compute: the program's, and the specification's. -/
import Derived.Test.YtjjkgamklbgnlaaGreatVmKit
import Derived.Test.YtjjkgamklbgnlaaGreatVmG
namespace Go.Proofs.YtjjkgamklbgnlaaGreat.Vm
open Go
set_option linter.unusedSimpArgs false
set_option linter.unusedVariables false
set_option maxHeartbeats 4000000

structure Span where
  lo : Int
  hi : Int
  deriving Inhabited
@[simp] def Span.cells (s : Span) : List PV := [.int .i64 s.lo, .int .i64 s.hi]
@[simp] theorem Span.eta (s : Span) : (⟨s.lo, s.hi⟩ : Span) = s := rfl
@[simp] theorem asF_Span (x0 : Int) (x1 : Int) (P : Span → Prop) {u} : asF Span.cells [.pure (.int .i64 x0), .pure (.int .i64 x1)] P u ↔ P ⟨x0, x1⟩ := by
  constructor
  · rintro ⟨a, h, hp⟩
    simp [Span.cells] at h
    obtain ⟨rfl, rfl⟩ := h
    exact hp
  · intro h; exact ⟨_, rfl, h⟩
@[simp] theorem putIn_Span {l : List Span} {i : Nat} (x0 : Int) (x1 : Int) (h : i < l.length) : putIn (.cells true (rowOf Span.cells l)) 2 (i * 2) [.pure (.int .i64 x0), .pure (.int .i64 x1)] = some (.cells true (rowOf Span.cells (l.set i ⟨x0, x1⟩))) := putIn_rowG (f := Span.cells) (a := ⟨x0, x1⟩) (fun _ => rfl) (fun _ => by first | rfl | simp) (by decide) h
structure Box where
  x : Span
  y : Span
  deriving Inhabited
@[simp] def Box.cells (s : Box) : List PV := [.int .i64 s.x.lo, .int .i64 s.x.hi, .int .i64 s.y.lo, .int .i64 s.y.hi]
@[simp] theorem Box.eta (s : Box) : (⟨s.x, s.y⟩ : Box) = s := rfl
@[simp] theorem asF_Box (x0 : Int) (x1 : Int) (x2 : Int) (x3 : Int) (P : Box → Prop) {u} : asF Box.cells [.pure (.int .i64 x0), .pure (.int .i64 x1), .pure (.int .i64 x2), .pure (.int .i64 x3)] P u ↔ P ⟨⟨x0, x1⟩, ⟨x2, x3⟩⟩ := by
  constructor
  · rintro ⟨a, h, hp⟩
    simp [Box.cells] at h
    obtain ⟨rfl, rfl, rfl, rfl⟩ := h
    exact hp
  · intro h; exact ⟨_, rfl, h⟩
@[simp] theorem putIn_Box {l : List Box} {i : Nat} (x0 : Int) (x1 : Int) (x2 : Int) (x3 : Int) (h : i < l.length) : putIn (.cells true (rowOf Box.cells l)) 4 (i * 4) [.pure (.int .i64 x0), .pure (.int .i64 x1), .pure (.int .i64 x2), .pure (.int .i64 x3)] = some (.cells true (rowOf Box.cells (l.set i ⟨⟨x0, x1⟩, ⟨x2, x3⟩⟩))) := putIn_rowG (f := Box.cells) (a := ⟨⟨x0, x1⟩, ⟨x2, x3⟩⟩) (fun _ => rfl) (fun _ => by first | rfl | simp) (by decide) h
structure Sight where
  id : Int
  year : Int
  box : Box
  letters : List UInt8
  height : Span
  deriving Inhabited
@[simp] def Sight.cells (s : Sight) : List PV := [.int .i64 s.id, .int .i64 s.year, .int .i64 s.box.x.lo, .int .i64 s.box.x.hi, .int .i64 s.box.y.lo, .int .i64 s.box.y.hi, .str ⟨(s.letters).toArray⟩, .int .i64 s.height.lo, .int .i64 s.height.hi]
@[simp] theorem Sight.eta (s : Sight) : (⟨s.id, s.year, s.box, s.letters, s.height⟩ : Sight) = s := rfl
@[simp] theorem asF_Sight (x0 : Int) (x1 : Int) (x2 : Int) (x3 : Int) (x4 : Int) (x5 : Int) (x6 : List UInt8) (x7 : Int) (x8 : Int) (P : Sight → Prop) {u} : asF Sight.cells [.pure (.int .i64 x0), .pure (.int .i64 x1), .pure (.int .i64 x2), .pure (.int .i64 x3), .pure (.int .i64 x4), .pure (.int .i64 x5), .pure (.str ⟨(x6).toArray⟩), .pure (.int .i64 x7), .pure (.int .i64 x8)] P u ↔ P ⟨x0, x1, ⟨⟨x2, x3⟩, ⟨x4, x5⟩⟩, x6, ⟨x7, x8⟩⟩ := by
  constructor
  · rintro ⟨a, h, hp⟩
    simp [Sight.cells] at h
    obtain ⟨rfl, rfl, rfl, rfl, rfl, rfl, rfl, rfl, rfl⟩ := h
    exact hp
  · intro h; exact ⟨_, rfl, h⟩
@[simp] theorem putIn_Sight {l : List Sight} {i : Nat} (x0 : Int) (x1 : Int) (x2 : Int) (x3 : Int) (x4 : Int) (x5 : Int) (x6 : List UInt8) (x7 : Int) (x8 : Int) (h : i < l.length) : putIn (.cells true (rowOf Sight.cells l)) 9 (i * 9) [.pure (.int .i64 x0), .pure (.int .i64 x1), .pure (.int .i64 x2), .pure (.int .i64 x3), .pure (.int .i64 x4), .pure (.int .i64 x5), .pure (.str ⟨(x6).toArray⟩), .pure (.int .i64 x7), .pure (.int .i64 x8)] = some (.cells true (rowOf Sight.cells (l.set i ⟨x0, x1, ⟨⟨x2, x3⟩, ⟨x4, x5⟩⟩, x6, ⟨x7, x8⟩⟩))) := putIn_rowG (f := Sight.cells) (a := ⟨x0, x1, ⟨⟨x2, x3⟩, ⟨x4, x5⟩⟩, x6, ⟨x7, x8⟩⟩) (fun _ => rfl) (fun _ => by first | rfl | simp) (by decide) h

theorem sh49 : G.shared 49 = false := by decide
theorem e49 (n : Nat) (a b c : Int) : callP G (n + 1) 49 [.int .i64 a, .int .i64 b, .int .i64 c] = some (.bool (decide (b ≤ a) && decide (a ≤ c))) := by
  refine callP_of (ext_none _) rfl g49 rfl ?_
  (repeat' first | simp [*, initEnv, c49] | (refine wpIf_two (fun _ h => ?_) (fun _ h => ?_) <;> try simp [-Nat.le_zero_eq] at h) | (apply wpE_appendV; (focus (first | assumption | (repeat' first | assumption | with_reducible apply GrowV.setNew | with_reducible apply GrowV.alloc | with_reducible apply GrowV.set | (with_reducible show ¬ Names _ _; simp [*]; done)))); (focus (exact fun _ => rfl)); (focus decide); (focus (intro a; first | rfl | simp)); (focus (simp [maxCells] <;> omega))) | (refine after_intro fun v2 H2 hv2 hnx2 hget2 hnew2 hone2 hcel2 => ?_))
@[simp] theorem d49 (n : Nat) (H : Heap) (a : Int) (b : Int) (c : Int) : doCall (calleeOf G (n + 1)) H (.pure (.func 49 [])) [.pure (.int .i64 a), .pure (.int .i64 b), .pure (.int .i64 c)] = some (.val (.pure (.bool (decide (b ≤ a) && decide (a ≤ c))))) :=
  call_pureC (ps := [_, _, _]) (caps := []) sh49 (e49 n a b c)
theorem sh126 : G.shared 126 = false := by decide
theorem e126 (n : Nat) (a b c : Int) : callP G (n + 1) 126 [.int .i64 a, .int .i64 b, .int .i64 c] = some (.bool (decide (b ≤ a) && decide (a ≤ c))) := by
  refine callP_of (ext_none _) rfl g126 rfl ?_
  (repeat' first | simp [*, initEnv, c126] | (refine wpIf_two (fun _ h => ?_) (fun _ h => ?_) <;> try simp [-Nat.le_zero_eq] at h) | (apply wpE_appendV; (focus (first | assumption | (repeat' first | assumption | with_reducible apply GrowV.setNew | with_reducible apply GrowV.alloc | with_reducible apply GrowV.set | (with_reducible show ¬ Names _ _; simp [*]; done)))); (focus (exact fun _ => rfl)); (focus decide); (focus (intro a; first | rfl | simp)); (focus (simp [maxCells] <;> omega))) | (refine after_intro fun v2 H2 hv2 hnx2 hget2 hnew2 hone2 hcel2 => ?_))
@[simp] theorem d126 (n : Nat) (H : Heap) (a : Int) (b : Int) (c : Int) : doCall (calleeOf G (n + 1)) H (.pure (.func 126 [])) [.pure (.int .i64 a), .pure (.int .i64 b), .pure (.int .i64 c)] = some (.val (.pure (.bool (decide (b ≤ a) && decide (a ≤ c))))) :=
  call_pureC (ps := [_, _, _]) (caps := []) sh126 (e126 n a b c)
theorem sh54 : G.shared 54 = false := by decide
theorem e54 (n : Nat) (a b c : Int) : callP G (n + 1) 54 [.int .i64 a, .int .i64 b, .int .i64 c] = some (.bool (decide (b ≤ a) && decide (a ≤ c))) := by
  refine callP_of (ext_none _) rfl g54 rfl ?_
  (repeat' first | simp [*, initEnv, c54] | (refine wpIf_two (fun _ h => ?_) (fun _ h => ?_) <;> try simp [-Nat.le_zero_eq] at h) | (apply wpE_appendV; (focus (first | assumption | (repeat' first | assumption | with_reducible apply GrowV.setNew | with_reducible apply GrowV.alloc | with_reducible apply GrowV.set | (with_reducible show ¬ Names _ _; simp [*]; done)))); (focus (exact fun _ => rfl)); (focus decide); (focus (intro a; first | rfl | simp)); (focus (simp [maxCells] <;> omega))) | (refine after_intro fun v2 H2 hv2 hnx2 hget2 hnew2 hone2 hcel2 => ?_))
@[simp] theorem d54 (n : Nat) (H : Heap) (a : Int) (b : Int) (c : Int) : doCall (calleeOf G (n + 1)) H (.pure (.func 54 [])) [.pure (.int .i64 a), .pure (.int .i64 b), .pure (.int .i64 c)] = some (.val (.pure (.bool (decide (b ≤ a) && decide (a ≤ c))))) :=
  call_pureC (ps := [_, _, _]) (caps := []) sh54 (e54 n a b c)
theorem sh127 : G.shared 127 = false := by decide
theorem e127 (n : Nat) (a b c : Int) : callP G (n + 1) 127 [.int .i64 a, .int .i64 b, .int .i64 c] = some (.bool (decide (b ≤ a) && decide (a ≤ c))) := by
  refine callP_of (ext_none _) rfl g127 rfl ?_
  (repeat' first | simp [*, initEnv, c127] | (refine wpIf_two (fun _ h => ?_) (fun _ h => ?_) <;> try simp [-Nat.le_zero_eq] at h) | (apply wpE_appendV; (focus (first | assumption | (repeat' first | assumption | with_reducible apply GrowV.setNew | with_reducible apply GrowV.alloc | with_reducible apply GrowV.set | (with_reducible show ¬ Names _ _; simp [*]; done)))); (focus (exact fun _ => rfl)); (focus decide); (focus (intro a; first | rfl | simp)); (focus (simp [maxCells] <;> omega))) | (refine after_intro fun v2 H2 hv2 hnx2 hget2 hnew2 hone2 hcel2 => ?_))
@[simp] theorem d127 (n : Nat) (H : Heap) (a : Int) (b : Int) (c : Int) : doCall (calleeOf G (n + 1)) H (.pure (.func 127 [])) [.pure (.int .i64 a), .pure (.int .i64 b), .pure (.int .i64 c)] = some (.val (.pure (.bool (decide (b ≤ a) && decide (a ≤ c))))) :=
  call_pureC (ps := [_, _, _]) (caps := []) sh127 (e127 n a b c)

def spanS (s : Span) : Bool := (decide (-1048576 ≤ s.lo) && decide (s.lo ≤ 1048576)) && (decide (s.lo ≤ s.hi) && decide (s.hi ≤ 1048576))
theorem sh98 : G.shared 98 = false := by decide
theorem e98 (n : Nat) (s : Span) : callP G (n + 2) 98 [.agg s.cells] = some (.bool (spanS s)) := by
  refine callP_of (ext_none _) rfl g98 rfl ?_
  (repeat' first | simp [*, initEnv, c98, Span.cells, spanS] | (refine wpIf_two (fun _ h => ?_) (fun _ h => ?_) <;> try simp [-Nat.le_zero_eq] at h) | (apply wpE_appendV; (focus (first | assumption | (repeat' first | assumption | with_reducible apply GrowV.setNew | with_reducible apply GrowV.alloc | with_reducible apply GrowV.set | (with_reducible show ¬ Names _ _; simp [*]; done)))); (focus (exact fun _ => rfl)); (focus decide); (focus (intro a; first | rfl | simp)); (focus (simp [maxCells] <;> omega))) | (refine after_intro fun v2 H2 hv2 hnx2 hget2 hnew2 hone2 hcel2 => ?_))
@[simp] theorem d98 (n : Nat) (H : Heap) (s_lo : Int) (s_hi : Int) : doCall (calleeOf G (n + 2)) H (.pure (.func 98 [])) [.pure (.agg [.int .i64 s_lo, .int .i64 s_hi])] = some (.val (.pure ((fun (s : Span) => .bool (spanS s)) (⟨s_lo, s_hi⟩ : Span)))) :=
  call_pureC (ps := [_]) (caps := []) sh98 (e98 n (⟨s_lo, s_hi⟩ : Span))
def properS (b : Box) : Bool := spanS b.x && spanS b.y
theorem sh71 : G.shared 71 = false := by decide
theorem e71 (n : Nat) (b : Box) : callP G (n + 3) 71 [.agg b.cells] = some (.bool (properS b)) := by
  refine callP_of (ext_none _) rfl g71 rfl ?_
  (repeat' first | simp [*, initEnv, c71, Box.cells, properS] | (refine wpIf_two (fun _ h => ?_) (fun _ h => ?_) <;> try simp [-Nat.le_zero_eq] at h) | (apply wpE_appendV; (focus (first | assumption | (repeat' first | assumption | with_reducible apply GrowV.setNew | with_reducible apply GrowV.alloc | with_reducible apply GrowV.set | (with_reducible show ¬ Names _ _; simp [*]; done)))); (focus (exact fun _ => rfl)); (focus decide); (focus (intro a; first | rfl | simp)); (focus (simp [maxCells] <;> omega))) | (refine after_intro fun v2 H2 hv2 hnx2 hget2 hnew2 hone2 hcel2 => ?_))
@[simp] theorem d71 (n : Nat) (H : Heap) (b_x_lo : Int) (b_x_hi : Int) (b_y_lo : Int) (b_y_hi : Int) : doCall (calleeOf G (n + 3)) H (.pure (.func 71 [])) [.pure (.agg [.int .i64 b_x_lo, .int .i64 b_x_hi, .int .i64 b_y_lo, .int .i64 b_y_hi])] = some (.val (.pure ((fun (b : Box) => .bool (properS b)) (⟨⟨b_x_lo, b_x_hi⟩, ⟨b_y_lo, b_y_hi⟩⟩ : Box)))) :=
  call_pureC (ps := [_]) (caps := []) sh71 (e71 n (⟨⟨b_x_lo, b_x_hi⟩, ⟨b_y_lo, b_y_hi⟩⟩ : Box))
def validS (x y : Int) : Bool := (decide (-1048576 ≤ x) && decide (x ≤ 1048576)) && (decide (-1048576 ≤ y) && decide (y ≤ 1048576))
theorem sh99 : G.shared 99 = false := by decide
theorem e99 (n : Nat) (x y : Int) : callP G (n + 2) 99 [.agg [.int .i64 x, .int .i64 y]] = some (.bool (validS x y)) := by
  refine callP_of (ext_none _) rfl g99 rfl ?_
  (repeat' first | simp [*, initEnv, c99, validS] | (refine wpIf_two (fun _ h => ?_) (fun _ h => ?_) <;> try simp [-Nat.le_zero_eq] at h) | (apply wpE_appendV; (focus (first | assumption | (repeat' first | assumption | with_reducible apply GrowV.setNew | with_reducible apply GrowV.alloc | with_reducible apply GrowV.set | (with_reducible show ¬ Names _ _; simp [*]; done)))); (focus (exact fun _ => rfl)); (focus decide); (focus (intro a; first | rfl | simp)); (focus (simp [maxCells] <;> omega))) | (refine after_intro fun v2 H2 hv2 hnx2 hget2 hnew2 hone2 hcel2 => ?_))
@[simp] theorem d99 (n : Nat) (H : Heap) (x : Int) (y : Int) : doCall (calleeOf G (n + 2)) H (.pure (.func 99 [])) [.pure (.agg [.int .i64 x, .int .i64 y])] = some (.val (.pure (.bool (validS x y)))) :=
  call_pureC (ps := [_]) (caps := []) sh99 (e99 n x y)
def properR (b : Box) : Bool := validS b.x.lo b.y.lo && validS b.x.hi b.y.hi && decide (b.x.lo ≤ b.x.hi) && decide (b.y.lo ≤ b.y.hi)
theorem sh72 : G.shared 72 = false := by decide
theorem e72 (n : Nat) (b : Box) : callP G (n + 3) 72 [.agg b.cells] = some (.bool (properR b)) := by
  refine callP_of (ext_none _) rfl g72 rfl ?_
  (repeat' first | simp [*, initEnv, c72, Box.cells, properR] | (refine wpIf_two (fun _ h => ?_) (fun _ h => ?_) <;> try simp [-Nat.le_zero_eq] at h) | (apply wpE_appendV; (focus (first | assumption | (repeat' first | assumption | with_reducible apply GrowV.setNew | with_reducible apply GrowV.alloc | with_reducible apply GrowV.set | (with_reducible show ¬ Names _ _; simp [*]; done)))); (focus (exact fun _ => rfl)); (focus decide); (focus (intro a; first | rfl | simp)); (focus (simp [maxCells] <;> omega))) | (refine after_intro fun v2 H2 hv2 hnx2 hget2 hnew2 hone2 hcel2 => ?_))
@[simp] theorem d72 (n : Nat) (H : Heap) (b_x_lo : Int) (b_x_hi : Int) (b_y_lo : Int) (b_y_hi : Int) : doCall (calleeOf G (n + 3)) H (.pure (.func 72 [])) [.pure (.agg [.int .i64 b_x_lo, .int .i64 b_x_hi, .int .i64 b_y_lo, .int .i64 b_y_hi])] = some (.val (.pure ((fun (b : Box) => .bool (properR b)) (⟨⟨b_x_lo, b_x_hi⟩, ⟨b_y_lo, b_y_hi⟩⟩ : Box)))) :=
  call_pureC (ps := [_]) (caps := []) sh72 (e72 n (⟨⟨b_x_lo, b_x_hi⟩, ⟨b_y_lo, b_y_hi⟩⟩ : Box))

def patC (pts : Bool) (c : UInt8) : Bool := (decide ((65 : Int) ≤ c.toNat) && decide ((c.toNat : Int) ≤ 90)) || (pts && decide ((c.toNat : Int) = 46))
def allC (pts : Bool) : List UInt8 → Bool
  | [] => true
  | c :: r => patC pts c && allC pts r
def patS (pts : Bool) (l : List UInt8) : Bool := decide ((1 : Int) ≤ l.length) && decide ((l.length : Int) ≤ 8) && allC pts l
theorem allC_drop {pts : Bool} {l : List UInt8} {i : Nat} (h : i < l.length) : allC pts (l.drop i) = (patC pts l[i] && allC pts (l.drop (i + 1))) := by
  rw [List.drop_eq_getElem_cons h, allC]
theorem allC_end {pts : Bool} {l : List UInt8} {i : Nat} (h : l.length ≤ i) : allC pts (l.drop i) = true := by
  rw [List.drop_eq_nil_of_le h, allC]

theorem sh69 : G.shared 69 = false := by decide
theorem e69 (n : Nat) (l : List UInt8) (pts : Bool) : callP G (n + 2) 69 [.str ⟨l.toArray⟩, .bool pts] = some (.bool (patS pts l)) := by
  refine callP_of (ext_none _) rfl g69 rfl ?_
  (repeat' first | simp [*, initEnv, c69] | (refine wpIf_two (fun _ h => ?_) (fun _ h => ?_) <;> try simp [-Nat.le_zero_eq] at h) | (apply wpE_appendV; (focus (first | assumption | (repeat' first | assumption | with_reducible apply GrowV.setNew | with_reducible apply GrowV.alloc | with_reducible apply GrowV.set | (with_reducible show ¬ Names _ _; simp [*]; done)))); (focus (exact fun _ => rfl)); (focus decide); (focus (intro a; first | rfl | simp)); (focus (simp [maxCells] <;> omega))) | (refine after_intro fun v2 H2 hv2 hnx2 hget2 hnew2 hone2 hcel2 => ?_))
  all_goals try (simp [patS, *]; done)
  refine wp_loop (fun (i : Nat) env H => env 12 = .row 0 1 0 l.length ∧ H.get 0 = .cells true (rowB l) ∧ env 13 = .pure (.int .i64 l.length) ∧
      env 14 = .pure (.int .i64 i) ∧ env 1 = .pure (.bool pts) ∧ i ≤ l.length ∧ patS pts l = allC pts (l.drop i)) (fun i => l.length - i) 0 ?_ ?_ ?_
  · simp [initEnv, Heap.empty, Heap.get, Heap.alloc, patS, *]
  · simp only [loopFuel]; omega
  generalize patS pts l = P
  rintro i env H ⟨h12, hH, h13, h14, h15, hi, hall⟩
  have hfit : i < 9223372036854775807 := by omega
  (repeat' first | simp [*, initEnv] | (refine wpIf_two (fun _ h => ?_) (fun _ h => ?_) <;> try simp [-Nat.le_zero_eq] at h) | (apply wpE_appendV; (focus (first | assumption | (repeat' first | assumption | with_reducible apply GrowV.setNew | with_reducible apply GrowV.alloc | with_reducible apply GrowV.set | (with_reducible show ¬ Names _ _; simp [*]; done)))); (focus (exact fun _ => rfl)); (focus decide); (focus (intro a; first | rfl | simp)); (focus (simp [maxCells] <;> omega))) | (refine after_intro fun v2 H2 hv2 hnx2 hget2 hnew2 hone2 hcel2 => ?_))
  all_goals first
    | (refine ⟨i + 1, by omega, by simp, by omega, ?_⟩; simp [*, allC_drop, patC]; done)
    | (simp [*, allC_drop, patC]; done)
    | (simp [allC_end, *]; done)
@[simp] theorem d69 (n : Nat) (H : Heap) (l : List UInt8) (pts : Bool) : doCall (calleeOf G (n + 2)) H (.pure (.func 69 [])) [.pure (.str ⟨l.toArray⟩), .pure (.bool pts)] = some (.val (.pure (.bool (patS pts l)))) :=
  call_pureC (ps := [_, _]) (caps := []) sh69 (e69 n l pts)

def patR (l : List UInt8) : Bool := allC true l && decide ((1 : Int) ≤ l.length) && decide ((l.length : Int) ≤ 8)
theorem patC_dot {c : UInt8} (h : (c.toNat : Int) = 46) : patC true c = true := by simp [patC, h]
theorem patC_not {c : UInt8} (h : ¬ (c.toNat : Int) = 46) : patC true c = (decide ((65 : Int) ≤ c.toNat) && decide ((c.toNat : Int) ≤ 90)) := by simp [patC, h]

theorem sh70 : G.shared 70 = false := by decide
theorem e70 (n : Nat) (l : List UInt8) (hl : l.length < 1152921504606846975) : callP G (n + 1) 70 [.str ⟨l.toArray⟩] = some (.bool (patR l)) := by
  refine callP_of (ext_none _) rfl g70 rfl ?_
  (repeat' first | simp [*, initEnv, c70] | (refine wpIf_two (fun _ h => ?_) (fun _ h => ?_) <;> try simp [-Nat.le_zero_eq] at h) | (apply wpE_appendV; (focus (first | assumption | (repeat' first | assumption | with_reducible apply GrowV.setNew | with_reducible apply GrowV.alloc | with_reducible apply GrowV.set | (with_reducible show ¬ Names _ _; simp [*]; done)))); (focus (exact fun _ => rfl)); (focus decide); (focus (intro a; first | rfl | simp)); (focus (simp [maxCells] <;> omega))) | (refine after_intro fun v2 H2 hv2 hnx2 hget2 hnew2 hone2 hcel2 => ?_))
  refine wp_loop (fun (i : Nat) env H => env 0 = .pure (.str ⟨l.toArray⟩) ∧
      env 3 = .pure (.int .i64 i) ∧ i ≤ l.length ∧ allC true l = allC true (l.drop i)) (fun i => l.length - i) 0 ?_ ?_ ?_
  · simp [initEnv]
  · simp only [loopFuel]; omega
  rintro i env H ⟨h0, h3, hi, hall⟩
  have hfit : i < 9223372036854775807 := by omega
  have hP : patR l = (allC true (l.drop i) && decide ((1 : Int) ≤ l.length) && decide ((l.length : Int) ≤ 8)) := by rw [patR, hall]
  generalize patR l = P at *
  (repeat' first | simp [*, initEnv] | (refine wpIf_two (fun _ h => ?_) (fun _ h => ?_) <;> try simp [-Nat.le_zero_eq] at h) | (apply wpE_appendV; (focus (first | assumption | (repeat' first | assumption | with_reducible apply GrowV.setNew | with_reducible apply GrowV.alloc | with_reducible apply GrowV.set | (with_reducible show ¬ Names _ _; simp [*]; done)))); (focus (exact fun _ => rfl)); (focus decide); (focus (intro a; first | rfl | simp)); (focus (simp [maxCells] <;> omega))) | (refine after_intro fun v2 H2 hv2 hnx2 hget2 hnew2 hone2 hcel2 => ?_))
  all_goals first
    | (refine ⟨i + 1, by omega, by simp, by omega, ?_⟩; simp [*, allC_drop, patC]; done)
    | (simp [*, allC_drop, patC]; done)
    | (simp [*, allC_end, patR]; done)
    | (intro h9; rw [allC_drop (by assumption)] at h9; simp [patC] at h9; omega)
@[simp] theorem d70 (n : Nat) (H : Heap) (l : List UInt8) (hl : l.length < 1152921504606846975) : doCall (calleeOf G (n + 1)) H (.pure (.func 70 [])) [.pure (.str ⟨l.toArray⟩)] = some (.val (.pure (.bool (patR l)))) :=
  call_pureC (ps := [_]) (caps := []) sh70 (e70 n l hl)

/-- What two patterns tell together, place by place. -/
def blendL : List UInt8 → List UInt8 → Option (List UInt8)
  | a :: p, b :: q => if (a.toNat : Int) = 46 then (blendL p q).map (b :: ·) else if ¬ (b.toNat : Int) = 46 ∧ ¬ (b.toNat : Int) = a.toNat then none else (blendL p q).map (a :: ·)
  | _, _ => some []
theorem blend_step {p q : List UInt8} {i : Nat} (hp : i < p.length) (hq : i < q.length) : blendL (p.drop i) (q.drop i) =
    if (p[i].toNat : Int) = 46 then (blendL (p.drop (i + 1)) (q.drop (i + 1))).map (q[i] :: ·) else if ¬ (q[i].toNat : Int) = 46 ∧ ¬ (q[i].toNat : Int) = p[i].toNat then none else (blendL (p.drop (i + 1)) (q.drop (i + 1))).map (p[i] :: ·) := by
  rw [List.drop_eq_getElem_cons hp, List.drop_eq_getElem_cons hq, blendL]
def okB (p q : List UInt8) : Bool := patS true p && patS true q && decide ((p.length : Int) = q.length)
def strP (l : List UInt8) : PV := .str ⟨l.toArray⟩
def blendS (p q : List UInt8) : PV := if okB p q = true then (match blendL p q with | some r => .tup [strP r, .bool true] | none => .tup [strP [], .bool false]) else .tup [strP [], .bool false]
theorem strP_nil : (PV.str ⟨#[]⟩) = strP [] := rfl

def rowB2 (l m : List UInt8) : List AV := rowB (l ++ m)

theorem sh28 : G.shared 28 = false := by decide
theorem e28 (n : Nat) (p q : List UInt8) : callP G (n + 3) 28 [.str ⟨p.toArray⟩, .str ⟨q.toArray⟩] = some (blendS p q) := by
  refine callP_of (ext_none _) rfl g28 rfl ?_
  (repeat' first | simp [*, initEnv, c28] | (refine wpIf_two (fun _ h => ?_) (fun _ h => ?_) <;> try simp [-Nat.le_zero_eq] at h) | (apply wpE_appendV; (focus (first | assumption | (repeat' first | assumption | with_reducible apply GrowV.setNew | with_reducible apply GrowV.alloc | with_reducible apply GrowV.set | (with_reducible show ¬ Names _ _; simp [*]; done)))); (focus (exact fun _ => rfl)); (focus decide); (focus (intro a; first | rfl | simp)); (focus (simp [maxCells] <;> omega))) | (refine after_intro fun v2 H2 hv2 hnx2 hget2 hnew2 hone2 hcel2 => ?_))
  all_goals try (simp [blendS, okB, *, strP]; done)
  have hS : blendS p q = match blendL p q with | some r => .tup [strP r, .bool true] | none => .tup [strP [], .bool false] := by simp [blendS, okB, *]
  have hq : p.length = q.length := by omega
  have hlen : p.length ≤ 8 := by have h8 : patS true p = true := by assumption
                                 simp [patS] at h8; omega
  refine wp_loop (fun (d : List UInt8) env H => env 6 = .row 0 1 0 p.length ∧ H.get 0 = .cells true (rowB (d ++ p.drop d.length)) ∧ env 26 = .pure (.int .i64 p.length) ∧
      env 27 = .pure (.int .i64 d.length) ∧ env 1 = .pure (.str ⟨q.toArray⟩) ∧ d.length ≤ p.length ∧ blendL p q = (blendL (p.drop d.length) (q.drop d.length)).map (d ++ ·)) (fun d => p.length - d.length) [] ?_ ?_ ?_
  · simp [initEnv, Heap.empty, Heap.get, Heap.alloc, *]
  · simp only [loopFuel]; simp; omega
  have hnone : blendL p q = none → blendS p q = .tup [strP [], .bool false] := fun h => by rw [hS, h]
  have hsome : ∀ r, blendL p q = some r → blendS p q = .tup [strP r, .bool true] := fun r h => by rw [hS, h]
  clear hS
  generalize blendS p q = P at *
  have hql : ∀ i, i < p.length → i < q.length := fun i h => by omega
  rename decide ((p.length : Int) = q.length) = true => hx1
  rename (p.length : Int) = q.length => hx2
  clear hq hx1 hx2
  rintro d env H ⟨h6, hH, h26, h27, h1, hi, hall⟩
  have hfit : d.length < 9223372036854775807 := by omega
  have hnx := nx_of_get hH
  have hget : ∀ h, (d ++ p.drop d.length)[d.length]'h = p[d.length]'(by simp at h; omega) := fun h => by simp
  have hlq := hql d.length
  have hln : d.length + (p.length - d.length) = p.length := by omega
  (repeat' first | simp [*, initEnv] | (refine wpIf_two (fun _ h => ?_) (fun _ h => ?_) <;> try simp [-Nat.le_zero_eq] at h) | (apply wpE_appendV; (focus (first | assumption | (repeat' first | assumption | with_reducible apply GrowV.setNew | with_reducible apply GrowV.alloc | with_reducible apply GrowV.set | (with_reducible show ¬ Names _ _; simp [*]; done)))); (focus (exact fun _ => rfl)); (focus decide); (focus (intro a; first | rfl | simp)); (focus (simp [maxCells] <;> omega))) | (refine after_intro fun v2 H2 hv2 hnx2 hget2 hnew2 hone2 hcel2 => ?_))
  · have hlt : d.length < p.length := by assumption
    have hc : (p[d.length].toNat : Int) = 46 := by assumption
    refine ⟨d ++ [q[d.length]'(hlq hlt)], by simp; omega, ?_, by simp, by simp; omega, ?_⟩
    · have h9 : (p.drop d.length).set 0 (q[d.length]'(hlq hlt)) = q[d.length]'(hlq hlt) :: p.drop (d.length + 1) := by rw [List.drop_eq_getElem_cons hlt, List.set_cons_zero]
      rw [h9]; simp
    · rw [blend_step hlt (hlq hlt), if_pos hc]; simp [Function.comp_def]
  · have hlt : d.length < p.length := by assumption
    have hc : ¬ (p[d.length].toNat : Int) = 46 := by assumption
    have hb : (q[d.length]'(hlq hlt)).toNat = (46 : Int) := by assumption
    refine ⟨d ++ [p[d.length]], by simp; omega, ?_, by simp, by simp; omega, ?_⟩
    · rw [List.drop_eq_getElem_cons hlt]; simp
    · rw [blend_step hlt (hlq hlt), if_neg hc, if_neg (fun h => h.1 hb)]; simp [Function.comp_def]
  · have hlt : d.length < p.length := by assumption
    have hc : ¬ (p[d.length].toNat : Int) = 46 := by assumption
    have hb : ((q[d.length]'(hlq hlt)).toNat : Int) = p[d.length].toNat := by assumption
    refine ⟨d ++ [p[d.length]], by simp; omega, ?_, by simp, by simp; omega, ?_⟩
    · rw [List.drop_eq_getElem_cons hlt]; simp
    · rw [blend_step hlt (hlq hlt), if_neg hc, if_neg (fun h => h.2 hb)]; simp [Function.comp_def]
  · have hlt : d.length < p.length := by assumption
    have hc : ¬ (p[d.length].toNat : Int) = 46 := by assumption
    have hb : ¬ ((q[d.length]'(hlq hlt)).toNat : Int) = 46 := by assumption
    have hb2 : ¬ ((q[d.length]'(hlq hlt)).toNat : Int) = p[d.length].toNat := by assumption
    rw [hnone (by rw [hall, blend_step hlt (hlq hlt), if_neg hc, if_pos ⟨hb, hb2⟩]; rfl)]
    rfl
  · have he : d.length = p.length := by omega
    have h0 : p.drop d.length = [] := List.drop_eq_nil_of_le (by omega)
    rw [hsome d (by rw [hall, h0]; simp [blendL])]
    rw [h0]
    simp [strP, he]
@[simp] theorem d28 (n : Nat) (H : Heap) (p : List UInt8) (q : List UInt8) : doCall (calleeOf G (n + 3)) H (.pure (.func 28 [])) [.pure (.str ⟨p.toArray⟩), .pure (.str ⟨q.toArray⟩)] = some (.val (.pure (blendS p q))) :=
  call_pureC (ps := [_, _]) (caps := []) sh28 (e28 n p q)

theorem sh32 : G.shared 32 = false := by decide
theorem e32 (n : Nat) (p q : List UInt8) : callP G (n + 4) 32 [.str ⟨p.toArray⟩, .str ⟨q.toArray⟩] = some (.bool (okB p q && (blendL p q).isSome)) := by
  refine callP_of (ext_none _) rfl g32 rfl ?_
  have hB : blendS p q = .tup [strP ((if okB p q = true then blendL p q else none).getD []), .bool (okB p q && (blendL p q).isSome)] := by
    unfold blendS
    cases okB p q <;> cases blendL p q <;> rfl
  (repeat' first | simp [*, initEnv, c32] | (refine wpIf_two (fun _ h => ?_) (fun _ h => ?_) <;> try simp [-Nat.le_zero_eq] at h) | (apply wpE_appendV; (focus (first | assumption | (repeat' first | assumption | with_reducible apply GrowV.setNew | with_reducible apply GrowV.alloc | with_reducible apply GrowV.set | (with_reducible show ¬ Names _ _; simp [*]; done)))); (focus (exact fun _ => rfl)); (focus decide); (focus (intro a; first | rfl | simp)); (focus (simp [maxCells] <;> omega))) | (refine after_intro fun v2 H2 hv2 hnx2 hget2 hnew2 hone2 hcel2 => ?_))
@[simp] theorem d32 (n : Nat) (H : Heap) (p : List UInt8) (q : List UInt8) : doCall (calleeOf G (n + 4)) H (.pure (.func 32 [])) [.pure (.str ⟨p.toArray⟩), .pure (.str ⟨q.toArray⟩)] = some (.val (.pure (.bool (okB p q && (blendL p q).isSome)))) :=
  call_pureC (ps := [_, _]) (caps := []) sh32 (e32 n p q)
theorem sh30 : G.shared 30 = false := by decide
theorem e30 (n : Nat) (l p : List UInt8) : callP G (n + 5) 30 [.str ⟨l.toArray⟩, .str ⟨p.toArray⟩] = some (.bool (patS false l && (okB l p && (blendL l p).isSome))) := by
  refine callP_of (ext_none _) rfl g30 rfl ?_
  (repeat' first | simp [*, initEnv, c30] | (refine wpIf_two (fun _ h => ?_) (fun _ h => ?_) <;> try simp [-Nat.le_zero_eq] at h) | (apply wpE_appendV; (focus (first | assumption | (repeat' first | assumption | with_reducible apply GrowV.setNew | with_reducible apply GrowV.alloc | with_reducible apply GrowV.set | (with_reducible show ¬ Names _ _; simp [*]; done)))); (focus (exact fun _ => rfl)); (focus decide); (focus (intro a; first | rfl | simp)); (focus (simp [maxCells] <;> omega))) | (refine after_intro fun v2 H2 hv2 hnx2 hget2 hnew2 hone2 hcel2 => ?_))
@[simp] theorem d30 (n : Nat) (H : Heap) (l : List UInt8) (p : List UInt8) : doCall (calleeOf G (n + 5)) H (.pure (.func 30 [])) [.pure (.str ⟨l.toArray⟩), .pure (.str ⟨p.toArray⟩)] = some (.val (.pure (.bool (patS false l && (okB l p && (blendL l p).isSome))))) :=
  call_pureC (ps := [_, _]) (caps := []) sh30 (e30 n l p)

/-- Do two texts agree, place by place? -/
def agreeL : List UInt8 → List UInt8 → Bool
  | a :: p, b :: q => !(!decide ((a.toNat : Int) = b.toNat) && !decide ((a.toNat : Int) = 46) && !decide ((b.toNat : Int) = 46)) && agreeL p q
  | _, _ => true
theorem agree_step {p q : List UInt8} {i : Nat} (hp : i < p.length) (hq : i < q.length) : agreeL (p.drop i) (q.drop i) =
    (!(!decide ((p[i].toNat : Int) = q[i].toNat) && !decide ((p[i].toNat : Int) = 46) && !decide ((q[i].toNat : Int) = 46)) && agreeL (p.drop (i + 1)) (q.drop (i + 1))) := by
  rw [List.drop_eq_getElem_cons hp, List.drop_eq_getElem_cons hq, agreeL]
def agreeR (p q : List UInt8) : Bool := patR p && patR q && decide ((p.length : Int) = q.length) && agreeL p q

theorem sh33 : G.shared 33 = false := by decide
theorem e33 (n : Nat) (p q : List UInt8) (hp : p.length < 1152921504606846975) (hq : q.length < 1152921504606846975) : callP G (n + 2) 33 [.str ⟨p.toArray⟩, .str ⟨q.toArray⟩] = some (.bool (agreeR p q)) := by
  refine callP_of (ext_none _) rfl g33 rfl ?_
  (repeat' first | simp [*, initEnv, c33] | (refine wpIf_two (fun _ h => ?_) (fun _ h => ?_) <;> try simp [-Nat.le_zero_eq] at h) | (apply wpE_appendV; (focus (first | assumption | (repeat' first | assumption | with_reducible apply GrowV.setNew | with_reducible apply GrowV.alloc | with_reducible apply GrowV.set | (with_reducible show ¬ Names _ _; simp [*]; done)))); (focus (exact fun _ => rfl)); (focus decide); (focus (intro a; first | rfl | simp)); (focus (simp [maxCells] <;> omega))) | (refine after_intro fun v2 H2 hv2 hnx2 hget2 hnew2 hone2 hcel2 => ?_))
  all_goals try (simp [agreeR, *]; done)
  have hS : agreeR p q = agreeL p q := by simp [agreeR, *]
  have hlq : ∀ i, i < p.length → i < q.length := fun i h => by omega
  rename decide ((p.length : Int) = q.length) = true => hx1
  rename (p.length : Int) = q.length => hx2
  clear hx1 hx2
  refine wp_loop (fun (i : Nat) env H => env 0 = .pure (.str ⟨p.toArray⟩) ∧ env 1 = .pure (.str ⟨q.toArray⟩) ∧
      env 7 = .pure (.int .i64 i) ∧ i ≤ p.length ∧ agreeR p q = agreeL (p.drop i) (q.drop i)) (fun i => p.length - i) 0 ?_ ?_ ?_
  · simp [initEnv, hS]
  · simp only [loopFuel]; omega
  generalize agreeR p q = P at *
  clear hS
  rintro i env H ⟨h0, h1, h3, hi, hall⟩
  have hfit : i < 9223372036854775807 := by omega
  have hlqi := hlq i
  (repeat' first | simp [*, initEnv] | (refine wpIf_two (fun _ h => ?_) (fun _ h => ?_) <;> try simp [-Nat.le_zero_eq] at h) | (apply wpE_appendV; (focus (first | assumption | (repeat' first | assumption | with_reducible apply GrowV.setNew | with_reducible apply GrowV.alloc | with_reducible apply GrowV.set | (with_reducible show ¬ Names _ _; simp [*]; done)))); (focus (exact fun _ => rfl)); (focus decide); (focus (intro a; first | rfl | simp)); (focus (simp [maxCells] <;> omega))) | (refine after_intro fun v2 H2 hv2 hnx2 hget2 hnew2 hone2 hcel2 => ?_))
  all_goals first
    | (refine ⟨i + 1, by omega, by simp, by omega, ?_⟩; rw [agree_step (by assumption) (by apply hlq; assumption)]; simp [*]; done)
    | (rw [agree_step (by assumption) (by apply hlq; assumption)]; simp [*]; done)
    | (rw [List.drop_eq_nil_of_le (by omega)]; simp [agreeL]; done)
    | skip
@[simp] theorem d33 (n : Nat) (H : Heap) (p : List UInt8) (q : List UInt8) (hp : p.length < 1152921504606846975) (hq : q.length < 1152921504606846975) : doCall (calleeOf G (n + 2)) H (.pure (.func 33 [])) [.pure (.str ⟨p.toArray⟩), .pure (.str ⟨q.toArray⟩)] = some (.val (.pure (.bool (agreeR p q)))) :=
  call_pureC (ps := [_, _]) (caps := []) sh33 (e33 n p q hp hq)

/-- Is there no point in a text? -/
def noDot : List UInt8 → Bool
  | [] => true
  | c :: r => !decide ((c.toNat : Int) = 46) && noDot r
theorem noDot_drop {l : List UInt8} {i : Nat} (h : i < l.length) : noDot (l.drop i) = (!decide ((l[i].toNat : Int) = 46) && noDot (l.drop (i + 1))) := by
  rw [List.drop_eq_getElem_cons h, noDot]
theorem sh31 : G.shared 31 = false := by decide
theorem e31 (n : Nat) (l p : List UInt8) (hl : l.length < 1152921504606846975) (hp : p.length < 1152921504606846975) : callP G (n + 3) 31 [.str ⟨l.toArray⟩, .str ⟨p.toArray⟩] = some (.bool (noDot l && agreeR l p)) := by
  refine callP_of (ext_none _) rfl g31 rfl ?_
  (repeat' first | simp [*, initEnv, c31] | (refine wpIf_two (fun _ h => ?_) (fun _ h => ?_) <;> try simp [-Nat.le_zero_eq] at h) | (apply wpE_appendV; (focus (first | assumption | (repeat' first | assumption | with_reducible apply GrowV.setNew | with_reducible apply GrowV.alloc | with_reducible apply GrowV.set | (with_reducible show ¬ Names _ _; simp [*]; done)))); (focus (exact fun _ => rfl)); (focus decide); (focus (intro a; first | rfl | simp)); (focus (simp [maxCells] <;> omega))) | (refine after_intro fun v2 H2 hv2 hnx2 hget2 hnew2 hone2 hcel2 => ?_))
  refine wp_loop (fun (i : Nat) env H => env 0 = .pure (.str ⟨l.toArray⟩) ∧ env 1 = .pure (.str ⟨p.toArray⟩) ∧
      env 5 = .pure (.int .i64 i) ∧ i ≤ l.length ∧ noDot l = noDot (l.drop i)) (fun i => l.length - i) 0 ?_ ?_ ?_
  · simp [initEnv]
  · simp only [loopFuel]; omega
  generalize noDot l = P at *
  rintro i env H ⟨h0, h1, h3, hi, hall⟩
  have hfit : i < 9223372036854775807 := by omega
  (repeat' first | simp [*, initEnv] | (refine wpIf_two (fun _ h => ?_) (fun _ h => ?_) <;> try simp [-Nat.le_zero_eq] at h) | (apply wpE_appendV; (focus (first | assumption | (repeat' first | assumption | with_reducible apply GrowV.setNew | with_reducible apply GrowV.alloc | with_reducible apply GrowV.set | (with_reducible show ¬ Names _ _; simp [*]; done)))); (focus (exact fun _ => rfl)); (focus decide); (focus (intro a; first | rfl | simp)); (focus (simp [maxCells] <;> omega))) | (refine after_intro fun v2 H2 hv2 hnx2 hget2 hnew2 hone2 hcel2 => ?_))
  all_goals first
    | (refine ⟨i + 1, by omega, by simp, by omega, ?_⟩; rw [noDot_drop (by assumption)]; simp [*]; done)
    | (intro h9; rw [noDot_drop (by assumption)] at h9; simp [*] at h9; done)
    | (rw [List.drop_eq_nil_of_le (by omega)]; simp [noDot]; done)
    | skip
@[simp] theorem d31 (n : Nat) (H : Heap) (l : List UInt8) (p : List UInt8) (hl : l.length < 1152921504606846975) (hp : p.length < 1152921504606846975) : doCall (calleeOf G (n + 3)) H (.pure (.func 31 [])) [.pure (.str ⟨l.toArray⟩), .pure (.str ⟨p.toArray⟩)] = some (.val (.pure (.bool (noDot l && agreeR l p)))) :=
  call_pureC (ps := [_, _]) (caps := []) sh31 (e31 n l p hl hp)
def mixL : List UInt8 → List UInt8 → List UInt8
  | a :: p, b :: q => (if (a.toNat : Int) = 46 then b else a) :: mixL p q
  | _, _ => []
theorem mix_step {p q : List UInt8} {i : Nat} (hp : i < p.length) (hq : i < q.length) : mixL (p.drop i) (q.drop i) = (if (p[i].toNat : Int) = 46 then q[i] else p[i]) :: mixL (p.drop (i + 1)) (q.drop (i + 1)) := by
  rw [List.drop_eq_getElem_cons hp, List.drop_eq_getElem_cons hq, mixL]
theorem sh29 : G.shared 29 = false := by decide
theorem e29 (n : Nat) (p q : List UInt8) (hp : p.length < 1152921504606846975) (hq : q.length < 1152921504606846975) : callP G (n + 3) 29 [.str ⟨p.toArray⟩, .str ⟨q.toArray⟩] = some (.tup [strP (if agreeR p q = true then mixL p q else []), .bool (agreeR p q)]) := by
  refine callP_of (ext_none _) rfl g29 rfl ?_
  (repeat' first | simp [*, initEnv, c29] | (refine wpIf_two (fun _ h => ?_) (fun _ h => ?_) <;> try simp [-Nat.le_zero_eq] at h) | (apply wpE_appendV; (focus (first | assumption | (repeat' first | assumption | with_reducible apply GrowV.setNew | with_reducible apply GrowV.alloc | with_reducible apply GrowV.set | (with_reducible show ¬ Names _ _; simp [*]; done)))); (focus (exact fun _ => rfl)); (focus decide); (focus (intro a; first | rfl | simp)); (focus (simp [maxCells] <;> omega))) | (refine after_intro fun v2 H2 hv2 hnx2 hget2 hnew2 hone2 hcel2 => ?_))
  rotate_left
  · rfl
  have h8 : patR p = true ∧ (p.length : Int) = q.length := by have h9 : agreeR p q = true := by assumption
                                                              simp [agreeR] at h9; exact ⟨h9.1.1.1, by omega⟩
  have hl8 : p.length ≤ 8 := by have := h8.1; simp [patR] at this; omega
  have hlq : ∀ i, i < p.length → i < q.length := fun i h => by have := h8.2; omega
  clear h8
  refine wp_loop (fun (d : List UInt8) env H => env 0 = .pure (.str ⟨p.toArray⟩) ∧ env 1 = .pure (.str ⟨q.toArray⟩) ∧ OwnV bytesF 1 H (env 7) d ∧
      env 8 = .pure (.int .i64 d.length) ∧ d.length ≤ p.length ∧ mixL p q = d ++ mixL (p.drop d.length) (q.drop d.length)) (fun d => p.length - d.length) [] ?_ ?_ ?_
  · simp [initEnv, OwnV.nil]
  · simp only [loopFuel]; simp; omega
  generalize mixL p q = P at *
  rintro d env H ⟨h0, h1, h7, h8, hi, hall⟩
  have hfit : d.length < 9223372036854775807 := by omega
  have hlqi := hlq d.length
  have hts := h7.toStr
  (repeat' first | simp [*, initEnv] | (refine wpIf_two (fun _ h => ?_) (fun _ h => ?_) <;> try simp [-Nat.le_zero_eq] at h) | (apply wpE_appendV; (focus (first | assumption | (repeat' first | assumption | with_reducible apply GrowV.setNew | with_reducible apply GrowV.alloc | with_reducible apply GrowV.set | (with_reducible show ¬ Names _ _; simp [*]; done)))); (focus (exact fun _ => rfl)); (focus decide); (focus (intro a; first | rfl | simp)); (focus (simp [maxCells] <;> omega))) | (refine after_intro fun v2 H2 hv2 hnx2 hget2 hnew2 hone2 hcel2 => ?_))
  · have hlt : d.length < p.length := by assumption
    have hc : (p[d.length].toNat : Int) = 46 := by assumption
    refine wpE_append (a := q[d.length]'(hlq _ hlt)) (h7.alloc _) (fun _ => rfl) (by decide) rfl (by rw [sliceCells_row1 get_alloc_new (by simp)]; rfl) (by simp [maxCells]; omega) (fun v' H' hv' _ _ _ => ?_)
    (repeat' first | simp [*, initEnv] | (refine wpIf_two (fun _ h => ?_) (fun _ h => ?_) <;> try simp [-Nat.le_zero_eq] at h) | (apply wpE_appendV; (focus (first | assumption | (repeat' first | assumption | with_reducible apply GrowV.setNew | with_reducible apply GrowV.alloc | with_reducible apply GrowV.set | (with_reducible show ¬ Names _ _; simp [*]; done)))); (focus (exact fun _ => rfl)); (focus decide); (focus (intro a; first | rfl | simp)); (focus (simp [maxCells] <;> omega))) | (refine after_intro fun v2 H2 hv2 hnx2 hget2 hnew2 hone2 hcel2 => ?_))
    refine ⟨d ++ [q[d.length]'(hlq _ hlt)], by simp; omega, hv', by simp, by simp; omega, ?_⟩
    rw [mix_step hlt (hlq _ hlt), if_pos hc]; simp
  · have hlt : d.length < p.length := by assumption
    have hc : ¬ (p[d.length].toNat : Int) = 46 := by assumption
    refine wpE_append (a := p[d.length]) (h7.alloc _) (fun _ => rfl) (by decide) rfl (by rw [sliceCells_row1 get_alloc_new (by simp)]; rfl) (by simp [maxCells]; omega) (fun v' H' hv' _ _ _ => ?_)
    (repeat' first | simp [*, initEnv] | (refine wpIf_two (fun _ h => ?_) (fun _ h => ?_) <;> try simp [-Nat.le_zero_eq] at h) | (apply wpE_appendV; (focus (first | assumption | (repeat' first | assumption | with_reducible apply GrowV.setNew | with_reducible apply GrowV.alloc | with_reducible apply GrowV.set | (with_reducible show ¬ Names _ _; simp [*]; done)))); (focus (exact fun _ => rfl)); (focus decide); (focus (intro a; first | rfl | simp)); (focus (simp [maxCells] <;> omega))) | (refine after_intro fun v2 H2 hv2 hnx2 hget2 hnew2 hone2 hcel2 => ?_))
    refine ⟨d ++ [p[d.length]], by simp; omega, hv', by simp, by simp; omega, ?_⟩
    rw [mix_step hlt (hlq _ hlt), if_neg hc]; simp
  · have h0 : p.drop d.length = [] := List.drop_eq_nil_of_le (by omega)
    rw [h0]
    simp [mixL, strP]
@[simp] theorem d29 (n : Nat) (H : Heap) (p : List UInt8) (q : List UInt8) (hp : p.length < 1152921504606846975) (hq : q.length < 1152921504606846975) : doCall (calleeOf G (n + 3)) H (.pure (.func 29 [])) [.pure (.str ⟨p.toArray⟩), .pure (.str ⟨q.toArray⟩)] = some (.val (.pure (.tup [strP (if agreeR p q = true then mixL p q else []), .bool (agreeR p q)]))) :=
  call_pureC (ps := [_, _]) (caps := []) sh29 (e29 n p q hp hq)

def heightS (h : Span) : Bool := decide (0 ≤ h.lo) && decide (h.lo ≤ h.hi) && decide (h.hi ≤ 100)
def sightS (s : Sight) : Bool := decide (1 ≤ s.id) && decide (s.id ≤ 1099511627776) && (decide (0 ≤ s.year) && decide (s.year ≤ 4000)) && properS s.box && patS true s.letters && heightS s.height
theorem sh34 : G.shared 34 = false := by decide
theorem e34 (n : Nat) (s : Sight) : callP G (n + 4) 34 [.agg s.cells] = some (.int .i64 (if sightS s = true then 0 else 1)) := by
  refine callP_of (ext_none _) rfl g34 rfl ?_
  (repeat' first | simp [*, initEnv, c34, Sight.cells] | (refine wpIf_two (fun _ h => ?_) (fun _ h => ?_) <;> try simp [-Nat.le_zero_eq] at h) | (apply wpE_appendV; (focus (first | assumption | (repeat' first | assumption | with_reducible apply GrowV.setNew | with_reducible apply GrowV.alloc | with_reducible apply GrowV.set | (with_reducible show ¬ Names _ _; simp [*]; done)))); (focus (exact fun _ => rfl)); (focus decide); (focus (intro a; first | rfl | simp)); (focus (simp [maxCells] <;> omega))) | (refine after_intro fun v2 H2 hv2 hnx2 hget2 hnew2 hone2 hcel2 => ?_))
  all_goals first
    | (simp [sightS, heightS, *]; done)
    | (simp [sightS, heightS, *]; omega)
    | skip
@[simp] theorem d34 (n : Nat) (H : Heap) (s_id : Int) (s_year : Int) (s_box_x_lo : Int) (s_box_x_hi : Int) (s_box_y_lo : Int) (s_box_y_hi : Int) (s_letters : List UInt8) (s_height_lo : Int) (s_height_hi : Int) : doCall (calleeOf G (n + 4)) H (.pure (.func 34 [])) [.pure (.agg [.int .i64 s_id, .int .i64 s_year, .int .i64 s_box_x_lo, .int .i64 s_box_x_hi, .int .i64 s_box_y_lo, .int .i64 s_box_y_hi, .str ⟨(s_letters).toArray⟩, .int .i64 s_height_lo, .int .i64 s_height_hi])] = some (.val (.pure ((fun (s : Sight) => .int .i64 (if sightS s = true then 0 else 1)) (⟨s_id, s_year, ⟨⟨s_box_x_lo, s_box_x_hi⟩, ⟨s_box_y_lo, s_box_y_hi⟩⟩, s_letters, ⟨s_height_lo, s_height_hi⟩⟩ : Sight)))) :=
  call_pureC (ps := [_]) (caps := []) sh34 (e34 n (⟨s_id, s_year, ⟨⟨s_box_x_lo, s_box_x_hi⟩, ⟨s_box_y_lo, s_box_y_hi⟩⟩, s_letters, ⟨s_height_lo, s_height_hi⟩⟩ : Sight))
def sightR (s : Sight) : Bool := (decide (1 ≤ s.id) && decide (s.id ≤ 1099511627776)) && (decide (0 ≤ s.year) && decide (s.year ≤ 4000)) && properR s.box && patR s.letters && heightS s.height
theorem sh35 : G.shared 35 = false := by decide
theorem e35 (n : Nat) (s : Sight) (hl : s.letters.length < 1152921504606846975) : callP G (n + 4) 35 [.agg s.cells] = some (.int .i64 (if sightR s = true then 0 else 1)) := by
  refine callP_of (ext_none _) rfl g35 rfl ?_
  (repeat' first | simp [*, initEnv, c35, Sight.cells] | (refine wpIf_two (fun _ h => ?_) (fun _ h => ?_) <;> try simp [-Nat.le_zero_eq] at h) | (apply wpE_appendV; (focus (first | assumption | (repeat' first | assumption | with_reducible apply GrowV.setNew | with_reducible apply GrowV.alloc | with_reducible apply GrowV.set | (with_reducible show ¬ Names _ _; simp [*]; done)))); (focus (exact fun _ => rfl)); (focus decide); (focus (intro a; first | rfl | simp)); (focus (simp [maxCells] <;> omega))) | (refine after_intro fun v2 H2 hv2 hnx2 hget2 hnew2 hone2 hcel2 => ?_))
  all_goals first
    | (simp [sightR, heightS, *]; done)
    | (simp [sightR, heightS, *]; omega)
    | skip
@[simp] theorem d35 (n : Nat) (H : Heap) (s_id : Int) (s_year : Int) (s_box_x_lo : Int) (s_box_x_hi : Int) (s_box_y_lo : Int) (s_box_y_hi : Int) (s_letters : List UInt8) (s_height_lo : Int) (s_height_hi : Int) (hl : (fun (s : Sight) => s.letters.length < 1152921504606846975) (⟨s_id, s_year, ⟨⟨s_box_x_lo, s_box_x_hi⟩, ⟨s_box_y_lo, s_box_y_hi⟩⟩, s_letters, ⟨s_height_lo, s_height_hi⟩⟩ : Sight)) : doCall (calleeOf G (n + 4)) H (.pure (.func 35 [])) [.pure (.agg [.int .i64 s_id, .int .i64 s_year, .int .i64 s_box_x_lo, .int .i64 s_box_x_hi, .int .i64 s_box_y_lo, .int .i64 s_box_y_hi, .str ⟨(s_letters).toArray⟩, .int .i64 s_height_lo, .int .i64 s_height_hi])] = some (.val (.pure ((fun (s : Sight) => .int .i64 (if sightR s = true then 0 else 1)) (⟨s_id, s_year, ⟨⟨s_box_x_lo, s_box_x_hi⟩, ⟨s_box_y_lo, s_box_y_hi⟩⟩, s_letters, ⟨s_height_lo, s_height_hi⟩⟩ : Sight)))) :=
  call_pureC (ps := [_]) (caps := []) sh35 (e35 n (⟨s_id, s_year, ⟨⟨s_box_x_lo, s_box_x_hi⟩, ⟨s_box_y_lo, s_box_y_hi⟩⟩, s_letters, ⟨s_height_lo, s_height_hi⟩⟩ : Sight) hl)

/-! ### The two specifications are one -/
theorem patS_patR (l : List UInt8) : patS true l = patR l := by
  simp only [patS, patR]
  cases allC true l <;> simp
theorem spanS_valid (b : Box) : properS b = properR b := by
  rw [Bool.eq_iff_iff]
  simp only [properS, properR, spanS, validS, Bool.and_eq_true, decide_eq_true_eq]
  omega
theorem sightS_sightR (s : Sight) : sightS s = sightR s := by
  simp only [sightS, sightR, patS_patR, spanS_valid]
theorem blend_agree : ∀ (p q : List UInt8), p.length = q.length → (blendL p q).isSome = agreeL p q ∧ (agreeL p q = true → blendL p q = some (mixL p q))
  | [], [], _ => ⟨rfl, fun _ => rfl⟩
  | a :: p, b :: q, h => by
    obtain ⟨h1, h2⟩ := blend_agree p q (by simpa using h)
    simp only [blendL, agreeL, mixL]
    by_cases ha : (a.toNat : Int) = 46
    · simp only [ha, if_true, Option.isSome_map, h1]
      refine ⟨by simp, fun h3 => ?_⟩
      simp at h3
      simp [h2 h3]
    · rw [if_neg ha]
      by_cases hb : ¬ (b.toNat : Int) = 46 ∧ ¬ (b.toNat : Int) = a.toNat
      · rw [if_pos hb]
        have : ¬ (a.toNat : Int) = b.toNat := fun e => hb.2 e.symm
        simp [ha, hb.1, this]
      · rw [if_neg hb]
        have : ((b.toNat : Int) = 46) ∨ ((a.toNat : Int) = b.toNat) := by
          rcases Decidable.em ((b.toNat : Int) = 46) with h | h
          · exact .inl h
          · exact .inr (Decidable.byContradiction fun h' => hb ⟨h, fun e => h' e.symm⟩)
        have hz : (!(!decide ((a.toNat : Int) = b.toNat) && !decide ((a.toNat : Int) = 46) && !decide ((b.toNat : Int) = 46))) = true := by
          rcases this with h | h <;> simp [h]
        rw [hz]
        refine ⟨by simp [h1], fun h3 => ?_⟩
        simp at h3
        simp [h2 h3, ha]
  | [], b :: q, h => by simp at h
  | a :: p, [], h => by simp at h
theorem agree_same (p q : List UInt8) : (okB p q && (blendL p q).isSome) = agreeR p q := by
  simp only [okB, agreeR, patS_patR]
  by_cases h : (p.length : Int) = q.length
  · rw [(blend_agree p q (by omega)).1]
  · simp [h]
theorem blend_same (p q : List UInt8) : blendS p q = .tup [strP (if agreeR p q = true then mixL p q else []), .bool (agreeR p q)] := by
  rw [← agree_same]
  unfold blendS
  cases ho : okB p q with
  | false => simp
  | true =>
    have hl : p.length = q.length := by simp [okB] at ho; omega
    obtain ⟨h1, h2⟩ := blend_agree p q hl
    cases hb : blendL p q with
    | none => simp
    | some r =>
      have : agreeL p q = true := by rw [← h1, hb]; rfl
      have := h2 this
      rw [hb] at this
      simp at this
      simp [this]
theorem allC_false (l : List UInt8) : allC false l = (allC true l && noDot l) := by
  induction l with
  | nil => rfl
  | cons c l ih =>
    simp only [allC, noDot, ih, patC]
    rw [Bool.eq_iff_iff]
    simp only [Bool.and_eq_true, Bool.or_eq_true, decide_eq_true_eq, Bool.not_eq_true', decide_eq_false_iff_not, Bool.false_eq_true, false_and, or_false, true_and]
    constructor
    · rintro ⟨h1, h2, h3⟩; exact ⟨⟨.inl h1, h2⟩, by omega, h3⟩
    · rintro ⟨⟨h1, h2⟩, h3, h4⟩
      rcases h1 with h1 | h1
      · exact ⟨h1, h2, h4⟩
      · exact absurd h1 h3
theorem reads_same (l p : List UInt8) : (patS false l && (okB l p && (blendL l p).isSome)) = (noDot l && agreeR l p) := by
  rw [agree_same]
  simp only [patS, allC_false, agreeR, patR]
  cases noDot l <;> cases allC true l <;> simp
  omega
end Go.Proofs.YtjjkgamklbgnlaaGreat.Vm
