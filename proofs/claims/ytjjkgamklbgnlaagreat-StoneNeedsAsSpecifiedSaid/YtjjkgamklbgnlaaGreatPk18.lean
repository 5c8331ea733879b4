/- What Needs asks: fewer, Fewest, put. A life with one sight or note less: the specification's Less. slices.Delete of one element of a slice of one's own. slices.Sort of no slice at all. A right life without one sight, or without one note, is right. What Needs computes: the program's. The first number of courses above zero is the number of changes of a least course: plain Lean. What the program asks of a life with less is what the specification asks; and inserting one by one sorts. What the specification's Needs computes. -/
import Derived.Test.YtjjkgamklbgnlaaGreatPk16
import Derived.Test.YtjjkgamklbgnlaaGreatPk17
import Derived.KernelRfl
namespace Go.Proofs.YtjjkgamklbgnlaaGreat.Vm
open Go
set_option linter.unusedSimpArgs false
set_option linter.unusedVariables false
set_option maxHeartbeats 4000000

def leastL (l : Life) : Option (List Int) := leastTo (fitP l) (l.sights.xs.length - 1) (3 ^ (l.sights.xs.length - 1))
def fewerS (l : Life) (t : Int) : Bool := match leastL l with
  | none => false
  | some c => decide (t < 0) || decide ((chg c : Int) < t)
theorem sh63 : G.shared 63 = false := by decide
theorem e63 (n : Nat) (l : Life) (t : Int) (hr : Right l) : callP G (n + 11) 63 [.agg l.cells, .int .i64 t] = some (.bool (fewerS l t)) := by
  refine callP_of (ext_none _) rfl g63 rfl ?_
  have h9 := hr.nine
  have hc : ∀ H, doCall (calleeOf G (n + 10)) H (.pure (.func 60 [])) [.pure (.agg l.cells)] = some (.val (.pure (leastPV (leastL l)))) := fun H => d60 n H l.habit.step l.habit.place l.habit.sink l.sights l.notes hr
  simp only [Life.cells] at hc
  cases ho : leastL l with
  | none =>
    rw [ho] at hc
    (repeat' first | simp [*, initEnv, c63, leastPV, fewerS] | (refine wpIf_two (fun _ h => ?_) (fun _ h => ?_) <;> try simp [-Nat.le_zero_eq] at h) | (apply wpE_appendV; (focus (first | assumption | (repeat' first | assumption | with_reducible apply GrowV.setNew | with_reducible apply GrowV.alloc | with_reducible apply GrowV.set | (with_reducible show ¬ Names _ _; simp [*]; done)))); (focus (exact fun _ => rfl)); (focus decide); (focus (intro a; first | rfl | simp)); (focus (simp [maxCells] <;> omega))) | (refine after_intro fun v2 H2 hv2 hnx2 hget2 hnew2 hone2 hcel2 => ?_))
  | some c =>
    rw [ho] at hc
    have hl := leastTo_length _ _ _ _ ho
    have hcl : (Sl.mk false c).xs.length < 1000 := by simp [Sl.xs]; omega
    have hch : ∀ H, doCall (calleeOf G (n + 10)) H (.pure (.func 58 [])) [.pure ((Sl.mk false c).pv intF 1)] = some (.val (.pure (.int .i64 (chg c)))) := fun H => d58 (n + 9) H _ hcl
    (repeat' first | simp [*, initEnv, c63, leastPV, fewerS] | (refine wpIf_two (fun _ h => ?_) (fun _ h => ?_) <;> try simp [-Nat.le_zero_eq] at h) | (apply wpE_appendV; (focus (first | assumption | (repeat' first | assumption | with_reducible apply GrowV.setNew | with_reducible apply GrowV.alloc | with_reducible apply GrowV.set | (with_reducible show ¬ Names _ _; simp [*]; done)))); (focus (exact fun _ => rfl)); (focus decide); (focus (intro a; first | rfl | simp)); (focus (simp [maxCells] <;> omega))) | (refine after_intro fun v2 H2 hv2 hnx2 hget2 hnew2 hone2 hcel2 => ?_))
@[simp] theorem d63 (n : Nat) (H : Heap) (l_habit_step : Int) (l_habit_place : Int) (l_habit_sink : Int) (l_sights : Sl Sight) (l_notes : Sl Note) (t : Int) (hr : (fun (l : Life) => Right l) (⟨⟨l_habit_step, l_habit_place, l_habit_sink⟩, l_sights, l_notes⟩ : Life)) : doCall (calleeOf G (n + 11)) H (.pure (.func 63 [])) [.pure (.agg [.int .i64 l_habit_step, .int .i64 l_habit_place, .int .i64 l_habit_sink, (l_sights).pv Sight.cells 9, (l_notes).pv Note.cells 4]), .pure (.int .i64 t)] = some (.val (.pure ((fun (l : Life) => .bool (fewerS l t)) (⟨⟨l_habit_step, l_habit_place, l_habit_sink⟩, l_sights, l_notes⟩ : Life)))) :=
  call_pureC (ps := [_, _]) (caps := []) sh63 (e63 n (⟨⟨l_habit_step, l_habit_place, l_habit_sink⟩, l_sights, l_notes⟩ : Life) t hr)
def firstPos : List Int → Int → Int → Int
  | [], _, d => d
  | a :: r, i, d => if 0 < a then i else firstPos r (i + 1) d
theorem firstPos_drop {L : List Int} {i : Nat} {d : Int} (h : i < L.length) : firstPos (L.drop i) i d = if 0 < L[i] then (i : Int) else firstPos (L.drop (i + 1)) ((i + 1 : Nat) : Int) d := by
  rw [List.drop_eq_getElem_cons h, firstPos]; simp
def byL (l : Life) : List Int := byTo (canS l) (l.sights.xs.length - 1) (3 ^ (l.sights.xs.length - 1))
def fewestS (l : Life) : Int := firstPos (byL l) 0 l.sights.xs.length
theorem shortR {l : Life} (hr : Right l) : shortS l := fun _ _ s hs => by have := hr.sp hs; omega
theorem sh66 : G.shared 66 = false := by decide
theorem e66 (n : Nat) (l : Life) (hr : Right l) : callP G (n + 9) 66 [.agg l.cells] = some (.int .i64 (fewestS l)) := by
  refine callP_of (ext_none _) rfl g66 rfl ?_
  have h9 := hr.nine
  have h1 := hr.one
  have hc : ∀ H, doCall (calleeOf G (n + 8)) H (.pure (.func 23 [])) [.pure (.agg l.cells)] = some (.val (.pure (.agg [(Sl.mk false (byL l)).pv intF 1, .int .i64 0]))) := fun H => by
    have := d23 n H l.habit.step l.habit.place l.habit.sink l.sights l.notes (shortR hr)
    simp only [if_pos ((right_iff l).2 hr)] at this
    exact this
  have hl : (byL l).length = l.sights.xs.length := by rw [byL, byTo_length]; omega
  have hP : Hide (fewestS l = firstPos (byL l) 0 l.sights.xs.length) := ⟨rfl⟩
  generalize fewestS l = P at *
  generalize byL l = L at *
  simp only [Life.cells] at hc
  have hS : Hide _ := ⟨hl⟩
  have hL9 : L.length ≤ 9 := by omega
  have hxs : (Sl.mk false L).xs = L := rfl
  clear hl
  (repeat' first | simp [*, initEnv, c66] | (refine wpIf_two (fun _ h => ?_) (fun _ h => ?_) <;> try simp [-Nat.le_zero_eq] at h) | (apply wpE_appendV; (focus (first | assumption | (repeat' first | assumption | with_reducible apply GrowV.setNew | with_reducible apply GrowV.alloc | with_reducible apply GrowV.set | (with_reducible show ¬ Names _ _; simp [*]; done)))); (focus (exact fun _ => rfl)); (focus decide); (focus (intro a; first | rfl | simp)); (focus (simp [maxCells] <;> omega))) | (refine after_intro fun v2 H2 hv2 hnx2 hget2 hnew2 hone2 hcel2 => ?_))
  refine wp_loopF [(2, 2), (4, 4), (7, 20)] (fun (i : Nat) env H => env 4 = .pure (.int .i64 i) ∧ i ≤ L.length ∧ H.get 0 = .cells true [.pure ((Sl.mk false L).pv intF 1), .pure (.int .i64 0)] ∧ Hide (P = firstPos (L.drop i) i l.sights.xs.length)) (fun i => L.length - i) 0 ?_ ?_ ?_ ?_
  · decide
  · simp; exact hP
  · simp only [loopFuel]; omega
  rintro i env H ⟨h4, hi, hg, hn⟩
  have hfit : i < 9223372036854775807 := by omega
  (repeat' first | simp [*, initEnv] | (refine wpIf_two (fun _ h => ?_) (fun _ h => ?_) <;> try simp [-Nat.le_zero_eq] at h) | (apply wpE_appendV; (focus (first | assumption | (repeat' first | assumption | with_reducible apply GrowV.setNew | with_reducible apply GrowV.alloc | with_reducible apply GrowV.set | (with_reducible show ¬ Names _ _; simp [*]; done)))); (focus (exact fun _ => rfl)); (focus decide); (focus (intro a; first | rfl | simp)); (focus (simp [maxCells] <;> omega))) | (refine after_intro fun v2 H2 hv2 hnx2 hget2 hnew2 hone2 hcel2 => ?_))
  · have hlt : i < L.length := by assumption
    rw [hn.h, firstPos_drop hlt, if_pos (by assumption)]
  · have hlt : i < L.length := by assumption
    exact ⟨i + 1, by omega, by simp, by omega, ⟨by rw [hn.h, firstPos_drop hlt, if_neg (by omega)]⟩⟩
  · rw [hn.h, List.drop_eq_nil_of_le (by omega), firstPos]
@[simp] theorem d66 (n : Nat) (H : Heap) (l_habit_step : Int) (l_habit_place : Int) (l_habit_sink : Int) (l_sights : Sl Sight) (l_notes : Sl Note) (hr : (fun (l : Life) => Right l) (⟨⟨l_habit_step, l_habit_place, l_habit_sink⟩, l_sights, l_notes⟩ : Life)) : doCall (calleeOf G (n + 9)) H (.pure (.func 66 [])) [.pure (.agg [.int .i64 l_habit_step, .int .i64 l_habit_place, .int .i64 l_habit_sink, (l_sights).pv Sight.cells 9, (l_notes).pv Note.cells 4])] = some (.val (.pure ((fun (l : Life) => .int .i64 (fewestS l)) (⟨⟨l_habit_step, l_habit_place, l_habit_sink⟩, l_sights, l_notes⟩ : Life)))) :=
  call_pureC (ps := [_]) (caps := []) sh66 (e66 n (⟨⟨l_habit_step, l_habit_place, l_habit_sink⟩, l_sights, l_notes⟩ : Life) hr)
theorem ins_step {x : Int} {L : List Int} {i : Nat} (hi : i < L.length) (hx : L[i] < x) (h : ins x L = L.take i ++ ins x (L.drop i)) : ins x L = L.take (i + 1) ++ ins x (L.drop (i + 1)) := by
  rw [h, List.drop_eq_getElem_cons hi, ins, if_neg (by omega), ← take_succ' hi, List.append_assoc]
  rfl
theorem ins_end {x : Int} {L : List Int} {i : Nat} (hi : i ≤ L.length) (hx : ∀ h : i < L.length, x ≤ L[i]) (h : ins x L = L.take i ++ ins x (L.drop i)) : ins x L = (L.take i ++ [x]) ++ L.drop i := by
  rw [h]
  by_cases hl : i < L.length
  · rw [List.drop_eq_getElem_cons hl, ins, if_pos (hx hl)]; simp
  · rw [List.drop_eq_nil_of_le (by omega)]; simp [ins]
theorem sh68 : G.shared 68 = false := by decide
theorem e68 (n : Nat) (s : Sl Int) (x : Int) (hl : s.xs.length < 1000) : callP G (n + 1) 68 [s.pv intF 1, .int .i64 x] = some ((Sl.mk false (ins x s.xs)).pv intF 1) := by
  refine callP_of (ext_none _) rfl g68 rfl ?_
  have hP : Hide (ins x s.xs = ins x s.xs) := ⟨rfl⟩
  obtain ⟨P, hPe⟩ : ∃ P, P = (Sl.mk false (ins x s.xs)).pv intF 1 := ⟨_, rfl⟩
  rw [← hPe]
  have hPe' : Hide _ := ⟨hPe⟩
  clear hPe hP
  (repeat' first | simp [*, initEnv, c68] | (refine wpIf_two (fun _ h => ?_) (fun _ h => ?_) <;> try simp [-Nat.le_zero_eq] at h) | (apply wpE_appendV; (focus (first | assumption | (repeat' first | assumption | with_reducible apply GrowV.setNew | with_reducible apply GrowV.alloc | with_reducible apply GrowV.set | (with_reducible show ¬ Names _ _; simp [*]; done)))); (focus (exact fun _ => rfl)); (focus decide); (focus (intro a; first | rfl | simp)); (focus (simp [maxCells] <;> omega))) | (refine after_intro fun v2 H2 hv2 hnx2 hget2 hnew2 hone2 hcel2 => ?_))
  refine wp_loopF [(5, 19)] (fun (i : Nat) env H => env 5 = .pure (.int .i64 i) ∧ i ≤ s.xs.length ∧ Hide (ins x s.xs = s.xs.take i ++ ins x (s.xs.drop i))) (fun i => s.xs.length - i) 0 ?_ ?_ ?_ ?_
  · decide
  · refine ⟨by simp, by omega, ⟨by simp⟩⟩
  · simp only [loopFuel]; omega
  rintro i env H ⟨h5, hi, hn⟩
  have hfit : i < 9223372036854775807 := by omega
  (repeat' first | simp [*, initEnv] | (refine wpIf_two (fun _ h => ?_) (fun _ h => ?_) <;> try simp [-Nat.le_zero_eq] at h) | (apply wpE_appendV; (focus (first | assumption | (repeat' first | assumption | with_reducible apply GrowV.setNew | with_reducible apply GrowV.alloc | with_reducible apply GrowV.set | (with_reducible show ¬ Names _ _; simp [*]; done)))); (focus (exact fun _ => rfl)); (focus decide); (focus (intro a; first | rfl | simp)); (focus (simp [maxCells] <;> omega))) | (refine after_intro fun v2 H2 hv2 hnx2 hget2 hnew2 hone2 hcel2 => ?_))
  · have hlt : i < s.xs.length := by assumption
    exact ⟨i + 1, by omega, by simp, by omega, ⟨ins_step hlt (by assumption) hn.h⟩⟩
  all_goals
    have hfin : Hide (P = (Sl.mk false ((s.xs.take i ++ [x]) ++ s.xs.drop i)).pv intF 1) := ⟨by
      rw [hPe'.h, ins_end hi (by first | (intro _; assumption) | (intro h; omega)) hn.h]⟩
    clear hPe' hn
    have hf1 : ∀ a, (intF a).length = 1 := fun _ => rfl
    have hone : ∀ a, (intF a).all PV.one = true := fun _ => rfl
    have hs1 : ∀ H', sliceCells H' 1 (.pure ((s.sub 0 i).pv intF 1)) = some (rowOf intF (s.xs.take i), (s.xs.take i).length) := fun H' => by
      have := sliceCells_sl' (H := H') hf1 (s.sub 0 i)
      simpa using this
    have hs2 : ∀ H', sliceCells H' 1 (.pure ((s.sub i s.xs.length).pv intF 1)) = some (rowOf intF (s.xs.drop i), (s.xs.drop i).length) := fun H' => by
      have := sliceCells_sl' (H := H') hf1 (s.sub i s.xs.length)
      simpa using this
    have hs1' : Hide _ := ⟨hs1⟩
    have hs2' : Hide _ := ⟨hs2⟩
    clear hs1 hs2
    refine wpE_appendE (l := s.xs.take i) (hs1'.h _) (get_alloc_nx _) hone (by simp only [List.length_take, maxCells]; omega) ?_
    rintro v1 H1 o1 - - -
    (repeat' first | simp [*, initEnv] | (refine wpIf_two (fun _ h => ?_) (fun _ h => ?_) <;> try simp [-Nat.le_zero_eq] at h) | (apply wpE_appendV; (focus (first | assumption | (repeat' first | assumption | with_reducible apply GrowV.setNew | with_reducible apply GrowV.alloc | with_reducible apply GrowV.set | (with_reducible show ¬ Names _ _; simp [*]; done)))); (focus (exact fun _ => rfl)); (focus decide); (focus (intro a; first | rfl | simp)); (focus (simp [maxCells] <;> omega))) | (refine after_intro fun v2 H2 hv2 hnx2 hget2 hnew2 hone2 hcel2 => ?_))
    refine wpE_append (f := intF) (a := x) (l := s.xs.take i) (o1.alloc _) hf1 (by decide) (hone x) (by simp) (by simp only [List.length_take, maxCells]; omega) ?_
    rintro v2 H2 o2 - - -
    (repeat' first | simp [*, initEnv] | (refine wpIf_two (fun _ h => ?_) (fun _ h => ?_) <;> try simp [-Nat.le_zero_eq] at h) | (apply wpE_appendV; (focus (first | assumption | (repeat' first | assumption | with_reducible apply GrowV.setNew | with_reducible apply GrowV.alloc | with_reducible apply GrowV.set | (with_reducible show ¬ Names _ _; simp [*]; done)))); (focus (exact fun _ => rfl)); (focus decide); (focus (intro a; first | rfl | simp)); (focus (simp [maxCells] <;> omega))) | (refine after_intro fun v2 H2 hv2 hnx2 hget2 hnew2 hone2 hcel2 => ?_))
    refine wpE_appendL (f := intF) (l := s.xs.take i ++ [x]) (m := s.xs.drop i) o2 hf1 (by decide) hone (hs2'.h _) (by simp only [List.length_take, List.length_append, List.length_drop, List.length_cons, List.length_nil, maxCells]; omega) ?_
    rintro v3 H3 o3 - - -
    (repeat' first | simp [*, initEnv] | (refine wpIf_two (fun _ h => ?_) (fun _ h => ?_) <;> try simp [-Nat.le_zero_eq] at h) | (apply wpE_appendV; (focus (first | assumption | (repeat' first | assumption | with_reducible apply GrowV.setNew | with_reducible apply GrowV.alloc | with_reducible apply GrowV.set | (with_reducible show ¬ Names _ _; simp [*]; done)))); (focus (exact fun _ => rfl)); (focus decide); (focus (intro a; first | rfl | simp)); (focus (simp [maxCells] <;> omega))) | (refine after_intro fun v2 H2 hv2 hnx2 hget2 hnew2 hone2 hcel2 => ?_))
    rw [hfin.h]
    exact o3.mkRes (n := 10) hf1 (by simp)
@[simp] theorem d68 (n : Nat) (H : Heap) (s : Sl Int) (x : Int) (hl : s.xs.length < 1000) : doCall (calleeOf G (n + 1)) H (.pure (.func 68 [])) [.pure (s.pv intF 1), .pure (.int .i64 x)] = some (.val (.pure ((Sl.mk false (ins x s.xs)).pv intF 1))) :=
  call_pureC (ps := [_, _]) (caps := []) sh68 (e68 n s x hl)
end Go.Proofs.YtjjkgamklbgnlaaGreat.Vm

namespace Go.Proofs.YtjjkgamklbgnlaaGreat.Vm
open Go
set_option linter.unusedSimpArgs false
set_option linter.unusedVariables false
set_option maxHeartbeats 4000000

/-- A life without what stands at a place. -/
def noteWo (l : Life) (k : Nat) (y : List Note) : List Note := if l.sights.xs.length ≤ k then y.eraseIdx (k - l.sights.xs.length) else y
def lessS (l : Life) (k : Nat) : Life := ⟨l.habit, Sl.of (l.sights.xs.eraseIdx k), Sl.of (noteWo l k l.notes.xs)⟩
theorem era_skip {α : Type} {l : List α} {i k : Nat} (hi : i < l.length) (h : i = k) : (l.take (i + 1)).eraseIdx k = (l.take i).eraseIdx k := by
  subst h
  rw [← take_succ' hi, List.eraseIdx_append_of_length_le (by rw [List.length_take]; omega), List.eraseIdx_of_length_le (l := l.take i) (by rw [List.length_take]; omega), List.length_take, Nat.min_eq_left (by omega), Nat.sub_self]
  simp
theorem era_go {α : Type} {l : List α} {i k : Nat} (hi : i < l.length) (h : i ≠ k) : (l.take (i + 1)).eraseIdx k = (l.take i).eraseIdx k ++ [l[i]] := by
  rw [← take_succ' hi]
  by_cases hk : k < i
  · rw [List.eraseIdx_append_of_lt_length (by rw [List.length_take]; omega)]
  · rw [List.eraseIdx_append_of_length_le (by rw [List.length_take]; omega), List.eraseIdx_of_length_le (l := l.take i) (by rw [List.length_take]; omega), List.length_take, Nat.min_eq_left (by omega)]
    rw [List.eraseIdx_of_length_le (by simp; omega)]
theorem wo_skip {l : Life} {k i : Nat} (hi : i < l.notes.xs.length) (h : l.sights.xs.length + i = k) : noteWo l k (l.notes.xs.take (i + 1)) = noteWo l k (l.notes.xs.take i) := by
  unfold noteWo
  rw [if_pos (by omega), if_pos (by omega), era_skip hi (by omega)]
theorem wo_go {l : Life} {k i : Nat} (hi : i < l.notes.xs.length) (h : l.sights.xs.length + i ≠ k) : noteWo l k (l.notes.xs.take (i + 1)) = noteWo l k (l.notes.xs.take i) ++ [l.notes.xs[i]] := by
  unfold noteWo
  split
  · rw [era_go hi (by omega)]
  · rw [take_succ' hi]
/-- A box of a life that grows, and another box. -/
structure LessB (H : Heap) (B K : Nat) (h : Habit) (va vb : AV) (x : List Sight) (y : List Note) : Prop where
  box : H.get B = .cells true [.pure (.int .i64 h.step), .pure (.int .i64 h.place), .pure (.int .i64 h.sink), va, vb]
  other : H.get K = .cells true [.pure (.int .i64 0), .pure (.int .i64 0), .pure (.int .i64 0), .pure .nils, .pure .nils]
  ga : GrowV Sight.cells 9 H va x
  gb : GrowV Note.cells 4 H vb y
  ab : ∀ id, Names va id → ¬ Names vb id
  aB : ¬ Names va B ∧ ¬ Names va K
  bB : ¬ Names vb B ∧ ¬ Names vb K
  ne : K ≠ B
section
variable {H H2 : Heap} {B K : Nat} {h : Habit} {va vb v2 : AV} {x : List Sight} {y : List Note} {o : AObj}
theorem LessB.pushA {s : Sight} (t : LessB H B K h va vb x y) (hv : GrowV Sight.cells 9 H2 v2 (x ++ [s])) (ha : After va (H.alloc o) v2 H2) : LessB (H2.set B (.cells true [.pure (.int .i64 h.step), .pure (.int .i64 h.place), .pure (.int .i64 h.sink), v2, vb])) B K h v2 vb (x ++ [s]) y ∧ H2.get B = .cells true [.pure (.int .i64 h.step), .pure (.int .i64 h.place), .pure (.int .i64 h.sink), va, vb] := by
  have hB := nx_of_get t.box
  have hK := nx_of_get t.other
  obtain ⟨gb, db⟩ := ha.grow (t.gb.alloc _) (fun id h h' => t.ab id h' h)
  have n1 : ¬ Names v2 B := fun h => by have := ha.new _ h; simp at this; omega
  have n2 : ¬ Names v2 K := fun h => by have := ha.new _ h; simp at this; omega
  have hB2 : H2.get B = .cells true [.pure (.int .i64 h.step), .pure (.int .i64 h.place), .pure (.int .i64 h.sink), va, vb] := by rw [ha.get B (by simp; omega) t.aB.1, get_alloc_lt hB]; exact t.box
  have hK2 := (ha.get K (by simp; omega) t.aB.2).trans ((get_alloc_lt hK).trans t.other)
  exact ⟨⟨get_set_own (nx_of_get hB2), by rw [get_set_ne t.ne]; exact hK2, hv.set n1 _, gb.set t.bB.1 _, fun id h h' => db id h' h, ⟨n1, n2⟩, t.bB, t.ne⟩, hB2⟩
theorem LessB.pushB {s : Note} (t : LessB H B K h va vb x y) (hv : GrowV Note.cells 4 H2 v2 (y ++ [s])) (ha : After vb (H.alloc o) v2 H2) : LessB (H2.set B (.cells true [.pure (.int .i64 h.step), .pure (.int .i64 h.place), .pure (.int .i64 h.sink), va, v2])) B K h va v2 x (y ++ [s]) ∧ H2.get B = .cells true [.pure (.int .i64 h.step), .pure (.int .i64 h.place), .pure (.int .i64 h.sink), va, vb] := by
  have hB := nx_of_get t.box
  have hK := nx_of_get t.other
  obtain ⟨ga, da⟩ := ha.grow (t.ga.alloc _) (fun id h h' => t.ab id h h')
  have n1 : ¬ Names v2 B := fun h => by have := ha.new _ h; simp at this; omega
  have n2 : ¬ Names v2 K := fun h => by have := ha.new _ h; simp at this; omega
  have hB2 : H2.get B = .cells true [.pure (.int .i64 h.step), .pure (.int .i64 h.place), .pure (.int .i64 h.sink), va, vb] := by rw [ha.get B (by simp; omega) t.bB.1, get_alloc_lt hB]; exact t.box
  have hK2 := (ha.get K (by simp; omega) t.bB.2).trans ((get_alloc_lt hK).trans t.other)
  exact ⟨⟨get_set_own (nx_of_get hB2), by rw [get_set_ne t.ne]; exact hK2, ga.set t.aB.1 _, hv.set n1 _, da, t.aB, ⟨n1, n2⟩, t.ne⟩, hB2⟩
end
theorem sh67 : G.shared 67 = false := by decide
theorem e67 (n : Nat) (l : Life) (k : Nat) (hs : l.sights.xs.length < 1000) (hn : l.notes.xs.length < 1000) (hk : k < 2000) : callP G (n + 1) 67 [.agg l.cells, .int .i64 k] = some (.agg (lessS l k).cells) := by
  refine callP_of (ext_none _) rfl g67 rfl ?_
  obtain ⟨P, hPe⟩ : ∃ P, P = PV.agg (lessS l k).cells := ⟨_, rfl⟩
  rw [← hPe]
  have hP : Hide _ := ⟨hPe⟩
  clear hPe
  (repeat' first | simp [*, initEnv, c67] | (refine wpIf_two (fun _ h => ?_) (fun _ h => ?_) <;> try simp [-Nat.le_zero_eq] at h) | (apply wpE_appendV; (focus (first | assumption | (repeat' first | assumption | with_reducible apply GrowV.setNew | with_reducible apply GrowV.alloc | with_reducible apply GrowV.set | (with_reducible show ¬ Names _ _; simp [*]; done)))); (focus (exact fun _ => rfl)); (focus decide); (focus (intro a; first | rfl | simp)); (focus (simp [maxCells] <;> omega))) | (refine after_intro fun v2 H2 hv2 hnx2 hget2 hnew2 hone2 hcel2 => ?_))
  have hno : ∀ id, ¬ Names (.pure .nils) id := fun id ⟨_, _, _, h⟩ => by simp at h
  refine wp_loopF [(6, 6), (11, 30)] (fun (s : Nat × AV) env H => env 6 = .pure (.int .i64 s.1) ∧ s.1 ≤ l.sights.xs.length ∧ LessB H 1 0 l.habit s.2 (.pure .nils) ((l.sights.xs.take s.1).eraseIdx k) []) (fun s => l.sights.xs.length - s.1) (0, .pure .nils) ?_ ?_ ?_ ?_
  · decide
  · exact ⟨by simp, by omega, ⟨by simp, by simp, GrowV.nil, GrowV.nil, fun _ h => absurd h (hno _), ⟨hno _, hno _⟩, ⟨hno _, hno _⟩, by decide⟩⟩
  · simp only [loopFuel]; omega
  rintro ⟨i, va⟩ env H ⟨h6, hi, ht⟩
  simp only at h6 hi ht
  have hfit : i < 9223372036854775807 := by omega
  have hbox := ht.box
  have hbx := nx_of_get hbox
  have hbn : ¬ (1 = H.nx) := by omega
  have hga := ht.ga
  have hfa := hga.1.fresh
  have hes : ((l.sights.xs.take i).eraseIdx k).length ≤ 1000 := by have := List.length_eraseIdx_le (l.sights.xs.take i) k; rw [List.length_take] at this; omega
  (repeat' first | simp [*, initEnv] | (refine wpIf_two (fun _ h => ?_) (fun _ h => ?_) <;> try simp [-Nat.le_zero_eq] at h) | (apply wpE_appendV; (focus (first | assumption | (repeat' first | assumption | with_reducible apply GrowV.setNew | with_reducible apply GrowV.alloc | with_reducible apply GrowV.set | (with_reducible show ¬ Names _ _; simp [*]; done)))); (focus (exact fun _ => rfl)); (focus decide); (focus (intro a; first | rfl | simp)); (focus (simp [maxCells] <;> omega))) | (refine after_intro fun v2 H2 hv2 hnx2 hget2 hnew2 hone2 hcel2 => ?_))
  · have hlt : i < l.sights.xs.length := by assumption
    refine ⟨i + 1, by omega, by rw [wrap64 (by omega) (by omega)]; omega, by omega, va, ?_⟩
    rw [era_skip hlt (by omega)]; exact ht
  · have hlt : i < l.sights.xs.length := by assumption
    have hne : ¬ (i : Int) = k := by assumption
    obtain ⟨ht2, hb2⟩ := ht.pushA hv2 ⟨hnx2, hget2, hnew2⟩
    have hnx := nx_of_get hb2
    generalize v2 = wa at *
    generalize H2 = Ha at *
    clear hv2 hget2 hnew2 hnx2 hga hfa hbox
    (repeat' first | simp [*, initEnv] | (refine wpIf_two (fun _ h => ?_) (fun _ h => ?_) <;> try simp [-Nat.le_zero_eq] at h) | (apply wpE_appendV; (focus (first | assumption | (repeat' first | assumption | with_reducible apply GrowV.setNew | with_reducible apply GrowV.alloc | with_reducible apply GrowV.set | (with_reducible show ¬ Names _ _; simp [*]; done)))); (focus (exact fun _ => rfl)); (focus decide); (focus (intro a; first | rfl | simp)); (focus (simp [maxCells] <;> omega))) | (refine after_intro fun v2 H2 hv2 hnx2 hget2 hnew2 hone2 hcel2 => ?_))
    refine ⟨i + 1, by omega, by simp, by omega, wa, ?_⟩
    rw [era_go hlt (by omega)]; exact ht2
  have hie : i = l.sights.xs.length := by omega
  subst hie
  rw [List.take_of_length_le (Nat.le_refl _)] at ht
  clear hga hfa hbox hbn hes hbx
  refine wp_loopF [(7, 7), (31, 54)] (fun (s : Nat × AV) env H => env 7 = .pure (.int .i64 s.1) ∧ s.1 ≤ l.notes.xs.length ∧ LessB H 1 0 l.habit va s.2 (l.sights.xs.eraseIdx k) (noteWo l k (l.notes.xs.take s.1))) (fun s => l.notes.xs.length - s.1) (0, .pure .nils) ?_ ?_ ?_ ?_
  · decide
  · refine ⟨by simp, by omega, ?_⟩
    have : noteWo l k (l.notes.xs.take 0) = [] := by unfold noteWo; split <;> simp
    rw [this]; exact ht
  · simp only [loopFuel]; omega
  clear ht
  rintro ⟨i, vb⟩ env2 Hq ⟨h7, hi2, ht⟩
  simp only at h7 hi2 ht
  have hfit2 : i < 9223372036854775807 := by omega
  have hbox := ht.box
  have hbx := nx_of_get hbox
  have hbn : ¬ (1 = Hq.nx) := by omega
  have hga := ht.gb
  have hfa := hga.1.fresh
  have hes : (noteWo l k (l.notes.xs.take i)).length ≤ 1000 := by
    unfold noteWo
    split
    · have := List.length_eraseIdx_le (l.notes.xs.take i) (k - l.sights.xs.length); rw [List.length_take] at this; omega
    · rw [List.length_take]; omega
  have hwn : IntKind.i64.wrap ((l.sights.xs.length : Int) + i) = (l.sights.xs.length : Int) + i := wrap64 (by omega) (by omega)
  have hA := ht.ga.1.one
  have hB := ht.gb.1.one
  have hA1 := hA.1
  have hA2 := hA.2
  have hB1 := hB.1
  have hB2 := hB.2
  have hoth := ht.other
  have hox := nx_of_get hoth
  clear hA hB
  (repeat' first | simp [*, initEnv] | (refine wpIf_two (fun _ h => ?_) (fun _ h => ?_) <;> try simp [-Nat.le_zero_eq] at h) | (apply wpE_appendV; (focus (first | assumption | (repeat' first | assumption | with_reducible apply GrowV.setNew | with_reducible apply GrowV.alloc | with_reducible apply GrowV.set | (with_reducible show ¬ Names _ _; simp [*]; done)))); (focus (exact fun _ => rfl)); (focus decide); (focus (intro a; first | rfl | simp)); (focus (simp [maxCells] <;> omega))) | (refine after_intro fun v2 H2 hv2 hnx2 hget2 hnew2 hone2 hcel2 => ?_))
  · have hlt : i < l.notes.xs.length := by assumption
    refine ⟨i + 1, by omega, by simp, by omega, vb, ?_⟩
    rw [wo_skip hlt (by omega)]; exact ht
  · have hlt : i < l.notes.xs.length := by assumption
    have hne : ¬ (l.sights.xs.length : Int) + i = k := by assumption
    obtain ⟨ht2, hb2⟩ := ht.pushB hv2 ⟨hnx2, hget2, hnew2⟩
    have hnx := nx_of_get hb2
    generalize v2 = wa at *
    generalize H2 = Ha at *
    clear hv2 hget2 hnew2 hnx2 hga hfa hbox hoth
    (repeat' first | simp [*, initEnv] | (refine wpIf_two (fun _ h => ?_) (fun _ h => ?_) <;> try simp [-Nat.le_zero_eq] at h) | (apply wpE_appendV; (focus (first | assumption | (repeat' first | assumption | with_reducible apply GrowV.setNew | with_reducible apply GrowV.alloc | with_reducible apply GrowV.set | (with_reducible show ¬ Names _ _; simp [*]; done)))); (focus (exact fun _ => rfl)); (focus decide); (focus (intro a; first | rfl | simp)); (focus (simp [maxCells] <;> omega))) | (refine after_intro fun v2 H2 hv2 hnx2 hget2 hnew2 hone2 hcel2 => ?_))
    refine ⟨i + 1, by omega, by simp, by omega, wa, ?_⟩
    rw [wo_go hlt (by omega)]; exact ht2
  have hie : i = l.notes.xs.length := by omega
  subst hie
  have fa : FrzK (Hq.set 0 (.cells true [.pure (.int .i64 l.habit.step), .pure (.int .i64 l.habit.place), .pure (.int .i64 l.habit.sink), va, vb])) false depthF (aggV [.pure (.int .i64 l.habit.step), .pure (.int .i64 l.habit.place), .pure (.int .i64 l.habit.sink), va, vb]) P := by
    rw [hP.h]
    rw [List.take_of_length_le (Nat.le_refl _)] at ht
    exact FrzK.aggV (n := 11) (.cons (.pure _) (.cons (.pure _) (.cons (.pure _) (.cons ((ht.ga.set ht.aB.2 _).res (fun _ => rfl)) (.cons ((ht.gb.set ht.bB.2 _).res (fun _ => rfl)) .nil)))))
  clear ht hga hfa
  (repeat' first | simp [*, initEnv] | (refine wpIf_two (fun _ h => ?_) (fun _ h => ?_) <;> try simp [-Nat.le_zero_eq] at h) | (apply wpE_appendV; (focus (first | assumption | (repeat' first | assumption | with_reducible apply GrowV.setNew | with_reducible apply GrowV.alloc | with_reducible apply GrowV.set | (with_reducible show ¬ Names _ _; simp [*]; done)))); (focus (exact fun _ => rfl)); (focus decide); (focus (intro a; first | rfl | simp)); (focus (simp [maxCells] <;> omega))) | (refine after_intro fun v2 H2 hv2 hnx2 hget2 hnew2 hone2 hcel2 => ?_))
  exact fa
@[simp] theorem d67 (n : Nat) (H : Heap) (l_habit_step : Int) (l_habit_place : Int) (l_habit_sink : Int) (l_sights : Sl Sight) (l_notes : Sl Note) (k : Nat) (hs : (fun (l : Life) => l.sights.xs.length < 1000) (⟨⟨l_habit_step, l_habit_place, l_habit_sink⟩, l_sights, l_notes⟩ : Life)) (hn : (fun (l : Life) => l.notes.xs.length < 1000) (⟨⟨l_habit_step, l_habit_place, l_habit_sink⟩, l_sights, l_notes⟩ : Life)) (hk : k < 2000) : doCall (calleeOf G (n + 1)) H (.pure (.func 67 [])) [.pure (.agg [.int .i64 l_habit_step, .int .i64 l_habit_place, .int .i64 l_habit_sink, (l_sights).pv Sight.cells 9, (l_notes).pv Note.cells 4]), .pure (.int .i64 k)] = some (.val (.pure ((fun (l : Life) => .agg (lessS l k).cells) (⟨⟨l_habit_step, l_habit_place, l_habit_sink⟩, l_sights, l_notes⟩ : Life)))) :=
  call_pureC (ps := [_, _]) (caps := []) sh67 (e67 n (⟨⟨l_habit_step, l_habit_place, l_habit_sink⟩, l_sights, l_notes⟩ : Life) k hs hn hk)
end Go.Proofs.YtjjkgamklbgnlaaGreat.Vm

namespace Go.Proofs.YtjjkgamklbgnlaaGreat.Vm
open Go
set_option linter.unusedSimpArgs false
set_option linter.unusedVariables false
set_option maxHeartbeats 4000000

def deleteC (sz bytes : Nat) (zero : List PV) : VFunc := ⟨3, 33, [(.tmp 6)], (.seq (.region none [⟨(some 6), (.mov (.const .nils)), none⟩]) (.seq (.region none [⟨(some 8), (.mov (.tmp 0)), none⟩, ⟨(some 9), (.mov (.tmp 1)), none⟩, ⟨(some 10), (.mov (.tmp 2)), none⟩, ⟨(some 11), (.mov (.tmp 0)), none⟩, ⟨(some 12), (.lenSl (.tmp 11)), none⟩, ⟨(some 13), (.slice3 sz (.tmp 8) (some (.tmp 9)) (.tmp 10) (.tmp 12)), none⟩]) (.seq (.seq (.region none [⟨(some 14), (.mov (.tmp 1)), none⟩, ⟨(some 15), (.mov (.tmp 2)), none⟩, ⟨(some 16), (.bin .eql .num (.tmp 14) (.tmp 15)), none⟩]) (.cond (.tmp 16) (.seq (.region none [⟨(some 17), (.mov (.tmp 0)), none⟩, ⟨(some 6), (.mov (.tmp 17)), none⟩]) .ret) .skip)) (.seq (.region none [⟨(some 18), (.mov (.tmp 0)), none⟩, ⟨(some 19), (.lenSl (.tmp 18)), none⟩, ⟨(some 7), (.mov (.tmp 19)), none⟩]) (.seq (.region (some 6) [⟨(some 20), (.mov (.tmp 0)), none⟩, ⟨(some 21), (.mov (.tmp 1)), none⟩, ⟨(some 22), (.slice sz (.tmp 20) none (some (.tmp 21))), none⟩, ⟨(some 23), (.mov (.tmp 0)), none⟩, ⟨(some 24), (.mov (.tmp 2)), none⟩, ⟨(some 25), (.slice sz (.tmp 23) (some (.tmp 24)) none), none⟩, ⟨(some 26), (.append sz bytes (.tmp 22) (.tmp 25)), none⟩, ⟨(some 0), (.mov (.tmp 26)), none⟩]) (.seq (.region none [⟨(some 27), (.mov (.tmp 0)), none⟩, ⟨(some 28), (.mov (.tmp 0)), none⟩, ⟨(some 29), (.lenSl (.tmp 28)), none⟩, ⟨(some 30), (.mov (.tmp 7)), none⟩, ⟨(some 31), (.slice sz (.tmp 27) (some (.tmp 29)) (some (.tmp 30))), none⟩, ⟨none, (.clear zero (.tmp 31)), none⟩]) (.seq (.region none [⟨(some 32), (.mov (.tmp 0)), none⟩, ⟨(some 6), (.mov (.tmp 32)), none⟩]) .ret)))))))⟩
theorem st_slice3 {cl : Callee} {env : Env} {H : Heap} {sz : Nat} {x lo hi mx : Opnd} : step cl env H (.slice3 sz x (some lo) hi mx) = (match sliceLen (x.eval env) with
    | some len => match boundV len len (some (mx.eval env)) with
      | some m => match boundV m m (some (hi.eval env)) with
        | some h => match boundV h 0 (some (lo.eval env)) with
          | some _ => some (.val .undef)
          | none => none
        | none => none
      | none => none
    | none => none) := by simp only [step, bound_eq]; rfl
section
variable {α : Type} {f : α → List PV} {sz bytes n : Nat} {zero : List PV} {H : Heap} {l : List α}
theorem delete_call {g id i L : Nat} {k : AV → Heap → Prop} (hx : ∀ a H, G.extRun g a H = none) (hg : G.func g = some (deleteC sz bytes zero)) (hv : H.get id = .cells true (rowOf f l)) (hf : ∀ a, (f a).length = sz) (h0 : 0 < sz) (hone : ∀ a, (f a).all PV.one = true) (hz : zero.length = sz)
    (hL : L = l.length) (hlen : l.length < 1000) (hi : i < l.length)
    (hk : ∀ H', HeadV f sz H' (.row id sz 0 (L - 1)) (l.eraseIdx i) → H'.nx = H.nx → (∀ j, j ≠ id → H'.get j = H.get j) → k (.row id sz 0 (L - 1)) H') :
    ∃ v' H', Vm.call G (n + 1) (.fn g) [.row id sz 0 L, .pure (.int .i64 i), .pure (.int .i64 ((i : Int) + 1))] H = some (v', H') ∧ k v' H' := by
  obtain ⟨m, hm⟩ : ∃ m, L = m + 1 := ⟨L - 1, by omega⟩
  have hLm : L - 1 = m := by omega
  rw [hLm] at hk
  have hrl := rowOf_length (f := f) hf
  have hcs : isCells (H.get id) = true := by rw [hv]; rfl
  have hidlt := nx_of_get hv
  -- what is moved
  obtain ⟨b, hb, hbc⟩ : ∃ b, sliceV H sz (.row id sz 0 L) (some (.pure (.int .i64 ((i : Int) + 1)))) none = some (.val b) ∧ sliceCells H sz b = some (rowOf f (l.drop (i + 1)), L - (i + 1)) := by
    have h1 := sliceV_row_lo (H := H) (id := id) (sz := sz) (off := 0) (len := L) (i := i + 1) (k := .i64) hcs (by omega)
    rw [show (((i + 1 : Nat) : Int)) = (i : Int) + 1 from by simp] at h1
    refine ⟨_, h1, ?_⟩
    by_cases h : L = i + 1
    · rw [if_pos ⟨by omega, h⟩, List.drop_eq_nil_of_le (by omega)]
      simp [sliceCells, rowOf, h]
    · rw [if_neg (by omega)]
      rw [sliceCells_row, hv]
      simp only [rowCells]
      have e1 : (rowOf f l).length = L * sz := by rw [hrl, hL]
      have e2 : (0 + (i + 1)) * sz + (L - (i + 1)) * sz = L * sz := by rw [← Nat.add_mul]; congr 1; omega
      rw [if_pos (by omega), Nat.zero_add, rowOf_drop hf, List.take_of_length_le]
      rw [hrl, List.length_drop, ← hL]; exact Nat.le_refl _
  have hlt : (l.take i ++ l.drop (i + 1)) = l.eraseIdx i := by rw [List.eraseIdx_eq_take_drop_succ]
  have hel : (l.eraseIdx i).length = m := by rw [List.length_eraseIdx_of_lt hi]; omega
  obtain ⟨last, hlast⟩ : ∃ last, last = (rowOf f l).drop (m * sz) := ⟨_, rfl⟩
  have hll : last.length = sz := by rw [hlast, List.length_drop, hrl, ← hL, hm, Nat.add_mul]; omega
  have hap : doAppend H sz bytes (.row id sz 0 i) b = some (.upd (.row id sz 0 m) (H.set id (.cells true (rowOf f (l.eraseIdx i) ++ last)))) := by
    simp only [doAppend, hbc]
    rw [rowOf_one' hone]
    have e1 : i + (L - (i + 1)) = m := by omega
    have e2 : m * sz ≤ (rowOf f l).length := by rw [hrl, ← hL, hm, Nat.add_mul]; omega
    simp only [Bool.not_true, Bool.false_eq_true, if_false, if_true, hv, Nat.zero_mul, Nat.zero_add, e1, if_pos e2]
    rw [rowOf_take hf, ← hlast, ← hlt, rowOf_append]
  have h3 : sliceV (H.set id (.cells true (rowOf f (l.eraseIdx i) ++ last))) sz (.row id sz 0 m) (some (.pure (.int .i64 m))) (some (.pure (.int .i64 L))) = some (.val (.row id sz m 1)) := by
    have e1 : rowCap (H.set id (.cells true (rowOf f (l.eraseIdx i) ++ last))) id sz 0 m = some L := by
      unfold rowCap
      rw [get_set_own hidlt]
      simp only [List.length_append, hrl, hel, hll]
      have : m * sz + sz = L * sz := by rw [hm, Nat.add_mul]; omega
      rw [this, Nat.mul_div_cancel _ h0]
      congr 1; omega
    simp only [sliceV, if_true, e1, boundV, natOf_nat (Nat.le_refl L), natOf_nat (show m ≤ L by omega)]
    rw [if_neg (by omega)]
    congr 3
    · omega
    · omega
  have h4 : clearV (H.set id (.cells true (rowOf f (l.eraseIdx i) ++ last))) zero (.row id sz m 1) = some (.upd (.tup []) ((H.set id (.cells true (rowOf f (l.eraseIdx i) ++ last))).set id (.cells true (rowOf f (l.eraseIdx i) ++ zero.map AV.pure)))) := by
    have e1 : (rowOf f (l.eraseIdx i)).length = m * sz := by rw [hrl, hel]
    simp only [clearV, hz, if_true, get_set_own hidlt]
    rw [if_pos (by rw [List.length_append, e1, hll]; omega), List.take_append_of_le_length (by omega), List.take_of_length_le (by omega), List.drop_eq_nil_of_le (by rw [List.length_append, e1, hll]; omega)]
    simp
  have b1 : boundV L L (some (.pure (.int .i64 (L : Int)))) = some L := natOf_nat (Nat.le_refl L)
  have b2 : boundV L L (some (.pure (.int .i64 ((i : Int) + 1)))) = some (i + 1) := natOf_nat (i := i + 1) (by omega)
  have b3 : boundV (i + 1) 0 (some (.pure (.int .i64 (i : Int)))) = some i := natOf_nat (by omega)
  have hk' := hk ((H.set id (.cells true (rowOf f (l.eraseIdx i) ++ last))).set id (.cells true (rowOf f (l.eraseIdx i) ++ zero.map AV.pure))) ⟨id, zero.map AV.pure, by rw [hel], by rw [get_set_own (by simpa using hidlt)]⟩ (by simp) (fun j hj => by rw [get_set_ne hj, get_set_ne hj])
  have hiL : i ≤ L := by omega
  have hne : ¬ ((i : Int) = (i : Int) + 1) := by omega
  generalize H.set id (.cells true (rowOf f (l.eraseIdx i) ++ last)) = Ha at *
  generalize Ha.set id (.cells true (rowOf f (l.eraseIdx i) ++ zero.map AV.pure)) = Hb at *
  clear hk hlt hel hlast hll hrl hm hLm hbc hL hv
  refine call_of (hx _ _) hg rfl ?_
  simp only [deleteC]
  (repeat' first | simp [*, initEnv, st_slice3, sliceLen] | (refine wpIf_two (fun _ h => ?_) (fun _ h => ?_) <;> try simp [-Nat.le_zero_eq] at h) | (apply wpE_appendV; (focus (first | assumption | (repeat' first | assumption | with_reducible apply GrowV.setNew | with_reducible apply GrowV.alloc | with_reducible apply GrowV.set | (with_reducible show ¬ Names _ _; simp [*]; done)))); (focus (exact fun _ => rfl)); (focus decide); (focus (intro a; first | rfl | simp)); (focus (simp [maxCells] <;> omega))) | (refine after_intro fun v2 H2 hv2 hnx2 hget2 hnew2 hone2 hcel2 => ?_))
end
end Go.Proofs.YtjjkgamklbgnlaaGreat.Vm

namespace Go.Proofs.YtjjkgamklbgnlaaGreat.Vm
open Go
theorem sort_nil (n : Nat) (H : Heap) : Vm.call G (n + 10) (.fn 50) [.pure .nils] H = some (.tup [], H) := by kernel_rfl
end Go.Proofs.YtjjkgamklbgnlaaGreat.Vm

namespace Go.Proofs.YtjjkgamklbgnlaaGreat.Vm
open Go
set_option linter.unusedSimpArgs false
set_option linter.unusedVariables false
set_option maxHeartbeats 4000000
section
variable {l m : Life}
theorem Right.wo (hr : Right l) (hh : m.habit = l.habit) {i : Nat} (hs : m.sights.xs = l.sights.xs ∨ (1 < l.sights.xs.length ∧ i < l.sights.xs.length ∧ m.sights.xs = l.sights.xs.eraseIdx i)) (hn : m.notes.xs.Sublist l.notes.xs) : Right m := by
  have h1 := hr.one
  have h9 := hr.nine
  have hsub : m.sights.xs.Sublist l.sights.xs := by
    rcases hs with h | ⟨_, _, h⟩
    · rw [h]; exact List.Sublist.refl _
    · rw [h]; exact List.eraseIdx_sublist ..
  have hlen := hsub.length_le
  have hlenn := hn.length_le
  have h20 := hr.notes
  refine ⟨by rw [hh]; exact hr.habit, ?_, by omega, by omega, fun s hs => hr.sight s (hsub.subset hs), ?_, fun s hs => hr.note s (hn.subset hs), ?_⟩
  · rcases hs with h | ⟨h2, hi, h⟩
    · rw [h]; exact h1
    · rw [h, List.length_eraseIdx_of_lt hi]; omega
  · intro j hj
    rcases hs with h | ⟨h2, hi, h⟩
    · have := hr.years j (by rw [← h]; exact hj)
      simp only [h]; exact this
    · simp only [h]
      have hj' : j + 1 + 1 < l.sights.xs.length := by rw [h, List.length_eraseIdx_of_lt hi] at hj; omega
      rw [List.getElem_eraseIdx, List.getElem_eraseIdx]
      have y1 := hr.years j (by omega)
      have y2 := hr.years (j + 1) hj'
      split <;> split <;> omega
  · exact List.Sublist.nodup ((hsub.map _).append (hn.map _)) hr.ids
end
def lessP (l : Life) (i : Nat) : Life := ⟨l.habit, .mk true (l.sights.xs.eraseIdx i), l.notes⟩
def lessN (l : Life) (i : Nat) : Life := ⟨l.habit, l.sights, .mk true (l.notes.xs.eraseIdx i)⟩
theorem right_lessP {l : Life} (hr : Right l) {i : Nat} (h : 1 < l.sights.xs.length) (hi : i < l.sights.xs.length) : Right (lessP l i) := hr.wo rfl (.inr ⟨h, hi, rfl⟩) (List.Sublist.refl _)
theorem right_lessN {l : Life} (hr : Right l) {i : Nat} : Right (lessN l i) := hr.wo rfl (i := 0) (.inl rfl) (List.eraseIdx_sublist ..)
theorem right_lessS {l : Life} (hr : Right l) {k : Nat} (h : k < l.sights.xs.length → 1 < l.sights.xs.length) : Right (lessS l k) := by
  have e : ∀ {α : Type} (xs : List α), (Sl.of xs).xs = xs := fun xs => by simp
  by_cases hk : k < l.sights.xs.length
  · refine hr.wo rfl (i := k) (.inr ⟨h hk, hk, by simp [lessS]⟩) ?_
    simp [lessS, noteWo, show ¬ l.sights.xs.length ≤ k by omega]
  · refine hr.wo rfl (i := k) (.inl ?_) ?_
    · simp [lessS, List.eraseIdx_of_length_le (show l.sights.xs.length ≤ k by omega)]
    · simp [lessS, noteWo, show l.sights.xs.length ≤ k by omega]
      exact List.eraseIdx_sublist ..
end Go.Proofs.YtjjkgamklbgnlaaGreat.Vm

namespace Go.Proofs.YtjjkgamklbgnlaaGreat.Vm
open Go
set_option linter.unusedSimpArgs false
set_option linter.unusedVariables false
set_option maxHeartbeats 1000000

def wholeS (l : Life) : Int := match leastL l with
  | none => -1
  | some c => chg c
def needP (l : Life) (i : Nat) : Bool := decide (1 < l.sights.xs.length) && fewerS (lessP l i) (wholeS l)
def needN (l : Life) (i : Nat) : Bool := fewerS (lessN l i) (wholeS l)
def pickTo {α : Type} (q : Nat → Bool) (g : α → Int) (xs : List α) : Nat → List Int
  | 0 => []
  | i + 1 => pickTo q g xs i ++ (if q i = true then (xs[i]?.map g).toList else [])
theorem pickTo_length {α : Type} (q : Nat → Bool) (g : α → Int) (xs : List α) : ∀ i, (pickTo q g xs i).length ≤ i
  | 0 => by simp [pickTo]
  | i + 1 => by
    have := pickTo_length q g xs i
    rw [pickTo, List.length_append]
    split
    · cases h : xs[i]? <;> simp <;> omega
    · simp; omega
def needsL (l : Life) : List Int := pickTo (needP l) (·.id) l.sights.xs l.sights.xs.length ++ pickTo (needN l) (·.id) l.notes.xs l.notes.xs.length
theorem sh_del1 : G.shared 61 = true := by decide
theorem sh_del2 : G.shared 64 = true := by decide
theorem sh25 : G.shared 25 = false := by decide
theorem e25 (n : Nat) (l : Life) (hs : shortS l) : callP G (n + 12) 25 [.agg l.cells] = some ((if checkS l = 0 then .tup [(Sl.of (isort (needsL l))).pv intF 1, .int .i64 0] else .tup [.nils, .int .i64 (checkS l)])) := by
  refine callP_of (ext_none _) rfl g25 rfl ?_
  have hcc : ∀ H, doCall (calleeOf G (n + 11)) H (.pure (.func 15 [])) [.pure (.agg l.cells)] = some (.val (.pure (.int .i64 (checkS l)))) := fun H => d15 (n + 6) H l.habit.step l.habit.place l.habit.sink l.sights l.notes hs
  simp only [Life.cells] at hcc
  by_cases hck : checkS l = 0
  · have hr := (right_iff l).1 hck
    have h1 := hr.one
    have h9 := hr.nine
    have h20 := hr.notes
    have hcl : ∀ H, doCall (calleeOf G (n + 11)) H (.pure (.func 60 [])) [.pure (.agg l.cells)] = some (.val (.pure (leastPV (leastL l)))) := fun H => d60 (n + 1) H l.habit.step l.habit.place l.habit.sink l.sights l.notes hr
    simp only [Life.cells] at hcl
    obtain ⟨P, hPe⟩ : ∃ P, P = (Sl.of (isort (needsL l))).pv intF 1 := ⟨_, rfl⟩
    have hP : Hide _ := ⟨hPe⟩
    rw [if_pos hck, ← hPe]
    rw [hck] at hcc
    clear hPe
    have hw : wholeS l = match leastL l with
      | none => -1
      | some c => (chg c : Int) := rfl
    cases hL : leastL l with
    | none =>
      rw [hL] at hcl hw
      have hf1 : ∀ (i : Nat), 1 < l.sights.xs.length → i < l.sights.xs.length → callP G (n + 11) 63 [.agg (lessP l i).cells, .int .i64 (-1)] = some (.bool (needP l i)) := fun i h hi => by
        have := e63 n (lessP l i) (-1) (right_lessP hr h hi)
        rw [this, needP, hw, decide_eq_true h, Bool.true_and]
      have hf2 : ∀ (i : Nat), callP G (n + 11) 63 [.agg (lessN l i).cells, .int .i64 (-1)] = some (.bool (needN l i)) := fun i => by
        have := e63 n (lessN l i) (-1) (right_lessN hr)
        rw [this, needN, hw]
      have hf1' : Hide _ := ⟨hf1⟩
      have hf2' : Hide _ := ⟨hf2⟩
      have hck' : Hide _ := ⟨hck⟩
      have hL' : Hide _ := ⟨hL⟩
      clear hf1 hf2 hw hck hL
      (repeat' first | simp [*, initEnv, c25, leastPV] | (refine wpIf_two (fun _ h => ?_) (fun _ h => ?_) <;> try simp [-Nat.le_zero_eq] at h) | (apply wpE_appendV; (focus (first | assumption | (repeat' first | assumption | with_reducible apply GrowV.setNew | with_reducible apply GrowV.alloc | with_reducible apply GrowV.set | (with_reducible show ¬ Names _ _; simp [*]; done)))); (focus (exact fun _ => rfl)); (focus decide); (focus (intro a; first | rfl | simp)); (focus (simp [maxCells] <;> omega))) | (refine after_intro fun v2 H2 hv2 hnx2 hget2 hnew2 hone2 hcel2 => ?_))
      refine wp_loopF [(8, 11), (31, 59)] (fun (i : Nat) env H => env 31 = .pure (.int .i64 i) ∧ i ≤ l.sights.xs.length ∧ GrowV intF 1 H (env 8) (pickTo (needP l) (·.id) l.sights.xs i)) (fun i => l.sights.xs.length - i) 0 ?_ ?_ ?_ ?_
      · decide
      · exact ⟨by simp, by omega, by simpa [pickTo] using GrowV.nil⟩
      · simp only [loopFuel]; omega
      rintro i env H ⟨h31, hi, hg⟩
      have hfit : i < 9223372036854775807 := by omega
      have hfr := hg.1.fresh
      (repeat' first | simp [*, initEnv] | (refine wpIf_two (fun _ h => ?_) (fun _ h => ?_) <;> try simp [-Nat.le_zero_eq] at h) | (apply wpE_appendV; (focus (first | assumption | (repeat' first | assumption | with_reducible apply GrowV.setNew | with_reducible apply GrowV.alloc | with_reducible apply GrowV.set | (with_reducible show ¬ Names _ _; simp [*]; done)))); (focus (exact fun _ => rfl)); (focus decide); (focus (intro a; first | rfl | simp)); (focus (simp [maxCells] <;> omega))) | (refine after_intro fun v2 H2 hv2 hnx2 hget2 hnew2 hone2 hcel2 => ?_))
      · have hlt : i < l.sights.xs.length := by assumption
        have hsc : ∀ Hx, sliceCells Hx 9 (.pure (l.sights.pv Sight.cells 9)) = some (rowOf Sight.cells l.sights.xs, l.sights.xs.length) := fun Hx => sliceCells_sl' (f := Sight.cells) (sz := 9) (fun _ => rfl) _
        have hnn : isNil .slice (.pure (l.sights.pv Sight.cells 9)) = some false := by
          rw [isNil_sl]
          congr 1
          cases hq : l.sights with
          | nil => rw [hq] at hlt; simp [Sl.xs] at hlt
          | mk _ _ => rfl
        refine wpE_run (caps := []) (by decide) ?_
        refine clone_call (b := false) (fun _ => rfl) g62 (hsc _) hnn (fun h => by cases h) (fun _ => rfl) (by decide) (fun _ => rfl) (by simp [maxCells]; omega) ?_
        rintro v1 H1 hov1 hnl1 hx1 hsame1 hnew1
        rcases hov1 with h | ⟨id1, hv1, hg1⟩
        · exfalso; rw [h.2] at hnl1; simp [isNil] at hnl1
        subst hv1
        have hb1 : H.nx + 2 ≤ id1 := by simpa using hnew1 id1 ⟨_, _, _, rfl⟩
        have hs1 : ∀ id, id < H.nx → H1.get id = H.get id := fun id h => by
          rw [hsame1 id (by simp; omega), get_set_ne (by omega), get_alloc_lt (by simp; omega), get_set_ne (by omega), get_alloc_lt h]
        have gs1 : H1.get H.nx = .cells true (l.sights.xs[i].cells.map AV.pure) := by
          rw [hsame1 _ (show H.nx < _ by simp <;> omega), get_set_ne (by omega), get_alloc_lt (show H.nx < _ by simp <;> omega), get_set_own (by simp)]; simp [Sight.cells]
        have gl1 : H1.get (H.nx + 1) = .cells true (l.cells.map AV.pure) := by
          rw [hsame1 _ (by simp), get_set_own (by simp)]; simp [Life.cells]
        have hg1' : GrowV intF 1 H1 (env 8) (pickTo (needP l) (·.id) l.sights.xs i) := ⟨hg.1.keep (fun id hn => hs1 id (hg.1.names_lt (by obtain ⟨m, hm⟩ := hn; exact ⟨_, _, _, hm⟩))), hg.2⟩
        have hnx1 : H.nx + 2 ≤ H1.nx := by simpa using hx1
        have hn8 : ¬ Names (env 8) (H.nx + 1) := hfr _ (by omega)
        have hn81 : ¬ Names (env 8) id1 := hfr _ (by omega)
        clear hsame1 hnew1 hnl1 hsc hnn hx1
        (repeat' first | simp [*, initEnv] | (refine wpIf_two (fun _ h => ?_) (fun _ h => ?_) <;> try simp [-Nat.le_zero_eq] at h) | (apply wpE_appendV; (focus (first | assumption | (repeat' first | assumption | with_reducible apply GrowV.setNew | with_reducible apply GrowV.alloc | with_reducible apply GrowV.set | (with_reducible show ¬ Names _ _; simp [*]; done)))); (focus (exact fun _ => rfl)); (focus decide); (focus (intro a; first | rfl | simp)); (focus (simp [maxCells] <;> omega))) | (refine after_intro fun v2 H2 hv2 hnx2 hget2 hnew2 hone2 hcel2 => ?_))
        refine wpE_run (caps := []) sh_del1 ?_
        refine delete_call (fun _ _ => rfl) g61 hg1 (fun _ => rfl) (by decide) (fun _ => rfl) rfl rfl (by omega) hlt ?_
        intro H2 hhead hx2 hsame2
        have gs2 : H2.get H.nx = .cells true (l.sights.xs[i].cells.map AV.pure) := by rw [hsame2 _ (by omega)]; exact gs1
        have gl2 : H2.get (H.nx + 1) = .cells true (l.cells.map AV.pure) := by rw [hsame2 _ (by omega)]; exact gl1
        have hg2 : GrowV intF 1 H2 (env 8) (pickTo (needP l) (·.id) l.sights.xs i) := ⟨hg1'.1.keep (fun id hn => hsame2 id (fun e => hn81 (by obtain ⟨m, hm⟩ := hn; exact ⟨_, _, _, by rw [hm, e]⟩))), hg1'.2⟩
        simp only [Sight.cells, Life.cells, List.map] at gs2 gl2
        have hl2 := nx_of_get gl2
        have hls := nx_of_get gs2
        clear gs1 gl1 hg1' hg1 hg hsame2 hx2 hnx1
        have hg3 := fun o => hg2.set hn8 o
        have hh3 : ∀ o, HeadV Sight.cells 9 (H2.set (H.nx + 1) o) (.row id1 9 0 (l.sights.xs.length - 1)) (l.sights.xs.eraseIdx i) := fun o => by
          obtain ⟨ih, rest, hvh, hgh⟩ := hhead
          have : id1 = ih := by simpa using congrArg (fun v => match v with | AV.row i _ _ _ => i | _ => 0) hvh
          exact ⟨ih, rest, hvh, by rw [get_set_ne (by omega)]; exact hgh⟩
        have hg3' : Hide _ := ⟨hg3⟩
        have hh3' : Hide _ := ⟨hh3⟩
        have hg2' : Hide _ := ⟨hg2⟩
        clear hg3 hh3 hhead hg2
        have hst : Hide (pickTo (needP l) (·.id) l.sights.xs (i + 1) = pickTo (needP l) (·.id) l.sights.xs i ++ (if needP l i = true then [l.sights.xs[i].id] else [])) := ⟨by rw [pickTo, List.getElem?_eq_getElem hlt]; rfl⟩
        (repeat' first | simp [*, initEnv] | (refine wpIf_two (fun _ h => ?_) (fun _ h => ?_) <;> try simp [-Nat.le_zero_eq] at h) | (apply wpE_appendV; (focus (first | assumption | (repeat' first | assumption | with_reducible apply GrowV.setNew | with_reducible apply GrowV.alloc | with_reducible apply GrowV.set | (with_reducible show ¬ Names _ _; simp [*]; done)))); (focus (exact fun _ => rfl)); (focus decide); (focus (intro a; first | rfl | simp)); (focus (simp [maxCells] <;> omega))) | (refine after_intro fun v2 H2 hv2 hnx2 hget2 hnew2 hone2 hcel2 => ?_))
        · have h1l : 1 < l.sights.xs.length := by omega
          have hfz : ∀ o, FrzL (H2.set (H.nx + 1) o) true depthF [aggV [.pure (.int .i64 l.habit.step), .pure (.int .i64 l.habit.place), .pure (.int .i64 l.habit.sink), .row id1 9 0 (l.sights.xs.length - 1), .pure (l.notes.pv Note.cells 4)], .pure (.int .i64 (-1))] [.agg (lessP l i).cells, .int .i64 (-1)] := fun o =>
            .cons (FrzK.aggV (n := 11) (.cons (.pure (n := 10) _) (.cons (.pure (n := 10) _) (.cons (.pure (n := 10) _) (.cons ((hh3'.h o).frz (n := 9) (fun _ => rfl)) (.cons (.pure (n := 10) _) .nil)))))) (.cons (.pure (n := 11) _) .nil)
          refine wpE_own (ps := [.agg (lessP l i).cells, .int .i64 (-1)]) (caps := []) (by decide) (hfz _) (hf1'.h i h1l hlt) rfl ?_
          clear hfz
          cases hn : needP l i with
          | false =>
            rw [hn] at hst
            (repeat' first | simp [*, initEnv] | (refine wpIf_two (fun _ h => ?_) (fun _ h => ?_) <;> try simp [-Nat.le_zero_eq] at h) | (apply wpE_appendV; (focus (first | assumption | (repeat' first | assumption | with_reducible apply GrowV.setNew | with_reducible apply GrowV.alloc | with_reducible apply GrowV.set | (with_reducible show ¬ Names _ _; simp [*]; done)))); (focus (exact fun _ => rfl)); (focus decide); (focus (intro a; first | rfl | simp)); (focus (simp [maxCells] <;> omega))) | (refine after_intro fun v2 H2 hv2 hnx2 hget2 hnew2 hone2 hcel2 => ?_))
            exact ⟨i + 1, by omega, by simp, by omega, (hg3'.h _).cast (by rw [hst.h]; simp)⟩
          | true =>
            rw [hn] at hst
            have hgx := hg3'.h (.cells true [.pure (.int .i64 l.habit.step), .pure (.int .i64 l.habit.place), .pure (.int .i64 l.habit.sink), .row id1 9 0 (l.sights.xs.length - 1), .pure (l.notes.pv Note.cells 4)])
            have hlx := pickTo_length (needP l) (·.id) l.sights.xs i
            (repeat' first | simp [*, initEnv] | (refine wpIf_two (fun _ h => ?_) (fun _ h => ?_) <;> try simp [-Nat.le_zero_eq] at h) | (apply wpE_appendV; (focus (first | assumption | (repeat' first | assumption | with_reducible apply GrowV.setNew | with_reducible apply GrowV.alloc | with_reducible apply GrowV.set | (with_reducible show ¬ Names _ _; simp [*]; done)))); (focus (exact fun _ => rfl)); (focus decide); (focus (intro a; first | rfl | simp)); (focus (simp [maxCells] <;> omega))) | (refine after_intro fun v2 H2 hv2 hnx2 hget2 hnew2 hone2 hcel2 => ?_))
            exact ⟨i + 1, by omega, by simp, by omega, hv2.cast (by rw [hst.h]; simp)⟩
        · have hn : needP l i = false := by rw [needP, decide_eq_false (by omega)]; rfl
          rw [hn] at hst
          exact ⟨i + 1, by omega, by simp, by omega, (hg3'.h _).cast (by rw [hst.h]; simp)⟩
      have hie : i = l.sights.xs.length := by omega
      subst hie
      have hAl := pickTo_length (needP l) (·.id) l.sights.xs l.sights.xs.length
      obtain ⟨A, hA⟩ : ∃ A, A = pickTo (needP l) (·.id) l.sights.xs l.sights.xs.length := ⟨_, rfl⟩
      rw [← hA] at hg hAl
      have hA' : Hide _ := ⟨hA⟩
      clear hA hf1' hfr
      refine wp_loopF [(8, 8), (12, 14), (63, 85)] (fun (i : Nat) env H => env 63 = .pure (.int .i64 i) ∧ i ≤ l.notes.xs.length ∧ GrowV intF 1 H (env 8) (A ++ pickTo (needN l) (·.id) l.notes.xs i)) (fun i => l.notes.xs.length - i) 0 ?_ ?_ ?_ ?_
      · decide
      · exact ⟨by simp, by omega, by simpa [pickTo] using hg⟩
      · simp only [loopFuel]; omega
      clear h31 hg hi hfit
      rintro i env2 H ⟨h63, hi, hg⟩
      have hfit : i < 9223372036854775807 := by omega
      have hfr := hg.1.fresh
      (repeat' first | simp [*, initEnv] | (refine wpIf_two (fun _ h => ?_) (fun _ h => ?_) <;> try simp [-Nat.le_zero_eq] at h) | (apply wpE_appendV; (focus (first | assumption | (repeat' first | assumption | with_reducible apply GrowV.setNew | with_reducible apply GrowV.alloc | with_reducible apply GrowV.set | (with_reducible show ¬ Names _ _; simp [*]; done)))); (focus (exact fun _ => rfl)); (focus decide); (focus (intro a; first | rfl | simp)); (focus (simp [maxCells] <;> omega))) | (refine after_intro fun v2 H2 hv2 hnx2 hget2 hnew2 hone2 hcel2 => ?_))
      · have hlt : i < l.notes.xs.length := by assumption
        have hsc : ∀ Hx, sliceCells Hx 4 (.pure (l.notes.pv Note.cells 4)) = some (rowOf Note.cells l.notes.xs, l.notes.xs.length) := fun Hx => sliceCells_sl' (f := Note.cells) (sz := 4) (fun _ => rfl) _
        have hnn : isNil .slice (.pure (l.notes.pv Note.cells 4)) = some false := by
          rw [isNil_sl]
          congr 1
          cases hq : l.notes with
          | nil => rw [hq] at hlt; simp [Sl.xs] at hlt
          | mk _ _ => rfl
        refine wpE_run (caps := []) (by decide) ?_
        refine clone_call (b := false) (fun _ => rfl) g65 (hsc _) hnn (fun h => by cases h) (fun _ => rfl) (by decide) (fun _ => rfl) (by simp [maxCells]; omega) ?_
        rintro v1 H1 hov1 hnl1 hx1 hsame1 hnew1
        rcases hov1 with h | ⟨id1, hv1, hg1⟩
        · exfalso; rw [h.2] at hnl1; simp [isNil] at hnl1
        subst hv1
        have hb1 : H.nx + 2 ≤ id1 := by simpa using hnew1 id1 ⟨_, _, _, rfl⟩
        have hs1 : ∀ id, id < H.nx → H1.get id = H.get id := fun id h => by
          rw [hsame1 id (by simp; omega), get_set_ne (by omega), get_alloc_lt (by simp; omega), get_set_ne (by omega), get_alloc_lt h]
        have gs1 : H1.get H.nx = .cells true (l.notes.xs[i].cells.map AV.pure) := by
          rw [hsame1 _ (show H.nx < _ by simp <;> omega), get_set_ne (by omega), get_alloc_lt (show H.nx < _ by simp <;> omega), get_set_own (by simp)]; simp [Note.cells]
        have gl1 : H1.get (H.nx + 1) = .cells true (l.cells.map AV.pure) := by
          rw [hsame1 _ (by simp), get_set_own (by simp)]; simp [Life.cells]
        have hg1' : GrowV intF 1 H1 (env2 8) (A ++ pickTo (needN l) (·.id) l.notes.xs i) := ⟨hg.1.keep (fun id hn => hs1 id (hg.1.names_lt (by obtain ⟨m, hm⟩ := hn; exact ⟨_, _, _, hm⟩))), hg.2⟩
        have hnx1 : H.nx + 2 ≤ H1.nx := by simpa using hx1
        have hn8 : ¬ Names (env2 8) (H.nx + 1) := hfr _ (by omega)
        have hn81 : ¬ Names (env2 8) id1 := hfr _ (by omega)
        clear hsame1 hnew1 hnl1 hsc hnn hx1
        (repeat' first | simp [*, initEnv] | (refine wpIf_two (fun _ h => ?_) (fun _ h => ?_) <;> try simp [-Nat.le_zero_eq] at h) | (apply wpE_appendV; (focus (first | assumption | (repeat' first | assumption | with_reducible apply GrowV.setNew | with_reducible apply GrowV.alloc | with_reducible apply GrowV.set | (with_reducible show ¬ Names _ _; simp [*]; done)))); (focus (exact fun _ => rfl)); (focus decide); (focus (intro a; first | rfl | simp)); (focus (simp [maxCells] <;> omega))) | (refine after_intro fun v2 H2 hv2 hnx2 hget2 hnew2 hone2 hcel2 => ?_))
        refine wpE_run (caps := []) sh_del2 ?_
        refine delete_call (fun _ _ => rfl) g64 hg1 (fun _ => rfl) (by decide) (fun _ => rfl) rfl rfl (by omega) hlt ?_
        intro H2 hhead hx2 hsame2
        have gs2 : H2.get H.nx = .cells true (l.notes.xs[i].cells.map AV.pure) := by rw [hsame2 _ (by omega)]; exact gs1
        have gl2 : H2.get (H.nx + 1) = .cells true (l.cells.map AV.pure) := by rw [hsame2 _ (by omega)]; exact gl1
        have hg2 : GrowV intF 1 H2 (env2 8) (A ++ pickTo (needN l) (·.id) l.notes.xs i) := ⟨hg1'.1.keep (fun id hn => hsame2 id (fun e => hn81 (by obtain ⟨m, hm⟩ := hn; exact ⟨_, _, _, by rw [hm, e]⟩))), hg1'.2⟩
        simp only [Note.cells, Life.cells, List.map] at gs2 gl2
        have hl2 := nx_of_get gl2
        have hls := nx_of_get gs2
        clear gs1 gl1 hg1' hg1 hg hsame2 hx2 hnx1
        have hg3 := fun o => hg2.set hn8 o
        have hh3 : ∀ o, HeadV Note.cells 4 (H2.set (H.nx + 1) o) (.row id1 4 0 (l.notes.xs.length - 1)) (l.notes.xs.eraseIdx i) := fun o => by
          obtain ⟨ih, rest, hvh, hgh⟩ := hhead
          have : id1 = ih := by simpa using congrArg (fun v => match v with | AV.row i _ _ _ => i | _ => 0) hvh
          exact ⟨ih, rest, hvh, by rw [get_set_ne (by omega)]; exact hgh⟩
        have hg3' : Hide _ := ⟨hg3⟩
        have hh3' : Hide _ := ⟨hh3⟩
        have hg2' : Hide _ := ⟨hg2⟩
        clear hg3 hh3 hhead hg2
        have hst : Hide (A ++ pickTo (needN l) (·.id) l.notes.xs (i + 1) = (A ++ pickTo (needN l) (·.id) l.notes.xs i) ++ (if needN l i = true then [l.notes.xs[i].id] else [])) := ⟨by rw [pickTo, List.getElem?_eq_getElem hlt, List.append_assoc]; rfl⟩
        (repeat' first | simp [*, initEnv] | (refine wpIf_two (fun _ h => ?_) (fun _ h => ?_) <;> try simp [-Nat.le_zero_eq] at h) | (apply wpE_appendV; (focus (first | assumption | (repeat' first | assumption | with_reducible apply GrowV.setNew | with_reducible apply GrowV.alloc | with_reducible apply GrowV.set | (with_reducible show ¬ Names _ _; simp [*]; done)))); (focus (exact fun _ => rfl)); (focus decide); (focus (intro a; first | rfl | simp)); (focus (simp [maxCells] <;> omega))) | (refine after_intro fun v2 H2 hv2 hnx2 hget2 hnew2 hone2 hcel2 => ?_))
        have hfz : ∀ o, FrzL (H2.set (H.nx + 1) o) true depthF [aggV [.pure (.int .i64 l.habit.step), .pure (.int .i64 l.habit.place), .pure (.int .i64 l.habit.sink), .pure (l.sights.pv Sight.cells 9), .row id1 4 0 (l.notes.xs.length - 1)], .pure (.int .i64 (-1))] [.agg (lessN l i).cells, .int .i64 (-1)] := fun o =>
          .cons (FrzK.aggV (n := 11) (.cons (.pure (n := 10) _) (.cons (.pure (n := 10) _) (.cons (.pure (n := 10) _) (.cons (.pure (n := 10) _) (.cons ((hh3'.h o).frz (n := 9) (fun _ => rfl)) .nil)))))) (.cons (.pure (n := 11) _) .nil)
        refine wpE_own (ps := [.agg (lessN l i).cells, .int .i64 (-1)]) (caps := []) (by decide) (hfz _) (hf2'.h i) rfl ?_
        clear hfz
        cases hn : needN l i with
        | false =>
          rw [hn] at hst
          (repeat' first | simp [*, initEnv] | (refine wpIf_two (fun _ h => ?_) (fun _ h => ?_) <;> try simp [-Nat.le_zero_eq] at h) | (apply wpE_appendV; (focus (first | assumption | (repeat' first | assumption | with_reducible apply GrowV.setNew | with_reducible apply GrowV.alloc | with_reducible apply GrowV.set | (with_reducible show ¬ Names _ _; simp [*]; done)))); (focus (exact fun _ => rfl)); (focus decide); (focus (intro a; first | rfl | simp)); (focus (simp [maxCells] <;> omega))) | (refine after_intro fun v2 H2 hv2 hnx2 hget2 hnew2 hone2 hcel2 => ?_))
          exact ⟨i + 1, by omega, by simp, by omega, (hg3'.h _).cast (by rw [hst.h]; simp)⟩
        | true =>
          rw [hn] at hst
          have hgx := hg3'.h (.cells true [.pure (.int .i64 l.habit.step), .pure (.int .i64 l.habit.place), .pure (.int .i64 l.habit.sink), .pure (l.sights.pv Sight.cells 9), .row id1 4 0 (l.notes.xs.length - 1)])
          have hlx := pickTo_length (needN l) (·.id) l.notes.xs i
          (repeat' first | simp [*, initEnv] | (refine wpIf_two (fun _ h => ?_) (fun _ h => ?_) <;> try simp [-Nat.le_zero_eq] at h) | (apply wpE_appendV; (focus (first | assumption | (repeat' first | assumption | with_reducible apply GrowV.setNew | with_reducible apply GrowV.alloc | with_reducible apply GrowV.set | (with_reducible show ¬ Names _ _; simp [*]; done)))); (focus (exact fun _ => rfl)); (focus decide); (focus (intro a; first | rfl | simp)); (focus (simp [maxCells] <;> omega))) | (refine after_intro fun v2 H2 hv2 hnx2 hget2 hnew2 hone2 hcel2 => ?_))
          exact ⟨i + 1, by omega, by simp, by omega, hv2.cast (by rw [hst.h]; simp)⟩
      have hie : i = l.notes.xs.length := by omega
      subst hie
      have hN : A ++ pickTo (needN l) (·.id) l.notes.xs l.notes.xs.length = needsL l := by rw [hA'.h]; rfl
      have hlN : (needsL l).length ≤ 100 := by
        rw [← hN, List.length_append]
        have := pickTo_length (needN l) (·.id) l.notes.xs l.notes.xs.length
        omega
      rw [hN] at hg
      clear hN hA' hf2' hfr
      by_cases he : needsL l = []
      · have h8 := hg.2 he
        have hPn : P = .nils := by rw [hP.h, he]; rfl
        rw [h8]
        refine wpE_run (caps := []) sh_sort ⟨_, _, sort_nil (n + 1) H, ?_⟩
        clear hP
        (repeat' first | simp [*, initEnv] | (refine wpIf_two (fun _ h => ?_) (fun _ h => ?_) <;> try simp [-Nat.le_zero_eq] at h) | (apply wpE_appendV; (focus (first | assumption | (repeat' first | assumption | with_reducible apply GrowV.setNew | with_reducible apply GrowV.alloc | with_reducible apply GrowV.set | (with_reducible show ¬ Names _ _; simp [*]; done)))); (focus (exact fun _ => rfl)); (focus decide); (focus (intro a; first | rfl | simp)); (focus (simp [maxCells] <;> omega))) | (refine after_intro fun v2 H2 hv2 hnx2 hget2 hnew2 hone2 hcel2 => ?_))
      · obtain ⟨id, hrow, hget⟩ := hg.1.row he
        obtain ⟨H1, hs1, hs2, hs3, hs4, hs5⟩ := sortRun_own (v := env2 8) (l := needsL l) ⟨id, [], hrow, by rw [List.append_nil]; exact hget⟩ (by simp [maxCells]; omega)
        rw [hrow] at hs5
        have hget1 := hs5 id rfl hget
        clear hs2 hs5
        refine wpE_run (caps := []) sh_sort ⟨_, _, runSort _ _ _ _ hs1, ?_⟩
        have hil := isort_length (needsL l)
        obtain ⟨ids, hids⟩ := row_res (f := intF) (sz := 1) (n := 9) (fun _ => rfl) hget1 hil
        have hPn : P = (Sl.mk false (isort (needsL l))).pv intF 1 := by
          rw [hP.h]
          cases hq : isort (needsL l) with
          | nil => rw [hq] at hil; exact absurd (List.eq_nil_of_length_eq_zero hil.symm) he
          | cons _ _ => rfl
        rw [← hPn] at hids
        clear hP hPn hil hs1 hs3 hs4 hg
        (repeat' first | simp [*, initEnv] | (refine wpIf_two (fun _ h => ?_) (fun _ h => ?_) <;> try simp [-Nat.le_zero_eq] at h) | (apply wpE_appendV; (focus (first | assumption | (repeat' first | assumption | with_reducible apply GrowV.setNew | with_reducible apply GrowV.alloc | with_reducible apply GrowV.set | (with_reducible show ¬ Names _ _; simp [*]; done)))); (focus (exact fun _ => rfl)); (focus decide); (focus (intro a; first | rfl | simp)); (focus (simp [maxCells] <;> omega))) | (refine after_intro fun v2 H2 hv2 hnx2 hget2 hnew2 hone2 hcel2 => ?_))
    | some c =>
      rw [hL] at hcl hw
      have hf1 : ∀ (i : Nat), 1 < l.sights.xs.length → i < l.sights.xs.length → callP G (n + 11) 63 [.agg (lessP l i).cells, .int .i64 ((chg c : Nat) : Int)] = some (.bool (needP l i)) := fun i h hi => by
        have := e63 n (lessP l i) ((chg c : Nat) : Int) (right_lessP hr h hi)
        rw [this, needP, hw, decide_eq_true h, Bool.true_and]
      have hf2 : ∀ (i : Nat), callP G (n + 11) 63 [.agg (lessN l i).cells, .int .i64 ((chg c : Nat) : Int)] = some (.bool (needN l i)) := fun i => by
        have := e63 n (lessN l i) ((chg c : Nat) : Int) (right_lessN hr)
        rw [this, needN, hw]
      have hf1' : Hide _ := ⟨hf1⟩
      have hf2' : Hide _ := ⟨hf2⟩
      have hck' : Hide _ := ⟨hck⟩
      have hL' : Hide _ := ⟨hL⟩
      clear hf1 hf2 hw hck hL
      have hcq := leastTo_length _ _ _ _ hL'.h
      have hcm : (Sl.mk false c).xs.length < 1000 := by simp [Sl.xs]; omega
      have hch : ∀ H, doCall (calleeOf G (n + 11)) H (.pure (.func 58 [])) [.pure ((Sl.mk false c).pv intF 1)] = some (.val (.pure (.int .i64 (chg c)))) := fun H => d58 (n + 10) H _ hcm
      clear hcq
      (repeat' first | simp [*, initEnv, c25, leastPV] | (refine wpIf_two (fun _ h => ?_) (fun _ h => ?_) <;> try simp [-Nat.le_zero_eq] at h) | (apply wpE_appendV; (focus (first | assumption | (repeat' first | assumption | with_reducible apply GrowV.setNew | with_reducible apply GrowV.alloc | with_reducible apply GrowV.set | (with_reducible show ¬ Names _ _; simp [*]; done)))); (focus (exact fun _ => rfl)); (focus decide); (focus (intro a; first | rfl | simp)); (focus (simp [maxCells] <;> omega))) | (refine after_intro fun v2 H2 hv2 hnx2 hget2 hnew2 hone2 hcel2 => ?_))
      refine wp_loopF [(8, 11), (31, 59)] (fun (i : Nat) env H => env 31 = .pure (.int .i64 i) ∧ i ≤ l.sights.xs.length ∧ GrowV intF 1 H (env 8) (pickTo (needP l) (·.id) l.sights.xs i)) (fun i => l.sights.xs.length - i) 0 ?_ ?_ ?_ ?_
      · decide
      · exact ⟨by simp, by omega, by simpa [pickTo] using GrowV.nil⟩
      · simp only [loopFuel]; omega
      rintro i env H ⟨h31, hi, hg⟩
      have hfit : i < 9223372036854775807 := by omega
      have hfr := hg.1.fresh
      (repeat' first | simp [*, initEnv] | (refine wpIf_two (fun _ h => ?_) (fun _ h => ?_) <;> try simp [-Nat.le_zero_eq] at h) | (apply wpE_appendV; (focus (first | assumption | (repeat' first | assumption | with_reducible apply GrowV.setNew | with_reducible apply GrowV.alloc | with_reducible apply GrowV.set | (with_reducible show ¬ Names _ _; simp [*]; done)))); (focus (exact fun _ => rfl)); (focus decide); (focus (intro a; first | rfl | simp)); (focus (simp [maxCells] <;> omega))) | (refine after_intro fun v2 H2 hv2 hnx2 hget2 hnew2 hone2 hcel2 => ?_))
      · have hlt : i < l.sights.xs.length := by assumption
        have hsc : ∀ Hx, sliceCells Hx 9 (.pure (l.sights.pv Sight.cells 9)) = some (rowOf Sight.cells l.sights.xs, l.sights.xs.length) := fun Hx => sliceCells_sl' (f := Sight.cells) (sz := 9) (fun _ => rfl) _
        have hnn : isNil .slice (.pure (l.sights.pv Sight.cells 9)) = some false := by
          rw [isNil_sl]
          congr 1
          cases hq : l.sights with
          | nil => rw [hq] at hlt; simp [Sl.xs] at hlt
          | mk _ _ => rfl
        refine wpE_run (caps := []) (by decide) ?_
        refine clone_call (b := false) (fun _ => rfl) g62 (hsc _) hnn (fun h => by cases h) (fun _ => rfl) (by decide) (fun _ => rfl) (by simp [maxCells]; omega) ?_
        rintro v1 H1 hov1 hnl1 hx1 hsame1 hnew1
        rcases hov1 with h | ⟨id1, hv1, hg1⟩
        · exfalso; rw [h.2] at hnl1; simp [isNil] at hnl1
        subst hv1
        have hb1 : H.nx + 2 ≤ id1 := by simpa using hnew1 id1 ⟨_, _, _, rfl⟩
        have hs1 : ∀ id, id < H.nx → H1.get id = H.get id := fun id h => by
          rw [hsame1 id (by simp; omega), get_set_ne (by omega), get_alloc_lt (by simp; omega), get_set_ne (by omega), get_alloc_lt h]
        have gs1 : H1.get H.nx = .cells true (l.sights.xs[i].cells.map AV.pure) := by
          rw [hsame1 _ (show H.nx < _ by simp <;> omega), get_set_ne (by omega), get_alloc_lt (show H.nx < _ by simp <;> omega), get_set_own (by simp)]; simp [Sight.cells]
        have gl1 : H1.get (H.nx + 1) = .cells true (l.cells.map AV.pure) := by
          rw [hsame1 _ (by simp), get_set_own (by simp)]; simp [Life.cells]
        have hg1' : GrowV intF 1 H1 (env 8) (pickTo (needP l) (·.id) l.sights.xs i) := ⟨hg.1.keep (fun id hn => hs1 id (hg.1.names_lt (by obtain ⟨m, hm⟩ := hn; exact ⟨_, _, _, hm⟩))), hg.2⟩
        have hnx1 : H.nx + 2 ≤ H1.nx := by simpa using hx1
        have hn8 : ¬ Names (env 8) (H.nx + 1) := hfr _ (by omega)
        have hn81 : ¬ Names (env 8) id1 := hfr _ (by omega)
        clear hsame1 hnew1 hnl1 hsc hnn hx1
        (repeat' first | simp [*, initEnv] | (refine wpIf_two (fun _ h => ?_) (fun _ h => ?_) <;> try simp [-Nat.le_zero_eq] at h) | (apply wpE_appendV; (focus (first | assumption | (repeat' first | assumption | with_reducible apply GrowV.setNew | with_reducible apply GrowV.alloc | with_reducible apply GrowV.set | (with_reducible show ¬ Names _ _; simp [*]; done)))); (focus (exact fun _ => rfl)); (focus decide); (focus (intro a; first | rfl | simp)); (focus (simp [maxCells] <;> omega))) | (refine after_intro fun v2 H2 hv2 hnx2 hget2 hnew2 hone2 hcel2 => ?_))
        refine wpE_run (caps := []) sh_del1 ?_
        refine delete_call (fun _ _ => rfl) g61 hg1 (fun _ => rfl) (by decide) (fun _ => rfl) rfl rfl (by omega) hlt ?_
        intro H2 hhead hx2 hsame2
        have gs2 : H2.get H.nx = .cells true (l.sights.xs[i].cells.map AV.pure) := by rw [hsame2 _ (by omega)]; exact gs1
        have gl2 : H2.get (H.nx + 1) = .cells true (l.cells.map AV.pure) := by rw [hsame2 _ (by omega)]; exact gl1
        have hg2 : GrowV intF 1 H2 (env 8) (pickTo (needP l) (·.id) l.sights.xs i) := ⟨hg1'.1.keep (fun id hn => hsame2 id (fun e => hn81 (by obtain ⟨m, hm⟩ := hn; exact ⟨_, _, _, by rw [hm, e]⟩))), hg1'.2⟩
        simp only [Sight.cells, Life.cells, List.map] at gs2 gl2
        have hl2 := nx_of_get gl2
        have hls := nx_of_get gs2
        clear gs1 gl1 hg1' hg1 hg hsame2 hx2 hnx1
        have hg3 := fun o => hg2.set hn8 o
        have hh3 : ∀ o, HeadV Sight.cells 9 (H2.set (H.nx + 1) o) (.row id1 9 0 (l.sights.xs.length - 1)) (l.sights.xs.eraseIdx i) := fun o => by
          obtain ⟨ih, rest, hvh, hgh⟩ := hhead
          have : id1 = ih := by simpa using congrArg (fun v => match v with | AV.row i _ _ _ => i | _ => 0) hvh
          exact ⟨ih, rest, hvh, by rw [get_set_ne (by omega)]; exact hgh⟩
        have hg3' : Hide _ := ⟨hg3⟩
        have hh3' : Hide _ := ⟨hh3⟩
        have hg2' : Hide _ := ⟨hg2⟩
        clear hg3 hh3 hhead hg2
        have hst : Hide (pickTo (needP l) (·.id) l.sights.xs (i + 1) = pickTo (needP l) (·.id) l.sights.xs i ++ (if needP l i = true then [l.sights.xs[i].id] else [])) := ⟨by rw [pickTo, List.getElem?_eq_getElem hlt]; rfl⟩
        (repeat' first | simp [*, initEnv] | (refine wpIf_two (fun _ h => ?_) (fun _ h => ?_) <;> try simp [-Nat.le_zero_eq] at h) | (apply wpE_appendV; (focus (first | assumption | (repeat' first | assumption | with_reducible apply GrowV.setNew | with_reducible apply GrowV.alloc | with_reducible apply GrowV.set | (with_reducible show ¬ Names _ _; simp [*]; done)))); (focus (exact fun _ => rfl)); (focus decide); (focus (intro a; first | rfl | simp)); (focus (simp [maxCells] <;> omega))) | (refine after_intro fun v2 H2 hv2 hnx2 hget2 hnew2 hone2 hcel2 => ?_))
        · have h1l : 1 < l.sights.xs.length := by omega
          have hfz : ∀ o, FrzL (H2.set (H.nx + 1) o) true depthF [aggV [.pure (.int .i64 l.habit.step), .pure (.int .i64 l.habit.place), .pure (.int .i64 l.habit.sink), .row id1 9 0 (l.sights.xs.length - 1), .pure (l.notes.pv Note.cells 4)], .pure (.int .i64 ((chg c : Nat) : Int))] [.agg (lessP l i).cells, .int .i64 ((chg c : Nat) : Int)] := fun o =>
            .cons (FrzK.aggV (n := 11) (.cons (.pure (n := 10) _) (.cons (.pure (n := 10) _) (.cons (.pure (n := 10) _) (.cons ((hh3'.h o).frz (n := 9) (fun _ => rfl)) (.cons (.pure (n := 10) _) .nil)))))) (.cons (.pure (n := 11) _) .nil)
          refine wpE_own (ps := [.agg (lessP l i).cells, .int .i64 ((chg c : Nat) : Int)]) (caps := []) (by decide) (hfz _) (hf1'.h i h1l hlt) rfl ?_
          clear hfz
          cases hn : needP l i with
          | false =>
            rw [hn] at hst
            (repeat' first | simp [*, initEnv] | (refine wpIf_two (fun _ h => ?_) (fun _ h => ?_) <;> try simp [-Nat.le_zero_eq] at h) | (apply wpE_appendV; (focus (first | assumption | (repeat' first | assumption | with_reducible apply GrowV.setNew | with_reducible apply GrowV.alloc | with_reducible apply GrowV.set | (with_reducible show ¬ Names _ _; simp [*]; done)))); (focus (exact fun _ => rfl)); (focus decide); (focus (intro a; first | rfl | simp)); (focus (simp [maxCells] <;> omega))) | (refine after_intro fun v2 H2 hv2 hnx2 hget2 hnew2 hone2 hcel2 => ?_))
            exact ⟨i + 1, by omega, by simp, by omega, (hg3'.h _).cast (by rw [hst.h]; simp)⟩
          | true =>
            rw [hn] at hst
            have hgx := hg3'.h (.cells true [.pure (.int .i64 l.habit.step), .pure (.int .i64 l.habit.place), .pure (.int .i64 l.habit.sink), .row id1 9 0 (l.sights.xs.length - 1), .pure (l.notes.pv Note.cells 4)])
            have hlx := pickTo_length (needP l) (·.id) l.sights.xs i
            (repeat' first | simp [*, initEnv] | (refine wpIf_two (fun _ h => ?_) (fun _ h => ?_) <;> try simp [-Nat.le_zero_eq] at h) | (apply wpE_appendV; (focus (first | assumption | (repeat' first | assumption | with_reducible apply GrowV.setNew | with_reducible apply GrowV.alloc | with_reducible apply GrowV.set | (with_reducible show ¬ Names _ _; simp [*]; done)))); (focus (exact fun _ => rfl)); (focus decide); (focus (intro a; first | rfl | simp)); (focus (simp [maxCells] <;> omega))) | (refine after_intro fun v2 H2 hv2 hnx2 hget2 hnew2 hone2 hcel2 => ?_))
            exact ⟨i + 1, by omega, by simp, by omega, hv2.cast (by rw [hst.h]; simp)⟩
        · have hn : needP l i = false := by rw [needP, decide_eq_false (by omega)]; rfl
          rw [hn] at hst
          exact ⟨i + 1, by omega, by simp, by omega, (hg3'.h _).cast (by rw [hst.h]; simp)⟩
      have hie : i = l.sights.xs.length := by omega
      subst hie
      have hAl := pickTo_length (needP l) (·.id) l.sights.xs l.sights.xs.length
      obtain ⟨A, hA⟩ : ∃ A, A = pickTo (needP l) (·.id) l.sights.xs l.sights.xs.length := ⟨_, rfl⟩
      rw [← hA] at hg hAl
      have hA' : Hide _ := ⟨hA⟩
      clear hA hf1' hfr
      refine wp_loopF [(8, 8), (12, 14), (63, 85)] (fun (i : Nat) env H => env 63 = .pure (.int .i64 i) ∧ i ≤ l.notes.xs.length ∧ GrowV intF 1 H (env 8) (A ++ pickTo (needN l) (·.id) l.notes.xs i)) (fun i => l.notes.xs.length - i) 0 ?_ ?_ ?_ ?_
      · decide
      · exact ⟨by simp, by omega, by simpa [pickTo] using hg⟩
      · simp only [loopFuel]; omega
      clear h31 hg hi hfit
      rintro i env2 H ⟨h63, hi, hg⟩
      have hfit : i < 9223372036854775807 := by omega
      have hfr := hg.1.fresh
      (repeat' first | simp [*, initEnv] | (refine wpIf_two (fun _ h => ?_) (fun _ h => ?_) <;> try simp [-Nat.le_zero_eq] at h) | (apply wpE_appendV; (focus (first | assumption | (repeat' first | assumption | with_reducible apply GrowV.setNew | with_reducible apply GrowV.alloc | with_reducible apply GrowV.set | (with_reducible show ¬ Names _ _; simp [*]; done)))); (focus (exact fun _ => rfl)); (focus decide); (focus (intro a; first | rfl | simp)); (focus (simp [maxCells] <;> omega))) | (refine after_intro fun v2 H2 hv2 hnx2 hget2 hnew2 hone2 hcel2 => ?_))
      · have hlt : i < l.notes.xs.length := by assumption
        have hsc : ∀ Hx, sliceCells Hx 4 (.pure (l.notes.pv Note.cells 4)) = some (rowOf Note.cells l.notes.xs, l.notes.xs.length) := fun Hx => sliceCells_sl' (f := Note.cells) (sz := 4) (fun _ => rfl) _
        have hnn : isNil .slice (.pure (l.notes.pv Note.cells 4)) = some false := by
          rw [isNil_sl]
          congr 1
          cases hq : l.notes with
          | nil => rw [hq] at hlt; simp [Sl.xs] at hlt
          | mk _ _ => rfl
        refine wpE_run (caps := []) (by decide) ?_
        refine clone_call (b := false) (fun _ => rfl) g65 (hsc _) hnn (fun h => by cases h) (fun _ => rfl) (by decide) (fun _ => rfl) (by simp [maxCells]; omega) ?_
        rintro v1 H1 hov1 hnl1 hx1 hsame1 hnew1
        rcases hov1 with h | ⟨id1, hv1, hg1⟩
        · exfalso; rw [h.2] at hnl1; simp [isNil] at hnl1
        subst hv1
        have hb1 : H.nx + 2 ≤ id1 := by simpa using hnew1 id1 ⟨_, _, _, rfl⟩
        have hs1 : ∀ id, id < H.nx → H1.get id = H.get id := fun id h => by
          rw [hsame1 id (by simp; omega), get_set_ne (by omega), get_alloc_lt (by simp; omega), get_set_ne (by omega), get_alloc_lt h]
        have gs1 : H1.get H.nx = .cells true (l.notes.xs[i].cells.map AV.pure) := by
          rw [hsame1 _ (show H.nx < _ by simp <;> omega), get_set_ne (by omega), get_alloc_lt (show H.nx < _ by simp <;> omega), get_set_own (by simp)]; simp [Note.cells]
        have gl1 : H1.get (H.nx + 1) = .cells true (l.cells.map AV.pure) := by
          rw [hsame1 _ (by simp), get_set_own (by simp)]; simp [Life.cells]
        have hg1' : GrowV intF 1 H1 (env2 8) (A ++ pickTo (needN l) (·.id) l.notes.xs i) := ⟨hg.1.keep (fun id hn => hs1 id (hg.1.names_lt (by obtain ⟨m, hm⟩ := hn; exact ⟨_, _, _, hm⟩))), hg.2⟩
        have hnx1 : H.nx + 2 ≤ H1.nx := by simpa using hx1
        have hn8 : ¬ Names (env2 8) (H.nx + 1) := hfr _ (by omega)
        have hn81 : ¬ Names (env2 8) id1 := hfr _ (by omega)
        clear hsame1 hnew1 hnl1 hsc hnn hx1
        (repeat' first | simp [*, initEnv] | (refine wpIf_two (fun _ h => ?_) (fun _ h => ?_) <;> try simp [-Nat.le_zero_eq] at h) | (apply wpE_appendV; (focus (first | assumption | (repeat' first | assumption | with_reducible apply GrowV.setNew | with_reducible apply GrowV.alloc | with_reducible apply GrowV.set | (with_reducible show ¬ Names _ _; simp [*]; done)))); (focus (exact fun _ => rfl)); (focus decide); (focus (intro a; first | rfl | simp)); (focus (simp [maxCells] <;> omega))) | (refine after_intro fun v2 H2 hv2 hnx2 hget2 hnew2 hone2 hcel2 => ?_))
        refine wpE_run (caps := []) sh_del2 ?_
        refine delete_call (fun _ _ => rfl) g64 hg1 (fun _ => rfl) (by decide) (fun _ => rfl) rfl rfl (by omega) hlt ?_
        intro H2 hhead hx2 hsame2
        have gs2 : H2.get H.nx = .cells true (l.notes.xs[i].cells.map AV.pure) := by rw [hsame2 _ (by omega)]; exact gs1
        have gl2 : H2.get (H.nx + 1) = .cells true (l.cells.map AV.pure) := by rw [hsame2 _ (by omega)]; exact gl1
        have hg2 : GrowV intF 1 H2 (env2 8) (A ++ pickTo (needN l) (·.id) l.notes.xs i) := ⟨hg1'.1.keep (fun id hn => hsame2 id (fun e => hn81 (by obtain ⟨m, hm⟩ := hn; exact ⟨_, _, _, by rw [hm, e]⟩))), hg1'.2⟩
        simp only [Note.cells, Life.cells, List.map] at gs2 gl2
        have hl2 := nx_of_get gl2
        have hls := nx_of_get gs2
        clear gs1 gl1 hg1' hg1 hg hsame2 hx2 hnx1
        have hg3 := fun o => hg2.set hn8 o
        have hh3 : ∀ o, HeadV Note.cells 4 (H2.set (H.nx + 1) o) (.row id1 4 0 (l.notes.xs.length - 1)) (l.notes.xs.eraseIdx i) := fun o => by
          obtain ⟨ih, rest, hvh, hgh⟩ := hhead
          have : id1 = ih := by simpa using congrArg (fun v => match v with | AV.row i _ _ _ => i | _ => 0) hvh
          exact ⟨ih, rest, hvh, by rw [get_set_ne (by omega)]; exact hgh⟩
        have hg3' : Hide _ := ⟨hg3⟩
        have hh3' : Hide _ := ⟨hh3⟩
        have hg2' : Hide _ := ⟨hg2⟩
        clear hg3 hh3 hhead hg2
        have hst : Hide (A ++ pickTo (needN l) (·.id) l.notes.xs (i + 1) = (A ++ pickTo (needN l) (·.id) l.notes.xs i) ++ (if needN l i = true then [l.notes.xs[i].id] else [])) := ⟨by rw [pickTo, List.getElem?_eq_getElem hlt, List.append_assoc]; rfl⟩
        (repeat' first | simp [*, initEnv] | (refine wpIf_two (fun _ h => ?_) (fun _ h => ?_) <;> try simp [-Nat.le_zero_eq] at h) | (apply wpE_appendV; (focus (first | assumption | (repeat' first | assumption | with_reducible apply GrowV.setNew | with_reducible apply GrowV.alloc | with_reducible apply GrowV.set | (with_reducible show ¬ Names _ _; simp [*]; done)))); (focus (exact fun _ => rfl)); (focus decide); (focus (intro a; first | rfl | simp)); (focus (simp [maxCells] <;> omega))) | (refine after_intro fun v2 H2 hv2 hnx2 hget2 hnew2 hone2 hcel2 => ?_))
        have hfz : ∀ o, FrzL (H2.set (H.nx + 1) o) true depthF [aggV [.pure (.int .i64 l.habit.step), .pure (.int .i64 l.habit.place), .pure (.int .i64 l.habit.sink), .pure (l.sights.pv Sight.cells 9), .row id1 4 0 (l.notes.xs.length - 1)], .pure (.int .i64 ((chg c : Nat) : Int))] [.agg (lessN l i).cells, .int .i64 ((chg c : Nat) : Int)] := fun o =>
          .cons (FrzK.aggV (n := 11) (.cons (.pure (n := 10) _) (.cons (.pure (n := 10) _) (.cons (.pure (n := 10) _) (.cons (.pure (n := 10) _) (.cons ((hh3'.h o).frz (n := 9) (fun _ => rfl)) .nil)))))) (.cons (.pure (n := 11) _) .nil)
        refine wpE_own (ps := [.agg (lessN l i).cells, .int .i64 ((chg c : Nat) : Int)]) (caps := []) (by decide) (hfz _) (hf2'.h i) rfl ?_
        clear hfz
        cases hn : needN l i with
        | false =>
          rw [hn] at hst
          (repeat' first | simp [*, initEnv] | (refine wpIf_two (fun _ h => ?_) (fun _ h => ?_) <;> try simp [-Nat.le_zero_eq] at h) | (apply wpE_appendV; (focus (first | assumption | (repeat' first | assumption | with_reducible apply GrowV.setNew | with_reducible apply GrowV.alloc | with_reducible apply GrowV.set | (with_reducible show ¬ Names _ _; simp [*]; done)))); (focus (exact fun _ => rfl)); (focus decide); (focus (intro a; first | rfl | simp)); (focus (simp [maxCells] <;> omega))) | (refine after_intro fun v2 H2 hv2 hnx2 hget2 hnew2 hone2 hcel2 => ?_))
          exact ⟨i + 1, by omega, by simp, by omega, (hg3'.h _).cast (by rw [hst.h]; simp)⟩
        | true =>
          rw [hn] at hst
          have hgx := hg3'.h (.cells true [.pure (.int .i64 l.habit.step), .pure (.int .i64 l.habit.place), .pure (.int .i64 l.habit.sink), .pure (l.sights.pv Sight.cells 9), .row id1 4 0 (l.notes.xs.length - 1)])
          have hlx := pickTo_length (needN l) (·.id) l.notes.xs i
          (repeat' first | simp [*, initEnv] | (refine wpIf_two (fun _ h => ?_) (fun _ h => ?_) <;> try simp [-Nat.le_zero_eq] at h) | (apply wpE_appendV; (focus (first | assumption | (repeat' first | assumption | with_reducible apply GrowV.setNew | with_reducible apply GrowV.alloc | with_reducible apply GrowV.set | (with_reducible show ¬ Names _ _; simp [*]; done)))); (focus (exact fun _ => rfl)); (focus decide); (focus (intro a; first | rfl | simp)); (focus (simp [maxCells] <;> omega))) | (refine after_intro fun v2 H2 hv2 hnx2 hget2 hnew2 hone2 hcel2 => ?_))
          exact ⟨i + 1, by omega, by simp, by omega, hv2.cast (by rw [hst.h]; simp)⟩
      have hie : i = l.notes.xs.length := by omega
      subst hie
      have hN : A ++ pickTo (needN l) (·.id) l.notes.xs l.notes.xs.length = needsL l := by rw [hA'.h]; rfl
      have hlN : (needsL l).length ≤ 100 := by
        rw [← hN, List.length_append]
        have := pickTo_length (needN l) (·.id) l.notes.xs l.notes.xs.length
        omega
      rw [hN] at hg
      clear hN hA' hf2' hfr
      by_cases he : needsL l = []
      · have h8 := hg.2 he
        have hPn : P = .nils := by rw [hP.h, he]; rfl
        rw [h8]
        refine wpE_run (caps := []) sh_sort ⟨_, _, sort_nil (n + 1) H, ?_⟩
        clear hP
        (repeat' first | simp [*, initEnv] | (refine wpIf_two (fun _ h => ?_) (fun _ h => ?_) <;> try simp [-Nat.le_zero_eq] at h) | (apply wpE_appendV; (focus (first | assumption | (repeat' first | assumption | with_reducible apply GrowV.setNew | with_reducible apply GrowV.alloc | with_reducible apply GrowV.set | (with_reducible show ¬ Names _ _; simp [*]; done)))); (focus (exact fun _ => rfl)); (focus decide); (focus (intro a; first | rfl | simp)); (focus (simp [maxCells] <;> omega))) | (refine after_intro fun v2 H2 hv2 hnx2 hget2 hnew2 hone2 hcel2 => ?_))
      · obtain ⟨id, hrow, hget⟩ := hg.1.row he
        obtain ⟨H1, hs1, hs2, hs3, hs4, hs5⟩ := sortRun_own (v := env2 8) (l := needsL l) ⟨id, [], hrow, by rw [List.append_nil]; exact hget⟩ (by simp [maxCells]; omega)
        rw [hrow] at hs5
        have hget1 := hs5 id rfl hget
        clear hs2 hs5
        refine wpE_run (caps := []) sh_sort ⟨_, _, runSort _ _ _ _ hs1, ?_⟩
        have hil := isort_length (needsL l)
        obtain ⟨ids, hids⟩ := row_res (f := intF) (sz := 1) (n := 9) (fun _ => rfl) hget1 hil
        have hPn : P = (Sl.mk false (isort (needsL l))).pv intF 1 := by
          rw [hP.h]
          cases hq : isort (needsL l) with
          | nil => rw [hq] at hil; exact absurd (List.eq_nil_of_length_eq_zero hil.symm) he
          | cons _ _ => rfl
        rw [← hPn] at hids
        clear hP hPn hil hs1 hs3 hs4 hg
        (repeat' first | simp [*, initEnv] | (refine wpIf_two (fun _ h => ?_) (fun _ h => ?_) <;> try simp [-Nat.le_zero_eq] at h) | (apply wpE_appendV; (focus (first | assumption | (repeat' first | assumption | with_reducible apply GrowV.setNew | with_reducible apply GrowV.alloc | with_reducible apply GrowV.set | (with_reducible show ¬ Names _ _; simp [*]; done)))); (focus (exact fun _ => rfl)); (focus decide); (focus (intro a; first | rfl | simp)); (focus (simp [maxCells] <;> omega))) | (refine after_intro fun v2 H2 hv2 hnx2 hget2 hnew2 hone2 hcel2 => ?_))
  · (repeat' first | simp [*, initEnv, c25] | (refine wpIf_two (fun _ h => ?_) (fun _ h => ?_) <;> try simp [-Nat.le_zero_eq] at h) | (apply wpE_appendV; (focus (first | assumption | (repeat' first | assumption | with_reducible apply GrowV.setNew | with_reducible apply GrowV.alloc | with_reducible apply GrowV.set | (with_reducible show ¬ Names _ _; simp [*]; done)))); (focus (exact fun _ => rfl)); (focus decide); (focus (intro a; first | rfl | simp)); (focus (simp [maxCells] <;> omega))) | (refine after_intro fun v2 H2 hv2 hnx2 hget2 hnew2 hone2 hcel2 => ?_))
@[simp] theorem d25 (n : Nat) (H : Heap) (l_habit_step : Int) (l_habit_place : Int) (l_habit_sink : Int) (l_sights : Sl Sight) (l_notes : Sl Note) (hs : (fun (l : Life) => shortS l) (⟨⟨l_habit_step, l_habit_place, l_habit_sink⟩, l_sights, l_notes⟩ : Life)) : doCall (calleeOf G (n + 12)) H (.pure (.func 25 [])) [.pure (.agg [.int .i64 l_habit_step, .int .i64 l_habit_place, .int .i64 l_habit_sink, (l_sights).pv Sight.cells 9, (l_notes).pv Note.cells 4])] = some (.val (.pure ((fun (l : Life) => (if checkS l = 0 then .tup [(Sl.of (isort (needsL l))).pv intF 1, .int .i64 0] else .tup [.nils, .int .i64 (checkS l)])) (⟨⟨l_habit_step, l_habit_place, l_habit_sink⟩, l_sights, l_notes⟩ : Life)))) :=
  call_pureC (ps := [_]) (caps := []) sh25 (e25 n (⟨⟨l_habit_step, l_habit_place, l_habit_sink⟩, l_sights, l_notes⟩ : Life) hs)
end Go.Proofs.YtjjkgamklbgnlaaGreat.Vm

namespace Go.Proofs.YtjjkgamklbgnlaaGreat.Vm
open Go
set_option linter.unusedSimpArgs false
set_option linter.unusedVariables false
set_option maxHeartbeats 1000000

theorem least_by (p : List Int → Bool) (m : Nat) : ∀ j, (leastTo p m j = none → ∀ k : Nat, (byTo p m j)[k]! = 0) ∧
    (∀ c, leastTo p m j = some c → chg c ≤ m ∧ (∀ k : Nat, k < chg c → (byTo p m j)[k]! = 0) ∧ 0 < (byTo p m j)[chg c]!)
  | 0 => by
    refine ⟨fun _ k => ?_, fun c h => by simp [leastTo] at h⟩
    by_cases hk : k < m + 1
    · rw [getElem!_pos _ k (by simp [byTo]; exact hk)]; simp [byTo]
    · rw [getElem!_neg _ k (by simp [byTo]; omega)]; rfl
  | j + 1 => by
    obtain ⟨i1, i2⟩ := least_by p m j
    have hl := byTo_length p m j
    have hcl := chg_le (toC m j)
    rw [toC_length] at hcl
    have hle := byTo_le p m j
    have hadd : ∀ k : Nat, k < m + 1 → (addAt (byTo p m j) (chg (toC m j)))[k]! = if chg (toC m j) = k then (byTo p m j)[k]! + 1 else (byTo p m j)[k]! := fun k hk => by
      rw [addAt, getElem!_pos _ k (by rw [List.length_set]; omega), List.getElem_set]
      split
      · rename_i h; rw [h]
      · rw [getElem!_pos _ k (by omega)]
    have hge : ∀ k : Nat, k < m + 1 → 0 ≤ (byTo p m j)[k]! := fun k hk => by
      rw [getElem!_pos _ k (by omega)]; exact (hle _ (List.getElem_mem _)).1
    rw [leastTo, byTo]
    by_cases hp : p (toC m j) = true
    · rw [if_pos hp, if_pos hp]
      cases hb : leastTo p m j with
      | none =>
        refine ⟨fun h => by simp at h, fun c h => ?_⟩
        simp at h; subst h
        refine ⟨hcl, fun k hk => ?_, ?_⟩
        · rw [hadd k (by omega), if_neg (by omega)]; exact i1 hb k
        · rw [hadd _ (by omega), if_pos rfl, i1 hb]; decide
      | some b =>
        obtain ⟨q1, q2, q3⟩ := i2 b hb
        by_cases hlt : chg (toC m j) < chg b
        · simp only [if_pos hlt]
          refine ⟨fun h => by simp at h, fun c h => ?_⟩
          simp at h; subst h
          refine ⟨hcl, fun k hk => ?_, ?_⟩
          · rw [hadd k (by omega), if_neg (by omega)]; exact q2 k (by omega)
          · rw [hadd _ (by omega), if_pos rfl]; have := hge _ (show chg (toC m j) < m + 1 by omega); omega
        · simp only [if_neg hlt]
          refine ⟨fun h => by simp at h, fun c h => ?_⟩
          simp at h; subst h
          refine ⟨q1, fun k hk => ?_, ?_⟩
          · rw [hadd k (by omega), if_neg (by omega)]; exact q2 k hk
          · rw [hadd _ (by omega)]; split <;> omega
    · rw [if_neg hp, if_neg hp]; exact ⟨i1, i2⟩
theorem firstPos_zero : ∀ (L : List Int) (i d : Int), (∀ k : Nat, L[k]! = 0) → firstPos L i d = d
  | [], _, _, _ => rfl
  | a :: r, i, d, h => by
    have h0 := h 0
    simp at h0
    rw [firstPos, if_neg (by omega)]
    exact firstPos_zero r _ _ (fun k => by have := h (k + 1); simpa using this)
theorem firstPos_at : ∀ (L : List Int) (i d : Int) (k : Nat), (∀ q : Nat, q < k → L[q]! = 0) → 0 < L[k]! → firstPos L i d = i + k
  | [], _, _, k, _, h => by simp at h
  | a :: r, i, d, 0, _, h => by
    simp at h
    rw [firstPos, if_pos h]; simp
  | a :: r, i, d, k + 1, h, h' => by
    have h0 := h 0 (by omega)
    simp at h0
    rw [firstPos, if_neg (by omega), firstPos_at r _ _ k (fun q hq => by have := h (q + 1) (by omega); simpa using this) (by simpa using h')]
    push_cast; omega
theorem fewest_least {l : Life} (hr : Right l) : fewestS l = match leastL l with
    | none => (l.sights.xs.length : Int)
    | some c => (chg c : Int) := by
  have h := least_by (fitP l) (l.sights.xs.length - 1) (3 ^ (l.sights.xs.length - 1))
  have he : byL l = byTo (fitP l) (l.sights.xs.length - 1) (3 ^ (l.sights.xs.length - 1)) := (courses_eq hr _).symm
  unfold fewestS
  rw [he]
  cases hc : leastL l with
  | none => exact firstPos_zero _ _ _ (h.1 hc)
  | some c =>
    obtain ⟨_, h2, h3⟩ := h.2 c hc
    rw [firstPos_at _ _ _ _ h2 h3]; simp
end Go.Proofs.YtjjkgamklbgnlaaGreat.Vm

namespace Go.Proofs.YtjjkgamklbgnlaaGreat.Vm
open Go
set_option linter.unusedSimpArgs false
set_option linter.unusedVariables false
set_option maxHeartbeats 1000000

theorem ins_comm (a b : Int) : ∀ l : List Int, ins a (ins b l) = ins b (ins a l)
  | [] => by
    simp only [ins]
    by_cases h : a ≤ b <;> by_cases h' : b ≤ a <;> simp [h, h'] <;> omega
  | c :: r => by
    have ih := ins_comm a b r
    simp only [ins]
    by_cases h1 : a ≤ c <;> by_cases h2 : b ≤ c <;> by_cases h3 : a ≤ b <;> by_cases h4 : b ≤ a <;> simp [ins, h1, h2, h3, h4, ih] <;> omega
theorem isort_snoc (x : Int) : ∀ l : List Int, isort (l ++ [x]) = ins x (isort l)
  | [] => rfl
  | a :: l => by
    rw [List.cons_append, isort, isort_snoc x l, isort, ins_comm]
theorem tellS_congr {l m : Life} (h1 : l.habit = m.habit) (h2 : l.sights.xs = m.sights.xs) (h3 : l.notes.xs = m.notes.xs) (c : List Int) : tellS l c = tellS m c := by
  have e1 : onX l c = onX m c := by funext k s; simp only [onX, h1]
  have e2 : onH l c = onH m c := by funext k s; simp only [onH, h1, h2]
  have e3 : backH l c = backH m c := by funext k s; simp only [backH, h1, h2]
  simp only [tellS, thX, thY, thH, e1, e2, e3, h2, h3]
theorem leastL_congr {l m : Life} (h1 : l.habit = m.habit) (h2 : l.sights.xs = m.sights.xs) (h3 : l.notes.xs = m.notes.xs) : leastL l = leastL m := by
  have : fitP l = fitP m := by funext c; simp only [fitP, tellS_congr h1 h2 h3 c]
  simp only [leastL, this, h2]
theorem cond_eq {l m m' : Life} (hr : Right l) (hm : Right m) (h1 : m'.habit = m.habit) (h2 : m'.sights.xs = m.sights.xs) (h3 : m'.notes.xs = m.notes.xs) (hlen : m.sights.xs.length ≤ l.sights.xs.length) :
    fewerS m' (wholeS l) = (decide (fewestS m < m.sights.xs.length) && decide (fewestS m < fewestS l)) := by
  rw [fewest_least hm, fewest_least hr]
  unfold fewerS wholeS
  rw [leastL_congr h1 h2 h3]
  cases hc : leastL m with
  | none => simp
  | some c =>
    have hl := leastTo_length _ _ _ _ hc
    have hle := chg_le c
    have h1 := hm.one
    have hlt : ((chg c : Nat) : Int) < m.sights.xs.length := by omega
    have hlt2 : ((chg c : Nat) : Int) < l.sights.xs.length := by omega
    cases hb : leastL l with
    | none => simp only [hlt, hlt2, decide_true, Bool.and_true]; simp
    | some b =>
      simp only [hlt, decide_true, Bool.true_and]
      rw [decide_eq_false (by omega), Bool.false_or]
/-- Which places are needed, as the specification asks. -/
def needR (l : Life) (k : Nat) : Bool := !(decide (k < l.sights.xs.length) && decide (l.sights.xs.length = 1)) && (decide (fewestS (lessS l k) < (lessS l k).sights.xs.length) && decide (fewestS (lessS l k) < fewestS l))
theorem needP_R {l : Life} (hr : Right l) {i : Nat} (hi : i < l.sights.xs.length) : needP l i = needR l i := by
  unfold needP needR
  by_cases h : 1 < l.sights.xs.length
  · have hm := right_lessS hr (k := i) (fun _ => h)
    rw [decide_eq_true h, Bool.true_and, cond_eq (m' := lessP l i) (m := lessS l i) hr hm rfl (by show l.sights.xs.eraseIdx i = (Sl.of (l.sights.xs.eraseIdx i)).xs; simp) (by simp [lessP, lessS, noteWo, show ¬ l.sights.xs.length ≤ i by omega]) (by simp [lessS, List.length_eraseIdx]; split <;> omega)]
    rw [decide_eq_false (show ¬ l.sights.xs.length = 1 by omega)]; simp
  · have h1 := hr.one
    rw [decide_eq_false h, decide_eq_true hi, decide_eq_true (show l.sights.xs.length = 1 by omega)]; rfl
theorem needN_R {l : Life} (hr : Right l) {i : Nat} : needN l i = needR l (l.sights.xs.length + i) := by
  unfold needN needR
  have hm := right_lessS hr (k := l.sights.xs.length + i) (fun h => by omega)
  have he : l.sights.xs.eraseIdx (l.sights.xs.length + i) = l.sights.xs := List.eraseIdx_of_length_le (by omega)
  rw [cond_eq (m' := lessN l i) (m := lessS l (l.sights.xs.length + i)) hr hm rfl (by simp [lessN, lessS, he]) (by show l.notes.xs.eraseIdx i = (Sl.of (noteWo l (l.sights.xs.length + i) l.notes.xs)).xs; simp [noteWo, show l.sights.xs.length ≤ l.sights.xs.length + i by omega]) (by simp [lessS, he])]
  rw [decide_eq_false (show ¬ l.sights.xs.length + i < l.sights.xs.length by omega)]; simp
/-- All numbers that the specification puts in, up to a place. -/
def needTo (l : Life) : Nat → List Int
  | 0 => []
  | k + 1 => needTo l k ++ (if needR l k = true then [if h : k < l.sights.xs.length then l.sights.xs[k].id else (l.notes.xs[k - l.sights.xs.length]?.map (·.id)).getD 0] else [])
theorem needTo_sights {l : Life} (hr : Right l) : ∀ i, i ≤ l.sights.xs.length → needTo l i = pickTo (needP l) (·.id) l.sights.xs i
  | 0, _ => rfl
  | i + 1, h => by
    rw [needTo, pickTo, needTo_sights hr i (by omega), needP_R hr (by omega), dif_pos (by omega), List.getElem?_eq_getElem (by omega)]; rfl
theorem needTo_all {l : Life} (hr : Right l) : ∀ i, i ≤ l.notes.xs.length → needTo l (l.sights.xs.length + i) = pickTo (needP l) (·.id) l.sights.xs l.sights.xs.length ++ pickTo (needN l) (·.id) l.notes.xs i
  | 0, _ => by rw [Nat.add_zero, needTo_sights hr _ (Nat.le_refl _)]; simp [pickTo]
  | i + 1, h => by
    rw [← Nat.add_assoc, needTo, pickTo, needTo_all hr i (by omega), needN_R hr, dif_neg (by omega), Nat.add_sub_cancel_left, List.getElem?_eq_getElem (by omega), List.append_assoc]; rfl
theorem needs_eq {l : Life} (hr : Right l) : needTo l (l.sights.xs.length + l.notes.xs.length) = needsL l := needTo_all hr _ (Nat.le_refl _)
end Go.Proofs.YtjjkgamklbgnlaaGreat.Vm

namespace Go.Proofs.YtjjkgamklbgnlaaGreat.Vm
open Go
set_option linter.unusedSimpArgs false
set_option linter.unusedVariables false
set_option maxHeartbeats 1000000

theorem of_ins (x : Int) (L : List Int) : Sl.of (ins x L) = Sl.mk false (ins x L) := by
  have := (ins_perm x L).length_eq
  cases h : ins x L with
  | nil => rw [h] at this; simp at this
  | cons a l => rfl
theorem needTo_length (l : Life) : ∀ k, (needTo l k).length ≤ k
  | 0 => by simp [needTo]
  | k + 1 => by
    have := needTo_length l k
    rw [needTo, List.length_append]
    split <;> simp <;> omega
def idAt (l : Life) (k : Nat) : Int := if h : k < l.sights.xs.length then l.sights.xs[k].id else (l.notes.xs[k - l.sights.xs.length]?.map (·.id)).getD 0
theorem need_yes {l : Life} {k : Nat} (h : needR l k = true) : isort (needTo l (k + 1)) = ins (idAt l k) (isort (needTo l k)) := by
  rw [needTo, if_pos h, isort_snoc]; rfl
theorem need_no {l : Life} {k : Nat} (h : needR l k = false) : isort (needTo l (k + 1)) = isort (needTo l k) := by
  rw [needTo, if_neg (by simp [h])]; simp
theorem sh26 : G.shared 26 = false := by decide
theorem e26 (n : Nat) (l : Life) (hs : shortS l) : callP G (n + 10) 26 [.agg l.cells] = some (.agg (if checkS l = 0 then [(Sl.of (isort (needTo l (l.sights.xs.length + l.notes.xs.length)))).pv intF 1, .int .i64 0] else [.nils, .int .i64 (checkS l)])) := by
  refine callP_of (ext_none _) rfl g26 rfl ?_
  have hcc : ∀ H, doCall (calleeOf G (n + 9)) H (.pure (.func 16 [])) [.pure (.agg l.cells)] = some (.val (.pure (.int .i64 (checkS l)))) := fun H => d16 (n + 4) H l.habit.step l.habit.place l.habit.sink l.sights l.notes hs
  simp only [Life.cells] at hcc
  by_cases hck : checkS l = 0
  · have hr := (right_iff l).1 hck
    have h1 := hr.one
    have h9 := hr.nine
    have h20 := hr.notes
    have hca : ∀ H, doCall (calleeOf G (n + 9)) H (.pure (.func 66 [])) [.pure (.agg l.cells)] = some (.val (.pure (.int .i64 (fewestS l)))) := fun H => d66 n H l.habit.step l.habit.place l.habit.sink l.sights l.notes hr
    simp only [Life.cells] at hca
    obtain ⟨P, hPe⟩ : ∃ P, P = (Sl.of (isort (needTo l (l.sights.xs.length + l.notes.xs.length)))).pv intF 1 := ⟨_, rfl⟩
    have hP : Hide _ := ⟨hPe⟩
    rw [if_pos hck, ← hPe]
    rw [hck] at hcc
    clear hPe
    have hck' : Hide _ := ⟨hck⟩
    clear hck
    have hw1 : IntKind.i64.wrap ((l.sights.xs.length : Int) + l.notes.xs.length) = (l.sights.xs.length : Int) + l.notes.xs.length := wrap64 (by omega) (by omega)
    (repeat' first | simp [*, initEnv, c26] | (refine wpIf_two (fun _ h => ?_) (fun _ h => ?_) <;> try simp [-Nat.le_zero_eq] at h) | (apply wpE_appendV; (focus (first | assumption | (repeat' first | assumption | with_reducible apply GrowV.setNew | with_reducible apply GrowV.alloc | with_reducible apply GrowV.set | (with_reducible show ¬ Names _ _; simp [*]; done)))); (focus (exact fun _ => rfl)); (focus decide); (focus (intro a; first | rfl | simp)); (focus (simp [maxCells] <;> omega))) | (refine after_intro fun v2 H2 hv2 hnx2 hget2 hnew2 hone2 hcel2 => ?_))
    refine wp_loopF [(5, 9), (18, 78)] (fun (i : Nat) env H => env 6 = .pure (.int .i64 i) ∧ i ≤ l.sights.xs.length + l.notes.xs.length ∧ env 5 = .pure ((Sl.of (isort (needTo l i))).pv intF 1) ∧ H.get 0 = .cells true [.pure .nils, .pure (.int .i64 0)]) (fun i => l.sights.xs.length + l.notes.xs.length - i) 0 ?_ ?_ ?_ ?_
    · decide
    · exact ⟨by simp, by omega, by simp [needTo, isort], by simp⟩
    · simp only [loopFuel]; omega
    rintro i env H ⟨h6, hi, h5, hg⟩
    have hfit : i < 9223372036854775807 := by omega
    have hx0 := nx_of_get hg
    obtain ⟨M, hM⟩ : ∃ M, M = lessS l i := ⟨_, rfl⟩
    have hcless : ∀ H, doCall (calleeOf G (n + 9)) H (.pure (.func 67 [])) [.pure (.agg l.cells), .pure (.int .i64 i)] = some (.val (.pure (.agg M.cells))) := fun H => by
      rw [hM]; exact d67 (n + 8) H l.habit.step l.habit.place l.habit.sink l.sights l.notes i (show l.sights.xs.length < 1000 by omega) (show l.notes.xs.length < 1000 by omega) (by omega)
    have hcf : (i < l.sights.xs.length → 1 < l.sights.xs.length) → ∀ H, doCall (calleeOf G (n + 9)) H (.pure (.func 66 [])) [.pure (.agg M.cells)] = some (.val (.pure (.int .i64 (fewestS M)))) := fun hh H => by
      rw [hM]
      exact d66 n H (lessS l i).habit.step (lessS l i).habit.place (lessS l i).habit.sink (lessS l i).sights (lessS l i).notes (right_lessS hr hh)
    have hlS : (Sl.of (isort (needTo l i))).xs.length < 1000 := by
      have := needTo_length l i
      have := isort_length (needTo l i)
      simp; omega
    have hcp : ∀ H, doCall (calleeOf G (n + 9)) H (.pure (.func 68 [])) [.pure ((Sl.of (isort (needTo l i))).pv intF 1), .pure (.int .i64 (idAt l i))] = some (.val (.pure ((Sl.of (ins (idAt l i) (isort (needTo l i)))).pv intF 1))) := fun H => by
      have := d68 (n + 8) H (Sl.of (isort (needTo l i))) (idAt l i) hlS
      rw [of_ins]
      simpa using this
    simp only [Life.cells] at hcless hcf
    have hR : Hide (needR l i = (!(decide (i < l.sights.xs.length) && decide (l.sights.xs.length = 1)) && (decide (fewestS M < M.sights.xs.length) && decide (fewestS M < fewestS l)))) := ⟨by rw [hM]; rfl⟩
    have hid : ∀ h : i < l.sights.xs.length, l.sights.xs[i].id = idAt l i := fun h => by rw [idAt, dif_pos h]
    have hid2 : ∀ (h : l.sights.xs.length ≤ i) (h' : i - l.sights.xs.length < l.notes.xs.length), l.notes.xs[i - l.sights.xs.length].id = idAt l i := fun h h' => by rw [idAt, dif_neg (by omega), List.getElem?_eq_getElem h']; rfl
    clear hM hlS
    generalize hS : Sl.of (isort (needTo l i)) = S at *
    by_cases hlt : i < l.sights.xs.length
    · by_cases h2 : 1 < l.sights.xs.length
      · have hcf' := hcf (fun _ => h2)
        have hide := hid hlt
        clear hcf hid hid2
        have hwi : ¬ ((l.sights.xs.length : Int) = 1) := by omega
        (repeat' first | simp [*, initEnv] | (refine wpIf_two (fun _ h => ?_) (fun _ h => ?_) <;> try simp [-Nat.le_zero_eq] at h) | (apply wpE_appendV; (focus (first | assumption | (repeat' first | assumption | with_reducible apply GrowV.setNew | with_reducible apply GrowV.alloc | with_reducible apply GrowV.set | (with_reducible show ¬ Names _ _; simp [*]; done)))); (focus (exact fun _ => rfl)); (focus decide); (focus (intro a; first | rfl | simp)); (focus (simp [maxCells] <;> omega))) | (refine after_intro fun v2 H2 hv2 hnx2 hget2 hnew2 hone2 hcel2 => ?_))
        · have hn : needR l i = true := by rw [hR.h, decide_eq_true hlt, decide_eq_false (show ¬ l.sights.xs.length = 1 by omega), decide_eq_true (show fewestS M < M.sights.xs.length by assumption), decide_eq_true (show fewestS M < fewestS l by assumption)]; rfl
          exact ⟨i + 1, by omega, by simp, by omega, by rw [need_yes hn], by rw [get_set_ne (by omega), get_alloc_lt hx0]; exact hg⟩
        · have hn : needR l i = false := by rw [hR.h, decide_eq_true hlt, decide_eq_false (show ¬ l.sights.xs.length = 1 by omega), decide_eq_true (show fewestS M < M.sights.xs.length by assumption), decide_eq_false (show ¬ fewestS M < fewestS l by omega)]; rfl
          exact ⟨i + 1, by omega, by simp, by omega, by rw [need_no hn, hS], by rw [get_set_ne (by omega), get_alloc_lt hx0]; exact hg⟩
        · have hn : needR l i = false := by rw [hR.h, decide_eq_true hlt, decide_eq_false (show ¬ l.sights.xs.length = 1 by omega), decide_eq_false (show ¬ fewestS M < M.sights.xs.length by omega)]; simp
          exact ⟨i + 1, by omega, by simp, by omega, by rw [need_no hn, hS], by rw [get_set_ne (by omega), get_alloc_lt hx0]; exact hg⟩
        · omega
      · have hle : l.sights.xs.length = 1 := by omega
        have hn : needR l i = false := by rw [hR.h, decide_eq_true hlt, decide_eq_true hle]; rfl
        have hle2 : (l.sights.xs.length : Int) = 1 := by omega
        have hside := hid hlt
        have hle' : Hide _ := ⟨hle⟩
        clear hcf hid hid2 hle h9 hw1
        have hwo : IntKind.i64.wrap (1 + (l.notes.xs.length : Int)) = 1 + l.notes.xs.length := wrap64 (by omega) (by omega)
        (repeat' first | simp [*, initEnv] | (refine wpIf_two (fun _ h => ?_) (fun _ h => ?_) <;> try simp [-Nat.le_zero_eq] at h) | (apply wpE_appendV; (focus (first | assumption | (repeat' first | assumption | with_reducible apply GrowV.setNew | with_reducible apply GrowV.alloc | with_reducible apply GrowV.set | (with_reducible show ¬ Names _ _; simp [*]; done)))); (focus (exact fun _ => rfl)); (focus decide); (focus (intro a; first | rfl | simp)); (focus (simp [maxCells] <;> omega))) | (refine after_intro fun v2 H2 hv2 hnx2 hget2 hnew2 hone2 hcel2 => ?_))
        · have := hle'.h
          exact ⟨i + 1, by omega, by simp, by omega, by rw [need_no hn, hS]⟩
        all_goals (exfalso; have := hle'.h; omega)
    · have hcf' := hcf (fun h => absurd h hlt)
      have hge : l.sights.xs.length ≤ i := by omega
      have hwi2 : IntKind.i64.wrap ((i : Int) - l.sights.xs.length) = ((i - l.sights.xs.length : Nat) : Int) := by rw [wrap64 (by omega) (by omega)]; omega
      have hin : i < l.sights.xs.length + l.notes.xs.length → i - l.sights.xs.length < l.notes.xs.length := fun h => by omega
      have hid3 : ∀ h' : i - l.sights.xs.length < l.notes.xs.length, l.notes.xs[i - l.sights.xs.length].id = idAt l i := fun h' => hid2 hge h'
      clear hcf hid hid2
      by_cases hend : i < l.sights.xs.length + l.notes.xs.length
      · have hin2 := hin hend
        have hid4 := hid3 hin2
        clear hin hid3
        (repeat' first | simp [*, initEnv] | (refine wpIf_two (fun _ h => ?_) (fun _ h => ?_) <;> try simp [-Nat.le_zero_eq] at h) | (apply wpE_appendV; (focus (first | assumption | (repeat' first | assumption | with_reducible apply GrowV.setNew | with_reducible apply GrowV.alloc | with_reducible apply GrowV.set | (with_reducible show ¬ Names _ _; simp [*]; done)))); (focus (exact fun _ => rfl)); (focus decide); (focus (intro a; first | rfl | simp)); (focus (simp [maxCells] <;> omega))) | (refine after_intro fun v2 H2 hv2 hnx2 hget2 hnew2 hone2 hcel2 => ?_))
        · have hn : needR l i = true := by rw [hR.h, decide_eq_false hlt, decide_eq_true (show fewestS M < M.sights.xs.length by assumption), decide_eq_true (show fewestS M < fewestS l by assumption)]; rfl
          exact ⟨i + 1, by omega, by simp, by omega, by rw [need_yes hn], by rw [get_set_ne (by omega), get_alloc_lt hx0]; exact hg⟩
        · have hn : needR l i = false := by rw [hR.h, decide_eq_false hlt, decide_eq_true (show fewestS M < M.sights.xs.length by assumption), decide_eq_false (show ¬ fewestS M < fewestS l by omega)]; rfl
          exact ⟨i + 1, by omega, by simp, by omega, by rw [need_no hn, hS], by rw [get_set_ne (by omega), get_alloc_lt hx0]; exact hg⟩
        · have hn : needR l i = false := by rw [hR.h, decide_eq_false hlt, decide_eq_false (show ¬ fewestS M < M.sights.xs.length by omega)]; simp
          exact ⟨i + 1, by omega, by simp, by omega, by rw [need_no hn, hS], by rw [get_set_ne (by omega), get_alloc_lt hx0]; exact hg⟩
        all_goals omega
      · have hie : i = l.sights.xs.length + l.notes.xs.length := by omega
        have hPS : P = S.pv intF 1 := by rw [hP.h, ← hS, ← hie]
        clear hP hin hid3
        (repeat' first | simp [*, initEnv] | (refine wpIf_two (fun _ h => ?_) (fun _ h => ?_) <;> try simp [-Nat.le_zero_eq] at h) | (apply wpE_appendV; (focus (first | assumption | (repeat' first | assumption | with_reducible apply GrowV.setNew | with_reducible apply GrowV.alloc | with_reducible apply GrowV.set | (with_reducible show ¬ Names _ _; simp [*]; done)))); (focus (exact fun _ => rfl)); (focus decide); (focus (intro a; first | rfl | simp)); (focus (simp [maxCells] <;> omega))) | (refine after_intro fun v2 H2 hv2 hnx2 hget2 hnew2 hone2 hcel2 => ?_))
  · (repeat' first | simp [*, initEnv, c26] | (refine wpIf_two (fun _ h => ?_) (fun _ h => ?_) <;> try simp [-Nat.le_zero_eq] at h) | (apply wpE_appendV; (focus (first | assumption | (repeat' first | assumption | with_reducible apply GrowV.setNew | with_reducible apply GrowV.alloc | with_reducible apply GrowV.set | (with_reducible show ¬ Names _ _; simp [*]; done)))); (focus (exact fun _ => rfl)); (focus decide); (focus (intro a; first | rfl | simp)); (focus (simp [maxCells] <;> omega))) | (refine after_intro fun v2 H2 hv2 hnx2 hget2 hnew2 hone2 hcel2 => ?_))
@[simp] theorem d26 (n : Nat) (H : Heap) (l_habit_step : Int) (l_habit_place : Int) (l_habit_sink : Int) (l_sights : Sl Sight) (l_notes : Sl Note) (hs : (fun (l : Life) => shortS l) (⟨⟨l_habit_step, l_habit_place, l_habit_sink⟩, l_sights, l_notes⟩ : Life)) : doCall (calleeOf G (n + 10)) H (.pure (.func 26 [])) [.pure (.agg [.int .i64 l_habit_step, .int .i64 l_habit_place, .int .i64 l_habit_sink, (l_sights).pv Sight.cells 9, (l_notes).pv Note.cells 4])] = some (.val (.pure ((fun (l : Life) => .agg (if checkS l = 0 then [(Sl.of (isort (needTo l (l.sights.xs.length + l.notes.xs.length)))).pv intF 1, .int .i64 0] else [.nils, .int .i64 (checkS l)])) (⟨⟨l_habit_step, l_habit_place, l_habit_sink⟩, l_sights, l_notes⟩ : Life)))) :=
  call_pureC (ps := [_]) (caps := []) sh26 (e26 n (⟨⟨l_habit_step, l_habit_place, l_habit_sink⟩, l_sights, l_notes⟩ : Life) hs)
end Go.Proofs.YtjjkgamklbgnlaaGreat.Vm
