/- What Needs asks: fewer, Fewest, put. A life with one sight or note less: the specification's Less. slices.Delete of one element of a slice of one's own. slices.Sort of no slice at all. A right life without one sight, or without one note, is right. Fewer notes, fewer sights and more changes: what fits goes on to fit. Plain Lean. The least course as the program hands it out, and the number of its changes. -/
import Derived.Test.YtjjkgamklbgnlaaGreatPk16
import Derived.Test.YtjjkgamklbgnlaaGreatPk17
import Derived.KernelRfl
namespace Go.Proofs.YtjjkgamklbgnlaaGreat.Vm
open Go
set_option linter.unusedSimpArgs false
set_option linter.unusedVariables false
set_option maxHeartbeats 4000000

def leastL (l : Life) : Option (List Int) := leastTo (fitP l) (l.sights.xs.length - 1) (3 ^ (l.sights.xs.length - 1))
def fewerS (l : Life) (t : Int) : Bool := match leastL l with
  | none => false
  | some c => decide (t < 0) || decide ((chg c : Int) < t)
theorem sh63 : G.shared 63 = false := by decide
theorem e63 (n : Nat) (l : Life) (t : Int) (hr : Right l) : callP G (n + 11) 63 [.agg l.cells, .int .i64 t] = some (.bool (fewerS l t)) := by
  refine callP_of (ext_none _) rfl g63 rfl ?_
  have h9 := hr.nine
  have hc : ∀ H, doCall (calleeOf G (n + 10)) H (.pure (.func 60 [])) [.pure (.agg l.cells)] = some (.val (.pure (leastPV (leastL l)))) := fun H => d60 n H l.habit.step l.habit.place l.habit.sink l.sights l.notes hr
  simp only [Life.cells] at hc
  cases ho : leastL l with
  | none =>
    rw [ho] at hc
    (repeat' first | simp [*, initEnv, c63, leastPV, fewerS] | (refine wpIf_two (fun _ h => ?_) (fun _ h => ?_) <;> try simp [-Nat.le_zero_eq] at h) | (apply wpE_appendV; (focus (first | assumption | (repeat' first | assumption | with_reducible apply GrowV.setNew | with_reducible apply GrowV.alloc | with_reducible apply GrowV.set | (with_reducible show ¬ Names _ _; simp [*]; done)))); (focus (exact fun _ => rfl)); (focus decide); (focus (intro a; first | rfl | simp)); (focus (simp [maxCells] <;> omega))) | (refine after_intro fun v2 H2 hv2 hnx2 hget2 hnew2 hone2 hcel2 => ?_))
  | some c =>
    rw [ho] at hc
    have hl := leastTo_length _ _ _ _ ho
    have hcl : (Sl.mk false c).xs.length < 1000 := by simp [Sl.xs]; omega
    have hch : ∀ H, doCall (calleeOf G (n + 10)) H (.pure (.func 58 [])) [.pure ((Sl.mk false c).pv intF 1)] = some (.val (.pure (.int .i64 (chg c)))) := fun H => d58 (n + 9) H _ hcl
    (repeat' first | simp [*, initEnv, c63, leastPV, fewerS] | (refine wpIf_two (fun _ h => ?_) (fun _ h => ?_) <;> try simp [-Nat.le_zero_eq] at h) | (apply wpE_appendV; (focus (first | assumption | (repeat' first | assumption | with_reducible apply GrowV.setNew | with_reducible apply GrowV.alloc | with_reducible apply GrowV.set | (with_reducible show ¬ Names _ _; simp [*]; done)))); (focus (exact fun _ => rfl)); (focus decide); (focus (intro a; first | rfl | simp)); (focus (simp [maxCells] <;> omega))) | (refine after_intro fun v2 H2 hv2 hnx2 hget2 hnew2 hone2 hcel2 => ?_))
@[simp] theorem d63 (n : Nat) (H : Heap) (l_habit_step : Int) (l_habit_place : Int) (l_habit_sink : Int) (l_sights : Sl Sight) (l_notes : Sl Note) (t : Int) (hr : (fun (l : Life) => Right l) (⟨⟨l_habit_step, l_habit_place, l_habit_sink⟩, l_sights, l_notes⟩ : Life)) : doCall (calleeOf G (n + 11)) H (.pure (.func 63 [])) [.pure (.agg [.int .i64 l_habit_step, .int .i64 l_habit_place, .int .i64 l_habit_sink, (l_sights).pv Sight.cells 9, (l_notes).pv Note.cells 4]), .pure (.int .i64 t)] = some (.val (.pure ((fun (l : Life) => .bool (fewerS l t)) (⟨⟨l_habit_step, l_habit_place, l_habit_sink⟩, l_sights, l_notes⟩ : Life)))) :=
  call_pureC (ps := [_, _]) (caps := []) sh63 (e63 n (⟨⟨l_habit_step, l_habit_place, l_habit_sink⟩, l_sights, l_notes⟩ : Life) t hr)
def firstPos : List Int → Int → Int → Int
  | [], _, d => d
  | a :: r, i, d => if 0 < a then i else firstPos r (i + 1) d
theorem firstPos_drop {L : List Int} {i : Nat} {d : Int} (h : i < L.length) : firstPos (L.drop i) i d = if 0 < L[i] then (i : Int) else firstPos (L.drop (i + 1)) ((i + 1 : Nat) : Int) d := by
  rw [List.drop_eq_getElem_cons h, firstPos]; simp
def byL (l : Life) : List Int := byTo (canS l) (l.sights.xs.length - 1) (3 ^ (l.sights.xs.length - 1))
def fewestS (l : Life) : Int := firstPos (byL l) 0 l.sights.xs.length
theorem shortR {l : Life} (hr : Right l) : shortS l := fun _ _ s hs => by have := hr.sp hs; omega
theorem sh66 : G.shared 66 = false := by decide
theorem e66 (n : Nat) (l : Life) (hr : Right l) : callP G (n + 9) 66 [.agg l.cells] = some (.int .i64 (fewestS l)) := by
  refine callP_of (ext_none _) rfl g66 rfl ?_
  have h9 := hr.nine
  have h1 := hr.one
  have hc : ∀ H, doCall (calleeOf G (n + 8)) H (.pure (.func 23 [])) [.pure (.agg l.cells)] = some (.val (.pure (.agg [(Sl.mk false (byL l)).pv intF 1, .int .i64 0]))) := fun H => by
    have := d23 n H l.habit.step l.habit.place l.habit.sink l.sights l.notes (shortR hr)
    simp only [if_pos ((right_iff l).2 hr)] at this
    exact this
  have hl : (byL l).length = l.sights.xs.length := by rw [byL, byTo_length]; omega
  have hP : Hide (fewestS l = firstPos (byL l) 0 l.sights.xs.length) := ⟨rfl⟩
  generalize fewestS l = P at *
  generalize byL l = L at *
  simp only [Life.cells] at hc
  have hS : Hide _ := ⟨hl⟩
  have hL9 : L.length ≤ 9 := by omega
  have hxs : (Sl.mk false L).xs = L := rfl
  clear hl
  (repeat' first | simp [*, initEnv, c66] | (refine wpIf_two (fun _ h => ?_) (fun _ h => ?_) <;> try simp [-Nat.le_zero_eq] at h) | (apply wpE_appendV; (focus (first | assumption | (repeat' first | assumption | with_reducible apply GrowV.setNew | with_reducible apply GrowV.alloc | with_reducible apply GrowV.set | (with_reducible show ¬ Names _ _; simp [*]; done)))); (focus (exact fun _ => rfl)); (focus decide); (focus (intro a; first | rfl | simp)); (focus (simp [maxCells] <;> omega))) | (refine after_intro fun v2 H2 hv2 hnx2 hget2 hnew2 hone2 hcel2 => ?_))
  refine wp_loopF [(2, 2), (4, 4), (7, 20)] (fun (i : Nat) env H => env 4 = .pure (.int .i64 i) ∧ i ≤ L.length ∧ H.get 0 = .cells true [.pure ((Sl.mk false L).pv intF 1), .pure (.int .i64 0)] ∧ Hide (P = firstPos (L.drop i) i l.sights.xs.length)) (fun i => L.length - i) 0 ?_ ?_ ?_ ?_
  · decide
  · simp; exact hP
  · simp only [loopFuel]; omega
  rintro i env H ⟨h4, hi, hg, hn⟩
  have hfit : i < 9223372036854775807 := by omega
  (repeat' first | simp [*, initEnv] | (refine wpIf_two (fun _ h => ?_) (fun _ h => ?_) <;> try simp [-Nat.le_zero_eq] at h) | (apply wpE_appendV; (focus (first | assumption | (repeat' first | assumption | with_reducible apply GrowV.setNew | with_reducible apply GrowV.alloc | with_reducible apply GrowV.set | (with_reducible show ¬ Names _ _; simp [*]; done)))); (focus (exact fun _ => rfl)); (focus decide); (focus (intro a; first | rfl | simp)); (focus (simp [maxCells] <;> omega))) | (refine after_intro fun v2 H2 hv2 hnx2 hget2 hnew2 hone2 hcel2 => ?_))
  · have hlt : i < L.length := by assumption
    rw [hn.h, firstPos_drop hlt, if_pos (by assumption)]
  · have hlt : i < L.length := by assumption
    exact ⟨i + 1, by omega, by simp, by omega, ⟨by rw [hn.h, firstPos_drop hlt, if_neg (by omega)]⟩⟩
  · rw [hn.h, List.drop_eq_nil_of_le (by omega), firstPos]
@[simp] theorem d66 (n : Nat) (H : Heap) (l_habit_step : Int) (l_habit_place : Int) (l_habit_sink : Int) (l_sights : Sl Sight) (l_notes : Sl Note) (hr : (fun (l : Life) => Right l) (⟨⟨l_habit_step, l_habit_place, l_habit_sink⟩, l_sights, l_notes⟩ : Life)) : doCall (calleeOf G (n + 9)) H (.pure (.func 66 [])) [.pure (.agg [.int .i64 l_habit_step, .int .i64 l_habit_place, .int .i64 l_habit_sink, (l_sights).pv Sight.cells 9, (l_notes).pv Note.cells 4])] = some (.val (.pure ((fun (l : Life) => .int .i64 (fewestS l)) (⟨⟨l_habit_step, l_habit_place, l_habit_sink⟩, l_sights, l_notes⟩ : Life)))) :=
  call_pureC (ps := [_]) (caps := []) sh66 (e66 n (⟨⟨l_habit_step, l_habit_place, l_habit_sink⟩, l_sights, l_notes⟩ : Life) hr)
theorem ins_step {x : Int} {L : List Int} {i : Nat} (hi : i < L.length) (hx : L[i] < x) (h : ins x L = L.take i ++ ins x (L.drop i)) : ins x L = L.take (i + 1) ++ ins x (L.drop (i + 1)) := by
  rw [h, List.drop_eq_getElem_cons hi, ins, if_neg (by omega), ← take_succ' hi, List.append_assoc]
  rfl
theorem ins_end {x : Int} {L : List Int} {i : Nat} (hi : i ≤ L.length) (hx : ∀ h : i < L.length, x ≤ L[i]) (h : ins x L = L.take i ++ ins x (L.drop i)) : ins x L = (L.take i ++ [x]) ++ L.drop i := by
  rw [h]
  by_cases hl : i < L.length
  · rw [List.drop_eq_getElem_cons hl, ins, if_pos (hx hl)]; simp
  · rw [List.drop_eq_nil_of_le (by omega)]; simp [ins]
theorem sh68 : G.shared 68 = false := by decide
theorem e68 (n : Nat) (s : Sl Int) (x : Int) (hl : s.xs.length < 1000) : callP G (n + 1) 68 [s.pv intF 1, .int .i64 x] = some ((Sl.mk false (ins x s.xs)).pv intF 1) := by
  refine callP_of (ext_none _) rfl g68 rfl ?_
  have hP : Hide (ins x s.xs = ins x s.xs) := ⟨rfl⟩
  obtain ⟨P, hPe⟩ : ∃ P, P = (Sl.mk false (ins x s.xs)).pv intF 1 := ⟨_, rfl⟩
  rw [← hPe]
  have hPe' : Hide _ := ⟨hPe⟩
  clear hPe hP
  (repeat' first | simp [*, initEnv, c68] | (refine wpIf_two (fun _ h => ?_) (fun _ h => ?_) <;> try simp [-Nat.le_zero_eq] at h) | (apply wpE_appendV; (focus (first | assumption | (repeat' first | assumption | with_reducible apply GrowV.setNew | with_reducible apply GrowV.alloc | with_reducible apply GrowV.set | (with_reducible show ¬ Names _ _; simp [*]; done)))); (focus (exact fun _ => rfl)); (focus decide); (focus (intro a; first | rfl | simp)); (focus (simp [maxCells] <;> omega))) | (refine after_intro fun v2 H2 hv2 hnx2 hget2 hnew2 hone2 hcel2 => ?_))
  refine wp_loopF [(5, 19)] (fun (i : Nat) env H => env 5 = .pure (.int .i64 i) ∧ i ≤ s.xs.length ∧ Hide (ins x s.xs = s.xs.take i ++ ins x (s.xs.drop i))) (fun i => s.xs.length - i) 0 ?_ ?_ ?_ ?_
  · decide
  · refine ⟨by simp, by omega, ⟨by simp⟩⟩
  · simp only [loopFuel]; omega
  rintro i env H ⟨h5, hi, hn⟩
  have hfit : i < 9223372036854775807 := by omega
  (repeat' first | simp [*, initEnv] | (refine wpIf_two (fun _ h => ?_) (fun _ h => ?_) <;> try simp [-Nat.le_zero_eq] at h) | (apply wpE_appendV; (focus (first | assumption | (repeat' first | assumption | with_reducible apply GrowV.setNew | with_reducible apply GrowV.alloc | with_reducible apply GrowV.set | (with_reducible show ¬ Names _ _; simp [*]; done)))); (focus (exact fun _ => rfl)); (focus decide); (focus (intro a; first | rfl | simp)); (focus (simp [maxCells] <;> omega))) | (refine after_intro fun v2 H2 hv2 hnx2 hget2 hnew2 hone2 hcel2 => ?_))
  · have hlt : i < s.xs.length := by assumption
    exact ⟨i + 1, by omega, by simp, by omega, ⟨ins_step hlt (by assumption) hn.h⟩⟩
  all_goals
    have hfin : Hide (P = (Sl.mk false ((s.xs.take i ++ [x]) ++ s.xs.drop i)).pv intF 1) := ⟨by
      rw [hPe'.h, ins_end hi (by first | (intro _; assumption) | (intro h; omega)) hn.h]⟩
    clear hPe' hn
    have hf1 : ∀ a, (intF a).length = 1 := fun _ => rfl
    have hone : ∀ a, (intF a).all PV.one = true := fun _ => rfl
    have hs1 : ∀ H', sliceCells H' 1 (.pure ((s.sub 0 i).pv intF 1)) = some (rowOf intF (s.xs.take i), (s.xs.take i).length) := fun H' => by
      have := sliceCells_sl' (H := H') hf1 (s.sub 0 i)
      simpa using this
    have hs2 : ∀ H', sliceCells H' 1 (.pure ((s.sub i s.xs.length).pv intF 1)) = some (rowOf intF (s.xs.drop i), (s.xs.drop i).length) := fun H' => by
      have := sliceCells_sl' (H := H') hf1 (s.sub i s.xs.length)
      simpa using this
    have hs1' : Hide _ := ⟨hs1⟩
    have hs2' : Hide _ := ⟨hs2⟩
    clear hs1 hs2
    refine wpE_appendE (l := s.xs.take i) (hs1'.h _) (get_alloc_nx _) hone (by simp only [List.length_take, maxCells]; omega) ?_
    rintro v1 H1 o1 - - -
    (repeat' first | simp [*, initEnv] | (refine wpIf_two (fun _ h => ?_) (fun _ h => ?_) <;> try simp [-Nat.le_zero_eq] at h) | (apply wpE_appendV; (focus (first | assumption | (repeat' first | assumption | with_reducible apply GrowV.setNew | with_reducible apply GrowV.alloc | with_reducible apply GrowV.set | (with_reducible show ¬ Names _ _; simp [*]; done)))); (focus (exact fun _ => rfl)); (focus decide); (focus (intro a; first | rfl | simp)); (focus (simp [maxCells] <;> omega))) | (refine after_intro fun v2 H2 hv2 hnx2 hget2 hnew2 hone2 hcel2 => ?_))
    refine wpE_append (f := intF) (a := x) (l := s.xs.take i) (o1.alloc _) hf1 (by decide) (hone x) (by simp) (by simp only [List.length_take, maxCells]; omega) ?_
    rintro v2 H2 o2 - - -
    (repeat' first | simp [*, initEnv] | (refine wpIf_two (fun _ h => ?_) (fun _ h => ?_) <;> try simp [-Nat.le_zero_eq] at h) | (apply wpE_appendV; (focus (first | assumption | (repeat' first | assumption | with_reducible apply GrowV.setNew | with_reducible apply GrowV.alloc | with_reducible apply GrowV.set | (with_reducible show ¬ Names _ _; simp [*]; done)))); (focus (exact fun _ => rfl)); (focus decide); (focus (intro a; first | rfl | simp)); (focus (simp [maxCells] <;> omega))) | (refine after_intro fun v2 H2 hv2 hnx2 hget2 hnew2 hone2 hcel2 => ?_))
    refine wpE_appendL (f := intF) (l := s.xs.take i ++ [x]) (m := s.xs.drop i) o2 hf1 (by decide) hone (hs2'.h _) (by simp only [List.length_take, List.length_append, List.length_drop, List.length_cons, List.length_nil, maxCells]; omega) ?_
    rintro v3 H3 o3 - - -
    (repeat' first | simp [*, initEnv] | (refine wpIf_two (fun _ h => ?_) (fun _ h => ?_) <;> try simp [-Nat.le_zero_eq] at h) | (apply wpE_appendV; (focus (first | assumption | (repeat' first | assumption | with_reducible apply GrowV.setNew | with_reducible apply GrowV.alloc | with_reducible apply GrowV.set | (with_reducible show ¬ Names _ _; simp [*]; done)))); (focus (exact fun _ => rfl)); (focus decide); (focus (intro a; first | rfl | simp)); (focus (simp [maxCells] <;> omega))) | (refine after_intro fun v2 H2 hv2 hnx2 hget2 hnew2 hone2 hcel2 => ?_))
    rw [hfin.h]
    exact o3.mkRes (n := 10) hf1 (by simp)
@[simp] theorem d68 (n : Nat) (H : Heap) (s : Sl Int) (x : Int) (hl : s.xs.length < 1000) : doCall (calleeOf G (n + 1)) H (.pure (.func 68 [])) [.pure (s.pv intF 1), .pure (.int .i64 x)] = some (.val (.pure ((Sl.mk false (ins x s.xs)).pv intF 1))) :=
  call_pureC (ps := [_, _]) (caps := []) sh68 (e68 n s x hl)
end Go.Proofs.YtjjkgamklbgnlaaGreat.Vm

namespace Go.Proofs.YtjjkgamklbgnlaaGreat.Vm
open Go
set_option linter.unusedSimpArgs false
set_option linter.unusedVariables false
set_option maxHeartbeats 4000000

/-- A life without what stands at a place. -/
def noteWo (l : Life) (k : Nat) (y : List Note) : List Note := if l.sights.xs.length ≤ k then y.eraseIdx (k - l.sights.xs.length) else y
def lessS (l : Life) (k : Nat) : Life := ⟨l.habit, Sl.of (l.sights.xs.eraseIdx k), Sl.of (noteWo l k l.notes.xs)⟩
theorem era_skip {α : Type} {l : List α} {i k : Nat} (hi : i < l.length) (h : i = k) : (l.take (i + 1)).eraseIdx k = (l.take i).eraseIdx k := by
  subst h
  rw [← take_succ' hi, List.eraseIdx_append_of_length_le (by rw [List.length_take]; omega), List.eraseIdx_of_length_le (l := l.take i) (by rw [List.length_take]; omega), List.length_take, Nat.min_eq_left (by omega), Nat.sub_self]
  simp
theorem era_go {α : Type} {l : List α} {i k : Nat} (hi : i < l.length) (h : i ≠ k) : (l.take (i + 1)).eraseIdx k = (l.take i).eraseIdx k ++ [l[i]] := by
  rw [← take_succ' hi]
  by_cases hk : k < i
  · rw [List.eraseIdx_append_of_lt_length (by rw [List.length_take]; omega)]
  · rw [List.eraseIdx_append_of_length_le (by rw [List.length_take]; omega), List.eraseIdx_of_length_le (l := l.take i) (by rw [List.length_take]; omega), List.length_take, Nat.min_eq_left (by omega)]
    rw [List.eraseIdx_of_length_le (by simp; omega)]
theorem wo_skip {l : Life} {k i : Nat} (hi : i < l.notes.xs.length) (h : l.sights.xs.length + i = k) : noteWo l k (l.notes.xs.take (i + 1)) = noteWo l k (l.notes.xs.take i) := by
  unfold noteWo
  rw [if_pos (by omega), if_pos (by omega), era_skip hi (by omega)]
theorem wo_go {l : Life} {k i : Nat} (hi : i < l.notes.xs.length) (h : l.sights.xs.length + i ≠ k) : noteWo l k (l.notes.xs.take (i + 1)) = noteWo l k (l.notes.xs.take i) ++ [l.notes.xs[i]] := by
  unfold noteWo
  split
  · rw [era_go hi (by omega)]
  · rw [take_succ' hi]
/-- A box of a life that grows, and another box. -/
structure LessB (H : Heap) (B K : Nat) (h : Habit) (va vb : AV) (x : List Sight) (y : List Note) : Prop where
  box : H.get B = .cells true [.pure (.int .i64 h.step), .pure (.int .i64 h.place), .pure (.int .i64 h.sink), va, vb]
  other : H.get K = .cells true [.pure (.int .i64 0), .pure (.int .i64 0), .pure (.int .i64 0), .pure .nils, .pure .nils]
  ga : GrowV Sight.cells 9 H va x
  gb : GrowV Note.cells 4 H vb y
  ab : ∀ id, Names va id → ¬ Names vb id
  aB : ¬ Names va B ∧ ¬ Names va K
  bB : ¬ Names vb B ∧ ¬ Names vb K
  ne : K ≠ B
section
variable {H H2 : Heap} {B K : Nat} {h : Habit} {va vb v2 : AV} {x : List Sight} {y : List Note} {o : AObj}
theorem LessB.pushA {s : Sight} (t : LessB H B K h va vb x y) (hv : GrowV Sight.cells 9 H2 v2 (x ++ [s])) (ha : After va (H.alloc o) v2 H2) : LessB (H2.set B (.cells true [.pure (.int .i64 h.step), .pure (.int .i64 h.place), .pure (.int .i64 h.sink), v2, vb])) B K h v2 vb (x ++ [s]) y ∧ H2.get B = .cells true [.pure (.int .i64 h.step), .pure (.int .i64 h.place), .pure (.int .i64 h.sink), va, vb] := by
  have hB := nx_of_get t.box
  have hK := nx_of_get t.other
  obtain ⟨gb, db⟩ := ha.grow (t.gb.alloc _) (fun id h h' => t.ab id h' h)
  have n1 : ¬ Names v2 B := fun h => by have := ha.new _ h; simp at this; omega
  have n2 : ¬ Names v2 K := fun h => by have := ha.new _ h; simp at this; omega
  have hB2 : H2.get B = .cells true [.pure (.int .i64 h.step), .pure (.int .i64 h.place), .pure (.int .i64 h.sink), va, vb] := by rw [ha.get B (by simp; omega) t.aB.1, get_alloc_lt hB]; exact t.box
  have hK2 := (ha.get K (by simp; omega) t.aB.2).trans ((get_alloc_lt hK).trans t.other)
  exact ⟨⟨get_set_own (nx_of_get hB2), by rw [get_set_ne t.ne]; exact hK2, hv.set n1 _, gb.set t.bB.1 _, fun id h h' => db id h' h, ⟨n1, n2⟩, t.bB, t.ne⟩, hB2⟩
theorem LessB.pushB {s : Note} (t : LessB H B K h va vb x y) (hv : GrowV Note.cells 4 H2 v2 (y ++ [s])) (ha : After vb (H.alloc o) v2 H2) : LessB (H2.set B (.cells true [.pure (.int .i64 h.step), .pure (.int .i64 h.place), .pure (.int .i64 h.sink), va, v2])) B K h va v2 x (y ++ [s]) ∧ H2.get B = .cells true [.pure (.int .i64 h.step), .pure (.int .i64 h.place), .pure (.int .i64 h.sink), va, vb] := by
  have hB := nx_of_get t.box
  have hK := nx_of_get t.other
  obtain ⟨ga, da⟩ := ha.grow (t.ga.alloc _) (fun id h h' => t.ab id h h')
  have n1 : ¬ Names v2 B := fun h => by have := ha.new _ h; simp at this; omega
  have n2 : ¬ Names v2 K := fun h => by have := ha.new _ h; simp at this; omega
  have hB2 : H2.get B = .cells true [.pure (.int .i64 h.step), .pure (.int .i64 h.place), .pure (.int .i64 h.sink), va, vb] := by rw [ha.get B (by simp; omega) t.bB.1, get_alloc_lt hB]; exact t.box
  have hK2 := (ha.get K (by simp; omega) t.bB.2).trans ((get_alloc_lt hK).trans t.other)
  exact ⟨⟨get_set_own (nx_of_get hB2), by rw [get_set_ne t.ne]; exact hK2, ga.set t.aB.1 _, hv.set n1 _, da, t.aB, ⟨n1, n2⟩, t.ne⟩, hB2⟩
end
theorem sh67 : G.shared 67 = false := by decide
theorem e67 (n : Nat) (l : Life) (k : Nat) (hs : l.sights.xs.length < 1000) (hn : l.notes.xs.length < 1000) (hk : k < 2000) : callP G (n + 1) 67 [.agg l.cells, .int .i64 k] = some (.agg (lessS l k).cells) := by
  refine callP_of (ext_none _) rfl g67 rfl ?_
  obtain ⟨P, hPe⟩ : ∃ P, P = PV.agg (lessS l k).cells := ⟨_, rfl⟩
  rw [← hPe]
  have hP : Hide _ := ⟨hPe⟩
  clear hPe
  (repeat' first | simp [*, initEnv, c67] | (refine wpIf_two (fun _ h => ?_) (fun _ h => ?_) <;> try simp [-Nat.le_zero_eq] at h) | (apply wpE_appendV; (focus (first | assumption | (repeat' first | assumption | with_reducible apply GrowV.setNew | with_reducible apply GrowV.alloc | with_reducible apply GrowV.set | (with_reducible show ¬ Names _ _; simp [*]; done)))); (focus (exact fun _ => rfl)); (focus decide); (focus (intro a; first | rfl | simp)); (focus (simp [maxCells] <;> omega))) | (refine after_intro fun v2 H2 hv2 hnx2 hget2 hnew2 hone2 hcel2 => ?_))
  have hno : ∀ id, ¬ Names (.pure .nils) id := fun id ⟨_, _, _, h⟩ => by simp at h
  refine wp_loopF [(6, 6), (11, 30)] (fun (s : Nat × AV) env H => env 6 = .pure (.int .i64 s.1) ∧ s.1 ≤ l.sights.xs.length ∧ LessB H 1 0 l.habit s.2 (.pure .nils) ((l.sights.xs.take s.1).eraseIdx k) []) (fun s => l.sights.xs.length - s.1) (0, .pure .nils) ?_ ?_ ?_ ?_
  · decide
  · exact ⟨by simp, by omega, ⟨by simp, by simp, GrowV.nil, GrowV.nil, fun _ h => absurd h (hno _), ⟨hno _, hno _⟩, ⟨hno _, hno _⟩, by decide⟩⟩
  · simp only [loopFuel]; omega
  rintro ⟨i, va⟩ env H ⟨h6, hi, ht⟩
  simp only at h6 hi ht
  have hfit : i < 9223372036854775807 := by omega
  have hbox := ht.box
  have hbx := nx_of_get hbox
  have hbn : ¬ (1 = H.nx) := by omega
  have hga := ht.ga
  have hfa := hga.1.fresh
  have hes : ((l.sights.xs.take i).eraseIdx k).length ≤ 1000 := by have := List.length_eraseIdx_le (l.sights.xs.take i) k; rw [List.length_take] at this; omega
  (repeat' first | simp [*, initEnv] | (refine wpIf_two (fun _ h => ?_) (fun _ h => ?_) <;> try simp [-Nat.le_zero_eq] at h) | (apply wpE_appendV; (focus (first | assumption | (repeat' first | assumption | with_reducible apply GrowV.setNew | with_reducible apply GrowV.alloc | with_reducible apply GrowV.set | (with_reducible show ¬ Names _ _; simp [*]; done)))); (focus (exact fun _ => rfl)); (focus decide); (focus (intro a; first | rfl | simp)); (focus (simp [maxCells] <;> omega))) | (refine after_intro fun v2 H2 hv2 hnx2 hget2 hnew2 hone2 hcel2 => ?_))
  · have hlt : i < l.sights.xs.length := by assumption
    refine ⟨i + 1, by omega, by rw [wrap64 (by omega) (by omega)]; omega, by omega, va, ?_⟩
    rw [era_skip hlt (by omega)]; exact ht
  · have hlt : i < l.sights.xs.length := by assumption
    have hne : ¬ (i : Int) = k := by assumption
    obtain ⟨ht2, hb2⟩ := ht.pushA hv2 ⟨hnx2, hget2, hnew2⟩
    have hnx := nx_of_get hb2
    generalize v2 = wa at *
    generalize H2 = Ha at *
    clear hv2 hget2 hnew2 hnx2 hga hfa hbox
    (repeat' first | simp [*, initEnv] | (refine wpIf_two (fun _ h => ?_) (fun _ h => ?_) <;> try simp [-Nat.le_zero_eq] at h) | (apply wpE_appendV; (focus (first | assumption | (repeat' first | assumption | with_reducible apply GrowV.setNew | with_reducible apply GrowV.alloc | with_reducible apply GrowV.set | (with_reducible show ¬ Names _ _; simp [*]; done)))); (focus (exact fun _ => rfl)); (focus decide); (focus (intro a; first | rfl | simp)); (focus (simp [maxCells] <;> omega))) | (refine after_intro fun v2 H2 hv2 hnx2 hget2 hnew2 hone2 hcel2 => ?_))
    refine ⟨i + 1, by omega, by simp, by omega, wa, ?_⟩
    rw [era_go hlt (by omega)]; exact ht2
  have hie : i = l.sights.xs.length := by omega
  subst hie
  rw [List.take_of_length_le (Nat.le_refl _)] at ht
  clear hga hfa hbox hbn hes hbx
  refine wp_loopF [(7, 7), (31, 54)] (fun (s : Nat × AV) env H => env 7 = .pure (.int .i64 s.1) ∧ s.1 ≤ l.notes.xs.length ∧ LessB H 1 0 l.habit va s.2 (l.sights.xs.eraseIdx k) (noteWo l k (l.notes.xs.take s.1))) (fun s => l.notes.xs.length - s.1) (0, .pure .nils) ?_ ?_ ?_ ?_
  · decide
  · refine ⟨by simp, by omega, ?_⟩
    have : noteWo l k (l.notes.xs.take 0) = [] := by unfold noteWo; split <;> simp
    rw [this]; exact ht
  · simp only [loopFuel]; omega
  clear ht
  rintro ⟨i, vb⟩ env2 Hq ⟨h7, hi2, ht⟩
  simp only at h7 hi2 ht
  have hfit2 : i < 9223372036854775807 := by omega
  have hbox := ht.box
  have hbx := nx_of_get hbox
  have hbn : ¬ (1 = Hq.nx) := by omega
  have hga := ht.gb
  have hfa := hga.1.fresh
  have hes : (noteWo l k (l.notes.xs.take i)).length ≤ 1000 := by
    unfold noteWo
    split
    · have := List.length_eraseIdx_le (l.notes.xs.take i) (k - l.sights.xs.length); rw [List.length_take] at this; omega
    · rw [List.length_take]; omega
  have hwn : IntKind.i64.wrap ((l.sights.xs.length : Int) + i) = (l.sights.xs.length : Int) + i := wrap64 (by omega) (by omega)
  have hA := ht.ga.1.one
  have hB := ht.gb.1.one
  have hA1 := hA.1
  have hA2 := hA.2
  have hB1 := hB.1
  have hB2 := hB.2
  have hoth := ht.other
  have hox := nx_of_get hoth
  clear hA hB
  (repeat' first | simp [*, initEnv] | (refine wpIf_two (fun _ h => ?_) (fun _ h => ?_) <;> try simp [-Nat.le_zero_eq] at h) | (apply wpE_appendV; (focus (first | assumption | (repeat' first | assumption | with_reducible apply GrowV.setNew | with_reducible apply GrowV.alloc | with_reducible apply GrowV.set | (with_reducible show ¬ Names _ _; simp [*]; done)))); (focus (exact fun _ => rfl)); (focus decide); (focus (intro a; first | rfl | simp)); (focus (simp [maxCells] <;> omega))) | (refine after_intro fun v2 H2 hv2 hnx2 hget2 hnew2 hone2 hcel2 => ?_))
  · have hlt : i < l.notes.xs.length := by assumption
    refine ⟨i + 1, by omega, by simp, by omega, vb, ?_⟩
    rw [wo_skip hlt (by omega)]; exact ht
  · have hlt : i < l.notes.xs.length := by assumption
    have hne : ¬ (l.sights.xs.length : Int) + i = k := by assumption
    obtain ⟨ht2, hb2⟩ := ht.pushB hv2 ⟨hnx2, hget2, hnew2⟩
    have hnx := nx_of_get hb2
    generalize v2 = wa at *
    generalize H2 = Ha at *
    clear hv2 hget2 hnew2 hnx2 hga hfa hbox hoth
    (repeat' first | simp [*, initEnv] | (refine wpIf_two (fun _ h => ?_) (fun _ h => ?_) <;> try simp [-Nat.le_zero_eq] at h) | (apply wpE_appendV; (focus (first | assumption | (repeat' first | assumption | with_reducible apply GrowV.setNew | with_reducible apply GrowV.alloc | with_reducible apply GrowV.set | (with_reducible show ¬ Names _ _; simp [*]; done)))); (focus (exact fun _ => rfl)); (focus decide); (focus (intro a; first | rfl | simp)); (focus (simp [maxCells] <;> omega))) | (refine after_intro fun v2 H2 hv2 hnx2 hget2 hnew2 hone2 hcel2 => ?_))
    refine ⟨i + 1, by omega, by simp, by omega, wa, ?_⟩
    rw [wo_go hlt (by omega)]; exact ht2
  have hie : i = l.notes.xs.length := by omega
  subst hie
  have fa : FrzK (Hq.set 0 (.cells true [.pure (.int .i64 l.habit.step), .pure (.int .i64 l.habit.place), .pure (.int .i64 l.habit.sink), va, vb])) false depthF (aggV [.pure (.int .i64 l.habit.step), .pure (.int .i64 l.habit.place), .pure (.int .i64 l.habit.sink), va, vb]) P := by
    rw [hP.h]
    rw [List.take_of_length_le (Nat.le_refl _)] at ht
    exact FrzK.aggV (n := 11) (.cons (.pure _) (.cons (.pure _) (.cons (.pure _) (.cons ((ht.ga.set ht.aB.2 _).res (fun _ => rfl)) (.cons ((ht.gb.set ht.bB.2 _).res (fun _ => rfl)) .nil)))))
  clear ht hga hfa
  (repeat' first | simp [*, initEnv] | (refine wpIf_two (fun _ h => ?_) (fun _ h => ?_) <;> try simp [-Nat.le_zero_eq] at h) | (apply wpE_appendV; (focus (first | assumption | (repeat' first | assumption | with_reducible apply GrowV.setNew | with_reducible apply GrowV.alloc | with_reducible apply GrowV.set | (with_reducible show ¬ Names _ _; simp [*]; done)))); (focus (exact fun _ => rfl)); (focus decide); (focus (intro a; first | rfl | simp)); (focus (simp [maxCells] <;> omega))) | (refine after_intro fun v2 H2 hv2 hnx2 hget2 hnew2 hone2 hcel2 => ?_))
  exact fa
@[simp] theorem d67 (n : Nat) (H : Heap) (l_habit_step : Int) (l_habit_place : Int) (l_habit_sink : Int) (l_sights : Sl Sight) (l_notes : Sl Note) (k : Nat) (hs : (fun (l : Life) => l.sights.xs.length < 1000) (⟨⟨l_habit_step, l_habit_place, l_habit_sink⟩, l_sights, l_notes⟩ : Life)) (hn : (fun (l : Life) => l.notes.xs.length < 1000) (⟨⟨l_habit_step, l_habit_place, l_habit_sink⟩, l_sights, l_notes⟩ : Life)) (hk : k < 2000) : doCall (calleeOf G (n + 1)) H (.pure (.func 67 [])) [.pure (.agg [.int .i64 l_habit_step, .int .i64 l_habit_place, .int .i64 l_habit_sink, (l_sights).pv Sight.cells 9, (l_notes).pv Note.cells 4]), .pure (.int .i64 k)] = some (.val (.pure ((fun (l : Life) => .agg (lessS l k).cells) (⟨⟨l_habit_step, l_habit_place, l_habit_sink⟩, l_sights, l_notes⟩ : Life)))) :=
  call_pureC (ps := [_, _]) (caps := []) sh67 (e67 n (⟨⟨l_habit_step, l_habit_place, l_habit_sink⟩, l_sights, l_notes⟩ : Life) k hs hn hk)
end Go.Proofs.YtjjkgamklbgnlaaGreat.Vm

namespace Go.Proofs.YtjjkgamklbgnlaaGreat.Vm
open Go
set_option linter.unusedSimpArgs false
set_option linter.unusedVariables false
set_option maxHeartbeats 4000000

def deleteC (sz bytes : Nat) (zero : List PV) : VFunc := ⟨3, 33, [(.tmp 6)], (.seq (.region none [⟨(some 6), (.mov (.const .nils)), none⟩]) (.seq (.region none [⟨(some 8), (.mov (.tmp 0)), none⟩, ⟨(some 9), (.mov (.tmp 1)), none⟩, ⟨(some 10), (.mov (.tmp 2)), none⟩, ⟨(some 11), (.mov (.tmp 0)), none⟩, ⟨(some 12), (.lenSl (.tmp 11)), none⟩, ⟨(some 13), (.slice3 sz (.tmp 8) (some (.tmp 9)) (.tmp 10) (.tmp 12)), none⟩]) (.seq (.seq (.region none [⟨(some 14), (.mov (.tmp 1)), none⟩, ⟨(some 15), (.mov (.tmp 2)), none⟩, ⟨(some 16), (.bin .eql .num (.tmp 14) (.tmp 15)), none⟩]) (.cond (.tmp 16) (.seq (.region none [⟨(some 17), (.mov (.tmp 0)), none⟩, ⟨(some 6), (.mov (.tmp 17)), none⟩]) .ret) .skip)) (.seq (.region none [⟨(some 18), (.mov (.tmp 0)), none⟩, ⟨(some 19), (.lenSl (.tmp 18)), none⟩, ⟨(some 7), (.mov (.tmp 19)), none⟩]) (.seq (.region (some 6) [⟨(some 20), (.mov (.tmp 0)), none⟩, ⟨(some 21), (.mov (.tmp 1)), none⟩, ⟨(some 22), (.slice sz (.tmp 20) none (some (.tmp 21))), none⟩, ⟨(some 23), (.mov (.tmp 0)), none⟩, ⟨(some 24), (.mov (.tmp 2)), none⟩, ⟨(some 25), (.slice sz (.tmp 23) (some (.tmp 24)) none), none⟩, ⟨(some 26), (.append sz bytes (.tmp 22) (.tmp 25)), none⟩, ⟨(some 0), (.mov (.tmp 26)), none⟩]) (.seq (.region none [⟨(some 27), (.mov (.tmp 0)), none⟩, ⟨(some 28), (.mov (.tmp 0)), none⟩, ⟨(some 29), (.lenSl (.tmp 28)), none⟩, ⟨(some 30), (.mov (.tmp 7)), none⟩, ⟨(some 31), (.slice sz (.tmp 27) (some (.tmp 29)) (some (.tmp 30))), none⟩, ⟨none, (.clear zero (.tmp 31)), none⟩]) (.seq (.region none [⟨(some 32), (.mov (.tmp 0)), none⟩, ⟨(some 6), (.mov (.tmp 32)), none⟩]) .ret)))))))⟩
theorem st_slice3 {cl : Callee} {env : Env} {H : Heap} {sz : Nat} {x lo hi mx : Opnd} : step cl env H (.slice3 sz x (some lo) hi mx) = (match sliceLen (x.eval env) with
    | some len => match boundV len len (some (mx.eval env)) with
      | some m => match boundV m m (some (hi.eval env)) with
        | some h => match boundV h 0 (some (lo.eval env)) with
          | some _ => some (.val .undef)
          | none => none
        | none => none
      | none => none
    | none => none) := by simp only [step, bound_eq]; rfl
section
variable {α : Type} {f : α → List PV} {sz bytes n : Nat} {zero : List PV} {H : Heap} {l : List α}
theorem delete_call {g id i L : Nat} {k : AV → Heap → Prop} (hx : ∀ a H, G.extRun g a H = none) (hg : G.func g = some (deleteC sz bytes zero)) (hv : H.get id = .cells true (rowOf f l)) (hf : ∀ a, (f a).length = sz) (h0 : 0 < sz) (hone : ∀ a, (f a).all PV.one = true) (hz : zero.length = sz)
    (hL : L = l.length) (hlen : l.length < 1000) (hi : i < l.length)
    (hk : ∀ H', HeadV f sz H' (.row id sz 0 (L - 1)) (l.eraseIdx i) → H'.nx = H.nx → (∀ j, j ≠ id → H'.get j = H.get j) → k (.row id sz 0 (L - 1)) H') :
    ∃ v' H', Vm.call G (n + 1) (.fn g) [.row id sz 0 L, .pure (.int .i64 i), .pure (.int .i64 ((i : Int) + 1))] H = some (v', H') ∧ k v' H' := by
  obtain ⟨m, hm⟩ : ∃ m, L = m + 1 := ⟨L - 1, by omega⟩
  have hLm : L - 1 = m := by omega
  rw [hLm] at hk
  have hrl := rowOf_length (f := f) hf
  have hcs : isCells (H.get id) = true := by rw [hv]; rfl
  have hidlt := nx_of_get hv
  -- what is moved
  obtain ⟨b, hb, hbc⟩ : ∃ b, sliceV H sz (.row id sz 0 L) (some (.pure (.int .i64 ((i : Int) + 1)))) none = some (.val b) ∧ sliceCells H sz b = some (rowOf f (l.drop (i + 1)), L - (i + 1)) := by
    have h1 := sliceV_row_lo (H := H) (id := id) (sz := sz) (off := 0) (len := L) (i := i + 1) (k := .i64) hcs (by omega)
    rw [show (((i + 1 : Nat) : Int)) = (i : Int) + 1 from by simp] at h1
    refine ⟨_, h1, ?_⟩
    by_cases h : L = i + 1
    · rw [if_pos ⟨by omega, h⟩, List.drop_eq_nil_of_le (by omega)]
      simp [sliceCells, rowOf, h]
    · rw [if_neg (by omega)]
      rw [sliceCells_row, hv]
      simp only [rowCells]
      have e1 : (rowOf f l).length = L * sz := by rw [hrl, hL]
      have e2 : (0 + (i + 1)) * sz + (L - (i + 1)) * sz = L * sz := by rw [← Nat.add_mul]; congr 1; omega
      rw [if_pos (by omega), Nat.zero_add, rowOf_drop hf, List.take_of_length_le]
      rw [hrl, List.length_drop, ← hL]; exact Nat.le_refl _
  have hlt : (l.take i ++ l.drop (i + 1)) = l.eraseIdx i := by rw [List.eraseIdx_eq_take_drop_succ]
  have hel : (l.eraseIdx i).length = m := by rw [List.length_eraseIdx_of_lt hi]; omega
  obtain ⟨last, hlast⟩ : ∃ last, last = (rowOf f l).drop (m * sz) := ⟨_, rfl⟩
  have hll : last.length = sz := by rw [hlast, List.length_drop, hrl, ← hL, hm, Nat.add_mul]; omega
  have hap : doAppend H sz bytes (.row id sz 0 i) b = some (.upd (.row id sz 0 m) (H.set id (.cells true (rowOf f (l.eraseIdx i) ++ last)))) := by
    simp only [doAppend, hbc]
    rw [rowOf_one' hone]
    have e1 : i + (L - (i + 1)) = m := by omega
    have e2 : m * sz ≤ (rowOf f l).length := by rw [hrl, ← hL, hm, Nat.add_mul]; omega
    simp only [Bool.not_true, Bool.false_eq_true, if_false, if_true, hv, Nat.zero_mul, Nat.zero_add, e1, if_pos e2]
    rw [rowOf_take hf, ← hlast, ← hlt, rowOf_append]
  have h3 : sliceV (H.set id (.cells true (rowOf f (l.eraseIdx i) ++ last))) sz (.row id sz 0 m) (some (.pure (.int .i64 m))) (some (.pure (.int .i64 L))) = some (.val (.row id sz m 1)) := by
    have e1 : rowCap (H.set id (.cells true (rowOf f (l.eraseIdx i) ++ last))) id sz 0 m = some L := by
      unfold rowCap
      rw [get_set_own hidlt]
      simp only [List.length_append, hrl, hel, hll]
      have : m * sz + sz = L * sz := by rw [hm, Nat.add_mul]; omega
      rw [this, Nat.mul_div_cancel _ h0]
      congr 1; omega
    simp only [sliceV, if_true, e1, boundV, natOf_nat (Nat.le_refl L), natOf_nat (show m ≤ L by omega)]
    rw [if_neg (by omega)]
    congr 3
    · omega
    · omega
  have h4 : clearV (H.set id (.cells true (rowOf f (l.eraseIdx i) ++ last))) zero (.row id sz m 1) = some (.upd (.tup []) ((H.set id (.cells true (rowOf f (l.eraseIdx i) ++ last))).set id (.cells true (rowOf f (l.eraseIdx i) ++ zero.map AV.pure)))) := by
    have e1 : (rowOf f (l.eraseIdx i)).length = m * sz := by rw [hrl, hel]
    simp only [clearV, hz, if_true, get_set_own hidlt]
    rw [if_pos (by rw [List.length_append, e1, hll]; omega), List.take_append_of_le_length (by omega), List.take_of_length_le (by omega), List.drop_eq_nil_of_le (by rw [List.length_append, e1, hll]; omega)]
    simp
  have b1 : boundV L L (some (.pure (.int .i64 (L : Int)))) = some L := natOf_nat (Nat.le_refl L)
  have b2 : boundV L L (some (.pure (.int .i64 ((i : Int) + 1)))) = some (i + 1) := natOf_nat (i := i + 1) (by omega)
  have b3 : boundV (i + 1) 0 (some (.pure (.int .i64 (i : Int)))) = some i := natOf_nat (by omega)
  have hk' := hk ((H.set id (.cells true (rowOf f (l.eraseIdx i) ++ last))).set id (.cells true (rowOf f (l.eraseIdx i) ++ zero.map AV.pure))) ⟨id, zero.map AV.pure, by rw [hel], by rw [get_set_own (by simpa using hidlt)]⟩ (by simp) (fun j hj => by rw [get_set_ne hj, get_set_ne hj])
  have hiL : i ≤ L := by omega
  have hne : ¬ ((i : Int) = (i : Int) + 1) := by omega
  generalize H.set id (.cells true (rowOf f (l.eraseIdx i) ++ last)) = Ha at *
  generalize Ha.set id (.cells true (rowOf f (l.eraseIdx i) ++ zero.map AV.pure)) = Hb at *
  clear hk hlt hel hlast hll hrl hm hLm hbc hL hv
  refine call_of (hx _ _) hg rfl ?_
  simp only [deleteC]
  (repeat' first | simp [*, initEnv, st_slice3, sliceLen] | (refine wpIf_two (fun _ h => ?_) (fun _ h => ?_) <;> try simp [-Nat.le_zero_eq] at h) | (apply wpE_appendV; (focus (first | assumption | (repeat' first | assumption | with_reducible apply GrowV.setNew | with_reducible apply GrowV.alloc | with_reducible apply GrowV.set | (with_reducible show ¬ Names _ _; simp [*]; done)))); (focus (exact fun _ => rfl)); (focus decide); (focus (intro a; first | rfl | simp)); (focus (simp [maxCells] <;> omega))) | (refine after_intro fun v2 H2 hv2 hnx2 hget2 hnew2 hone2 hcel2 => ?_))
end
end Go.Proofs.YtjjkgamklbgnlaaGreat.Vm

namespace Go.Proofs.YtjjkgamklbgnlaaGreat.Vm
open Go
theorem sort_nil (n : Nat) (H : Heap) : Vm.call G (n + 10) (.fn 50) [.pure .nils] H = some (.tup [], H) := by kernel_rfl
end Go.Proofs.YtjjkgamklbgnlaaGreat.Vm

namespace Go.Proofs.YtjjkgamklbgnlaaGreat.Vm
open Go
set_option linter.unusedSimpArgs false
set_option linter.unusedVariables false
set_option maxHeartbeats 4000000
section
variable {l m : Life}
theorem Right.wo (hr : Right l) (hh : m.habit = l.habit) {i : Nat} (hs : m.sights.xs = l.sights.xs ∨ (1 < l.sights.xs.length ∧ i < l.sights.xs.length ∧ m.sights.xs = l.sights.xs.eraseIdx i)) (hn : m.notes.xs.Sublist l.notes.xs) : Right m := by
  have h1 := hr.one
  have h9 := hr.nine
  have hsub : m.sights.xs.Sublist l.sights.xs := by
    rcases hs with h | ⟨_, _, h⟩
    · rw [h]; exact List.Sublist.refl _
    · rw [h]; exact List.eraseIdx_sublist ..
  have hlen := hsub.length_le
  have hlenn := hn.length_le
  have h20 := hr.notes
  refine ⟨by rw [hh]; exact hr.habit, ?_, by omega, by omega, fun s hs => hr.sight s (hsub.subset hs), ?_, fun s hs => hr.note s (hn.subset hs), ?_⟩
  · rcases hs with h | ⟨h2, hi, h⟩
    · rw [h]; exact h1
    · rw [h, List.length_eraseIdx_of_lt hi]; omega
  · intro j hj
    rcases hs with h | ⟨h2, hi, h⟩
    · have := hr.years j (by rw [← h]; exact hj)
      simp only [h]; exact this
    · simp only [h]
      have hj' : j + 1 + 1 < l.sights.xs.length := by rw [h, List.length_eraseIdx_of_lt hi] at hj; omega
      rw [List.getElem_eraseIdx, List.getElem_eraseIdx]
      have y1 := hr.years j (by omega)
      have y2 := hr.years (j + 1) hj'
      split <;> split <;> omega
  · exact List.Sublist.nodup ((hsub.map _).append (hn.map _)) hr.ids
end
def lessP (l : Life) (i : Nat) : Life := ⟨l.habit, .mk true (l.sights.xs.eraseIdx i), l.notes⟩
def lessN (l : Life) (i : Nat) : Life := ⟨l.habit, l.sights, .mk true (l.notes.xs.eraseIdx i)⟩
theorem right_lessP {l : Life} (hr : Right l) {i : Nat} (h : 1 < l.sights.xs.length) (hi : i < l.sights.xs.length) : Right (lessP l i) := hr.wo rfl (.inr ⟨h, hi, rfl⟩) (List.Sublist.refl _)
theorem right_lessN {l : Life} (hr : Right l) {i : Nat} : Right (lessN l i) := hr.wo rfl (i := 0) (.inl rfl) (List.eraseIdx_sublist ..)
theorem right_lessS {l : Life} (hr : Right l) {k : Nat} (h : k < l.sights.xs.length → 1 < l.sights.xs.length) : Right (lessS l k) := by
  have e : ∀ {α : Type} (xs : List α), (Sl.of xs).xs = xs := fun xs => by simp
  by_cases hk : k < l.sights.xs.length
  · refine hr.wo rfl (i := k) (.inr ⟨h hk, hk, by simp [lessS]⟩) ?_
    simp [lessS, noteWo, show ¬ l.sights.xs.length ≤ k by omega]
  · refine hr.wo rfl (i := k) (.inl ?_) ?_
    · simp [lessS, List.eraseIdx_of_length_le (show l.sights.xs.length ≤ k by omega)]
    · simp [lessS, noteWo, show l.sights.xs.length ≤ k by omega]
      exact List.eraseIdx_sublist ..
end Go.Proofs.YtjjkgamklbgnlaaGreat.Vm

namespace Go.Proofs.YtjjkgamklbgnlaaGreat.Vm
open Go
set_option linter.unusedSimpArgs false
set_option linter.unusedVariables false
set_option maxHeartbeats 1000000

theorem full_up {s t : Span} (h : sub s t) (hf : full s) : full t := by unfold sub full at *; omega
theorem meet_mono {a a' b b' : Span} (h : sub a a') (h' : sub b b') : sub (meetS a b) (meetS a' b') := by unfold sub meetS at *; simp only; omega
theorem onD_mono {d e : Int} {s t : Span} (h : sub s t) (hd : d ≤ e) : sub (onD d s) (onD e t) := by unfold sub onD at *; simp only; omega
theorem upH_mono {h : Habit} {k y : Int} {s t : Span} (hs : sub s t) : sub (upH h k y s) (upH h k y t) := by
  unfold upH
  split
  · unfold sub at *; simp only; omega
  · exact sub_refl _
theorem through_iff {on back : Nat → Span → Span} {l : List Span} : (throughS on back l).isSome = true ↔ ∀ i, i < l.length → full (fN on l i) := by
  constructor
  · intro h i hi
    rcases Classical.em (full (fN on l i)) with hf | hf
    · exact hf
    · rw [through_none ⟨i, hi, hf⟩] at h; simp at h
  · intro h; rw [through_some h]; rfl
theorem fit_iff {l : Life} {c : List Int} : fitP l c = true ↔ (∀ m ∈ l.notes.xs, notedS l.sights.xs m c = true) ∧ (thX l c).isSome = true ∧ (thY l c).isSome = true ∧ (thH l c).isSome = true ∧ (lettersS l.sights.xs c).isSome = true := by
  rw [← allL_iff (p := fun m => notedS l.sights.xs m c)]
  unfold fitP tellS
  by_cases ha : allL (fun m => notedS l.sights.xs m c) l.notes.xs = true
  · rw [if_pos ha]
    cases thX l c <;> cases thY l c <;> cases thH l c <;> cases lettersS l.sights.xs c <;> simp [ha]
  · rw [if_neg ha]
    simp [ha]
theorem th_congr {l m : Life} (h1 : m.habit = l.habit) (h2 : m.sights.xs = l.sights.xs) (c : List Int) : thX m c = thX l c ∧ thY m c = thY l c ∧ thH m c = thH l c := by
  have e1 : onX m c = onX l c := by funext k s; simp only [onX, h1]
  have e2 : onH m c = onH l c := by funext k s; simp only [onH, h1, h2]
  have e3 : backH m c = backH l c := by funext k s; simp only [backH, h1, h2]
  simp only [thX, thY, thH, e1, e2, e3, h2, and_self]
/-- Without notes. -/
theorem fit_notes {l m : Life} (h1 : m.habit = l.habit) (h2 : m.sights.xs = l.sights.xs) (h3 : ∀ x ∈ m.notes.xs, x ∈ l.notes.xs) {c : List Int} (h : fitP l c = true) : fitP m c = true := by
  rw [fit_iff] at h ⊢
  obtain ⟨e1, e2, e3⟩ := th_congr h1 h2 c
  rw [e1, e2, e3, h2]
  exact ⟨fun x hx => h.1 x (h3 x hx), h.2⟩

/-! ### More changes -/
theorem fN_mono {on on' : Nat → Span → Span} {l l' : List Span} {n : Nat} (h0 : 0 < n → sub l[0]! l'[0]!) (hs : ∀ i, i + 1 < n → ∀ s t, sub s t → sub (meetS l[i+1]! (on i s)) (meetS l'[i+1]! (on' i t))) : ∀ i, i < n → sub (fN on l i) (fN on' l' i)
  | 0, h => h0 h
  | i + 1, h => hs i h _ _ (fN_mono h0 hs i (by omega))
theorem set_get! {c : List Int} {k : Nat} {v : Int} (hk : k < c.length) (i : Nat) : (c.set k v)[i]! = if i = k then v else c[i]! := by
  by_cases hi : i < c.length
  · rw [getElem!_pos _ i (by simpa using hi), List.getElem_set, getElem!_pos c i hi]
    by_cases h : i = k
    · rw [if_pos h, if_pos h.symm]
    · rw [if_neg h, if_neg (fun e => h e.symm)]
  · rw [getElem!_neg _ i (by simpa using hi), getElem!_neg c i hi, if_neg (by omega)]
theorem goL_set : ∀ (c : List Int) (T : List (List UInt8)) (k : Nat) (p : List UInt8) (m : Nat), k < c.length → c[k]! ≠ 2 → goL p m ((c.set k 1).zip T) = goL p m (c.zip T)
  | [], _, _, _, _, h, _ => by simp at h
  | a :: c, [], _, _, _, _, _ => by cases ‹Nat› <;> simp
  | a :: c, t :: T, 0, p, m, _, h2 => by
    simp at h2
    simp only [List.set_cons_zero, List.zip_cons_cons, goL, if_neg h2]
    rw [if_neg (by decide)]
  | a :: c, t :: T, k + 1, p, m, h1, h2 => by
    have h3 : k < c.length := by simpa using h1
    have h4 : c[k]! ≠ 2 := by simpa using h2
    simp only [List.set_cons_succ, List.zip_cons_cons, goL, goL_set c T k _ _ h3 h4]
theorem getMap! {α β : Type} [Inhabited α] [Inhabited β] {f : α → β} {l : List α} {i : Nat} (h : i < l.length) : (l.map f)[i]! = f l[i] := by
  rw [getElem!_pos _ i (by simpa using h)]; simp
theorem fit_more {l : Life} (hr : Right l) (hn : l.notes.xs = []) {c : List Int} (hc : c.length + 1 = l.sights.xs.length) {k : Nat} (hk : k < c.length) (h0 : c[k]! = 0) (h : fitP l c = true) : fitP l (c.set k 1) = true := by
  rw [fit_iff] at h ⊢
  obtain ⟨_, hx, hy, hh, hl⟩ := h
  have hfar : ∀ i, farD l.habit c[i]! ≤ farD l.habit (c.set k 1)[i]! := fun i => by
    rw [set_get! hk]
    split
    · rename_i e
      subst e
      rw [h0]
      have := (far_le (k := 1) hr.habit).1
      unfold farD at this ⊢
      simp at this ⊢; exact this
    · exact Int.le_refl _
  have hstepX : ∀ (L : List Span), (throughS (onX l c) (onX l c) L).isSome = true → (throughS (onX l (c.set k 1)) (onX l (c.set k 1)) L).isSome = true := fun L h => by
    rw [through_iff] at h ⊢
    intro i hi
    refine full_up (fN_mono (n := L.length) (fun _ => sub_refl _) (fun j _ s t hst => meet_mono (sub_refl _) (onD_mono hst (hfar j))) i hi) (h i hi)
  refine ⟨by rw [hn]; simp, hstepX _ hx, hstepX _ hy, ?_, ?_⟩
  · unfold thH at hh ⊢
    rw [through_iff] at hh ⊢
    intro i hi
    refine full_up (fN_mono (n := (l.sights.xs.map (·.height)).length) (fun _ => sub_refl _) (fun j hj s t hst => ?_) i hi) (hh i hi)
    have hj' : j + 1 < l.sights.xs.length := by simpa using hj
    have hb := hr.sp (List.getElem_mem hj')
    rw [getMap! hj']
    simp only [onH, if_pos hj', set_get! hk]
    split
    · rename_i e
      subst e
      have : upH l.habit 1 (yrS l.sights.xs j) t = ⟨0, 100⟩ := by unfold upH; simp
      rw [this]
      unfold sub meetS; simp only; omega
    · exact meet_mono (sub_refl _) (upH_mono hst)
  · unfold lettersS startL at hl ⊢
    split
    · rename_i hlen
      rw [dif_pos hlen] at hl
      rw [List.drop_zero] at hl ⊢
      unfold gapsL at hl ⊢
      rw [goL_set _ _ _ _ _ hk (by rw [h0]; decide)]
      exact hl
    · simp

/-! ### Without the first sight, without the last one -/
/-- The one tells no more than the other. -/
def lessT (p q : List UInt8) : Prop := patR p = true ∧ p.length = q.length ∧ ∀ i (h : i < p.length) (h' : i < q.length), (p[i].toNat : Int) = 46 ∨ p[i] = q[i]
theorem agreeL_iff : ∀ {p q : List UInt8}, agreeL p q = true ↔ ∀ i (h : i < p.length) (h' : i < q.length), p[i] = q[i] ∨ (p[i].toNat : Int) = 46 ∨ (q[i].toNat : Int) = 46
  | [], q => by simp [agreeL]
  | a :: p, [] => by simp [agreeL]
  | a :: p, b :: q => by
    rw [agreeL, Bool.and_eq_true, agreeL_iff]
    constructor
    · rintro ⟨h1, h2⟩ i h h'
      cases i with
      | zero =>
        simp at h1 ⊢
        rcases Decidable.em (a = b) with e | e
        · exact .inl e
        · have : ¬ (a.toNat : Int) = b.toNat := fun e' => e (UInt8.toNat_inj.1 (by omega))
          omega
      | succ i => simpa using h2 i (by simpa using h) (by simpa using h')
    · intro h1
      refine ⟨?_, fun i h h' => by have := h1 (i + 1) (by simpa using h) (by simpa using h'); simpa using this⟩
      have := h1 0 (by simp) (by simp)
      simp at this ⊢
      rcases this with e | e | e
      · subst e; simp
      · omega
      · omega
theorem mixL_length : ∀ {p q : List UInt8}, (mixL p q).length = min p.length q.length
  | [], q => by simp [mixL]
  | a :: p, [] => by simp [mixL]
  | a :: p, b :: q => by simp [mixL, mixL_length]
theorem mixL_get : ∀ {p q : List UInt8} {i : Nat} (h : i < (mixL p q).length) (hp : i < p.length) (hq : i < q.length), (mixL p q)[i] = if (p[i].toNat : Int) = 46 then q[i] else p[i]
  | [], q, i, h, hp, hq => by simp at hp
  | a :: p, [], i, h, hp, hq => by simp at hq
  | a :: p, b :: q, 0, h, hp, hq => by simp [mixL]
  | a :: p, b :: q, i + 1, h, hp, hq => by
    simp only [mixL, List.getElem_cons_succ]
    exact mixL_get _ (by simpa using hp) (by simpa using hq)
theorem allC_iff {p : List UInt8} : allC true p = true ↔ ∀ c ∈ p, patC true c = true := by
  induction p with
  | nil => simp [allC]
  | cons a p ih => simp [allC, ih]
theorem pat_mix {p q : List UInt8} (hp : patR p = true) (hq : patR q = true) (hl : p.length = q.length) : patR (mixL p q) = true := by
  simp only [patR, Bool.and_eq_true, allC_iff, mixL_length, decide_eq_true_eq] at hp hq ⊢
  refine ⟨⟨fun c hc => ?_, by omega⟩, by omega⟩
  obtain ⟨i, hi, rfl⟩ := List.mem_iff_getElem.1 hc
  have hi' := hi
  rw [mixL_length] at hi'
  rw [mixL_get hi (by omega) (by omega)]
  split
  · exact hq.1.1 _ (List.getElem_mem _)
  · exact hp.1.1 _ (List.getElem_mem _)
theorem agree_parts {p q : List UInt8} : agreeR p q = true ↔ patR p = true ∧ patR q = true ∧ p.length = q.length ∧ agreeL p q = true := by
  simp only [agreeR, Bool.and_eq_true, decide_eq_true_eq]
  constructor
  · rintro ⟨⟨⟨h1, h2⟩, h3⟩, h4⟩; exact ⟨h1, h2, by omega, h4⟩
  · rintro ⟨h1, h2, h3, h4⟩; exact ⟨⟨⟨h1, h2⟩, by omega⟩, h4⟩
theorem lessT.agree {p q x : List UInt8} (h : lessT p q) (ha : agreeR q x = true) : agreeR p x = true ∧ lessT (mixL p x) (mixL q x) := by
  obtain ⟨h1, h2, h3⟩ := h
  obtain ⟨a1, a2, a3, a4⟩ := agree_parts.1 ha
  have a5 := agreeL_iff.1 a4
  refine ⟨agree_parts.2 ⟨h1, a2, by omega, agreeL_iff.2 fun i hp hx => ?_⟩, pat_mix h1 a2 (by omega), by rw [mixL_length, mixL_length, h2], fun i hp hq => ?_⟩
  · rcases h3 i hp (by omega) with e | e
    · exact .inr (.inl e)
    · have := a5 i (by omega) hx
      rw [← e] at this
      exact this
  · have l1 := hp
    have l2 := hq
    rw [mixL_length] at l1 l2
    have g1 := mixL_get hp (by omega) (by omega)
    have g2 := mixL_get hq (by omega) (by omega)
    rw [g1, g2]
    rcases h3 i (by omega) (by omega) with e | e
    · rw [if_pos e]
      split
      · exact .inr rfl
      · rename_i hn
        rcases a5 i (by omega) (by omega) with e2 | e2 | e2
        · exact .inr e2.symm
        · exact absurd e2 hn
        · exact .inl e2
    · simp [e]
theorem goL_less : ∀ (r : List (Int × List UInt8)) (p q : List UInt8) (m m' : Nat), lessT p q → (goL q m r).isSome = true → (goL p m' r).isSome = true
  | [], p, q, m, m', h, hs => by simp [goL]
  | (k, t) :: r, p, q, m, m', h, hs => by
    rw [goL] at hs ⊢
    by_cases hk : k = 2
    · rw [if_pos hk] at hs ⊢
      rw [Option.isSome_map] at hs ⊢
      cases r with
      | nil => simp [goL]
      | cons a r => exact hs
    · rw [if_neg hk] at hs ⊢
      by_cases ha : agreeR q t = true
      · rw [if_pos ha] at hs
        have := h.agree ha
        rw [if_pos this.1]
        exact goL_less r _ _ _ _ this.2 hs
      · rw [if_neg ha] at hs; simp at hs
theorem goL_tail {k : Int} {t p : List UInt8} {r : List (Int × List UInt8)} {m : Nat} (ht : patR t = true) (h : (goL p m ((k, t) :: r)).isSome = true) : (goL t 1 r).isSome = true := by
  rw [goL] at h
  by_cases hk : k = 2
  · rw [if_pos hk, Option.isSome_map] at h; exact h
  · rw [if_neg hk] at h
    by_cases ha : agreeR p t = true
    · rw [if_pos ha] at h
      obtain ⟨a1, a2, a3, a4⟩ := agree_parts.1 ha
      refine goL_less r t _ _ _ ⟨ht, by rw [mixL_length]; omega, fun i hi hm => ?_⟩ h
      rw [mixL_get hm (by omega) (by omega)]
      split
      · exact .inr rfl
      · rename_i hn
        rcases agreeL_iff.1 a4 i (by omega) (by omega) with e | e | e
        · exact .inr e.symm
        · exact absurd e hn
        · exact .inl e
    · rw [if_neg ha] at h; simp at h
theorem goL_init : ∀ (r s : List (Int × List UInt8)) (p : List UInt8) (m : Nat), (goL p m (r ++ s)).isSome = true → (goL p m r).isSome = true
  | [], s, p, m, h => by simp [goL]
  | (k, t) :: r, s, p, m, h => by
    rw [List.cons_append, goL] at h
    rw [goL]
    by_cases hk : k = 2
    · rw [if_pos hk, Option.isSome_map] at h ⊢; exact goL_init r s _ _ h
    · rw [if_neg hk] at h ⊢
      by_cases ha : agreeR p t = true
      · rw [if_pos ha] at h ⊢; exact goL_init r s _ _ h
      · rw [if_neg ha] at h; simp at h

theorem zip_drop1 {α β : Type} : ∀ (a : List α) (b : List β), (a.zip b).drop 1 = (a.drop 1).zip (b.drop 1)
  | [], b => by simp
  | a :: l, [] => by simp
  | a :: l, b :: m => by simp
theorem zip_take {α β : Type} : ∀ (k : Nat) (a : List α) (b : List β), (a.zip b).take k = (a.take k).zip (b.take k)
  | 0, a, b => by simp
  | k + 1, [], b => by simp
  | k + 1, a :: l, [] => by simp
  | k + 1, a :: l, b :: m => by simp [zip_take k l m]
theorem get_drop1! {α : Type} [Inhabited α] (l : List α) (i : Nat) : (l.drop 1)[i]! = l[i+1]! := by
  simp only [List.getElem!_eq_getElem?_getD, List.getElem?_drop]
  rw [Nat.add_comm]
theorem get_take! {α : Type} [Inhabited α] (l : List α) {i k : Nat} (h : i < k) : (l.take k)[i]! = l[i]! := by
  simp only [List.getElem!_eq_getElem?_getD, List.getElem?_take_of_lt h]
theorem fN_drop {on on' : Nat → Span → Span} {l : List Span} (hm : ∀ i s t, i + 2 < l.length → sub s t → sub (on (i + 1) s) (on' i t)) : ∀ i, i + 1 < l.length → sub (fN on l (i + 1)) (fN on' (l.drop 1) i)
  | 0, h => by
    show sub (meetS l[0+1]! (on 0 (fN on l 0))) (l.drop 1)[0]!
    rw [get_drop1!]
    exact meet_sub_l _ _
  | i + 1, h => by
    have ih := fN_drop hm i (by omega)
    show sub (meetS l[i+1+1]! (on (i+1) (fN on l (i+1)))) (meetS (l.drop 1)[i+1]! (on' i (fN on' (l.drop 1) i)))
    rw [get_drop1!]
    exact meet_mono (sub_refl _) (hm i _ _ (by omega) ih)
theorem fN_take {on on' : Nat → Span → Span} {l : List Span} {k : Nat} (hm : ∀ i s, i + 1 < k → on i s = on' i s) : ∀ i, i < k → fN on l i = fN on' (l.take k) i
  | 0, h => by
    show l[0]! = (l.take k)[0]!
    rw [get_take! _ h]
  | i + 1, h => by
    show meetS l[i+1]! (on i (fN on l i)) = meetS (l.take k)[i+1]! (on' i (fN on' (l.take k) i))
    rw [get_take! _ h, fN_take hm i (by omega), hm i _ h]
theorem fit_first {l m : Life} (hr : Right l) (h1 : m.habit = l.habit) (h2 : m.sights.xs = l.sights.xs.drop 1) (h3 : m.notes.xs = []) (hn : 1 < l.sights.xs.length) {c : List Int} (hc : c.length + 1 = l.sights.xs.length) (h : fitP l c = true) : fitP m (c.drop 1) = true := by
  rw [fit_iff] at h ⊢
  obtain ⟨_, hx, hy, hh, hl⟩ := h
  have hX : ∀ (f : Sight → Span), (throughS (onX l c) (onX l c) (l.sights.xs.map f)).isSome = true → (throughS (onX m (c.drop 1)) (onX m (c.drop 1)) (m.sights.xs.map f)).isSome = true := fun f h => by
    rw [through_iff] at h ⊢
    intro i hi
    rw [h2] at hi ⊢
    rw [List.map_drop] at hi ⊢
    have hi' : i + 1 < (l.sights.xs.map f).length := by simp at hi ⊢; omega
    refine full_up (fN_drop (fun j s t _ hst => ?_) i hi') (h (i + 1) hi')
    simp only [onX, get_drop1!, h1]
    exact onD_mono hst (Int.le_refl _)
  refine ⟨by rw [h3]; simp, hX _ hx, hX _ hy, ?_, ?_⟩
  · unfold thH at hh ⊢
    rw [through_iff] at hh ⊢
    intro i hi
    rw [h2] at hi ⊢
    rw [List.map_drop] at hi ⊢
    have hi' : i + 1 < (l.sights.xs.map (·.height)).length := by simp at hi ⊢; omega
    refine full_up (fN_drop (fun j s t hj hst => ?_) i hi') (hh (i + 1) hi')
    have hj' : j + 2 < l.sights.xs.length := by simpa using hj
    have hml : m.sights.xs.length = l.sights.xs.length - 1 := by rw [h2]; simp
    simp only [onH, yrS, h2, get_drop1!, h1, List.length_drop]
    rw [if_pos (by omega), if_pos (by omega)]
    exact upH_mono hst
  · unfold lettersS startL at hl ⊢
    rw [dif_pos (by omega)] at hl
    rw [dif_pos (by rw [h2]; simp; omega)]
    rw [List.drop_zero] at hl ⊢
    have hd := gapsL_drop (l := l.sights.xs) (c := c) (i := 0) hc (by omega)
    rw [List.drop_zero] at hd
    rw [hd] at hl
    have ht : patR (l.sights.xs[0 + 1]'(by omega)).letters = true := by
      have := hr.sight _ (List.getElem_mem (l := l.sights.xs) (n := 0 + 1) (by omega))
      simp only [sightR, Bool.and_eq_true] at this
      exact this.1.2
    have := goL_tail ht hl
    have e1 : gapsL m.sights.xs (c.drop 1) = (gapsL l.sights.xs c).drop (0 + 1) := by
      unfold gapsL lets
      rw [h2, List.map_drop, Nat.zero_add, zip_drop1, List.drop_one, List.drop_one, List.drop_one]
    rw [e1]
    have e2 : (m.sights.xs[0]'(by rw [h2]; simp; omega)) = l.sights.xs[0 + 1]'(by omega) := by simp [h2]
    rw [e2]
    exact this
theorem fit_last {l m : Life} (h1 : m.habit = l.habit) (h2 : m.sights.xs = l.sights.xs.take (l.sights.xs.length - 1)) (h3 : m.notes.xs = []) (hn : 1 < l.sights.xs.length) {c : List Int} (hc : c.length + 1 = l.sights.xs.length) (h : fitP l c = true) : fitP m (c.take (c.length - 1)) = true := by
  rw [fit_iff] at h ⊢
  obtain ⟨_, hx, hy, hh, hl⟩ := h
  have hX : ∀ (f : Sight → Span), (throughS (onX l c) (onX l c) (l.sights.xs.map f)).isSome = true → (throughS (onX m (c.take (c.length - 1))) (onX m (c.take (c.length - 1))) (m.sights.xs.map f)).isSome = true := fun f h => by
    rw [through_iff] at h ⊢
    intro i hi
    rw [h2] at hi ⊢
    rw [List.map_take] at hi ⊢
    have hi' : i < l.sights.xs.length - 1 := by simp at hi; omega
    rw [← fN_take (on := onX l c) (fun j s hj => ?_) i hi']
    · exact h i (by simp; omega)
    · simp only [onX, h1]
      rw [get_take! _ (by omega)]
  refine ⟨by rw [h3]; simp, hX _ hx, hX _ hy, ?_, ?_⟩
  · unfold thH at hh ⊢
    rw [through_iff] at hh ⊢
    intro i hi
    rw [h2] at hi ⊢
    rw [List.map_take] at hi ⊢
    have hi' : i < l.sights.xs.length - 1 := by simp at hi; omega
    rw [← fN_take (on := onH l c) (fun j s hj => ?_) i hi']
    · exact hh i (by simp; omega)
    · simp only [onH, yrS, h2, h1, List.length_take]
      rw [if_pos (by omega), if_pos (by omega), get_take! _ (by omega), get_take! _ (by omega), get_take! _ (by omega)]
  · unfold lettersS startL at hl ⊢
    rw [dif_pos (by omega)] at hl
    rw [dif_pos (by rw [h2]; simp; omega)]
    rw [List.drop_zero] at hl ⊢
    have e2 : (m.sights.xs[0]'(by rw [h2]; simp; omega)) = l.sights.xs[0]'(by omega) := by simp [h2]
    rw [e2]
    have e1 : gapsL l.sights.xs c = gapsL m.sights.xs (c.take (c.length - 1)) ++ (gapsL l.sights.xs c).drop (c.length - 1) := by
      have : gapsL m.sights.xs (c.take (c.length - 1)) = (gapsL l.sights.xs c).take (c.length - 1) := by
        unfold gapsL lets
        rw [h2, List.map_take, zip_take]
        congr 1
        rw [← List.drop_one, ← List.drop_one, List.drop_take]
        congr 1
        omega
      rw [this, List.take_append_drop]
    rw [e1] at hl
    exact goL_init _ _ _ _ hl

/-! ### The fewest changes -/
theorem toC_dig : ∀ (m j : Nat), ∀ k ∈ toC m j, 0 ≤ k ∧ k ≤ 2
  | 0, j, k, h => by simp [toC] at h
  | m + 1, j, k, h => by
    simp only [toC, List.mem_cons] at h
    rcases h with rfl | h
    · omega
    · exact toC_dig m _ k h
theorem toC_surj : ∀ (c : List Int), (∀ k ∈ c, 0 ≤ k ∧ k ≤ 2) → ∃ j, j < 3 ^ c.length ∧ toC c.length j = c
  | [], _ => ⟨0, by simp, rfl⟩
  | d :: r, h => by
    obtain ⟨j, h1, h2⟩ := toC_surj r fun k hk => h k (List.mem_cons_of_mem _ hk)
    have hd := h d (List.mem_cons_self ..)
    refine ⟨d.toNat + 3 * j, ?_, ?_⟩
    · rw [List.length_cons, Nat.pow_succ]; omega
    · rw [List.length_cons, toC, show (d.toNat + 3 * j) % 3 = d.toNat by omega, show (d.toNat + 3 * j) / 3 = j by omega, h2]
      congr 1
      omega
theorem least_spec (p : List Int → Bool) (m : Nat) : ∀ j, (leastTo p m j = none → ∀ i, i < j → p (toC m i) = false) ∧ (∀ b, leastTo p m j = some b → (∃ i, i < j ∧ b = toC m i) ∧ p b = true ∧ ∀ i, i < j → p (toC m i) = true → chg b ≤ chg (toC m i))
  | 0 => ⟨fun _ i h => by omega, fun b h => by simp [leastTo] at h⟩
  | j + 1 => by
    obtain ⟨i1, i2⟩ := least_spec p m j
    rw [leastTo]
    by_cases hp : p (toC m j) = true
    · rw [if_pos hp]
      cases hb : leastTo p m j with
      | none =>
        refine ⟨fun h => by simp at h, fun b h => ?_⟩
        simp at h; subst h
        refine ⟨⟨j, by omega, rfl⟩, hp, fun i hi hpi => ?_⟩
        rcases Nat.lt_or_ge i j with h | h
        · have := i1 hb i h; rw [this] at hpi; simp at hpi
        · rw [show i = j by omega]; exact Nat.le_refl _
      | some b0 =>
        obtain ⟨⟨i0, q1, q2⟩, q3, q4⟩ := i2 b0 hb
        by_cases hlt : chg (toC m j) < chg b0
        · simp only [if_pos hlt]
          refine ⟨fun h => by simp at h, fun b h => ?_⟩
          simp at h; subst h
          refine ⟨⟨j, by omega, rfl⟩, hp, fun i hi hpi => ?_⟩
          rcases Nat.lt_or_ge i j with h | h
          · have := q4 i h hpi; omega
          · rw [show i = j by omega]; exact Nat.le_refl _
        · simp only [if_neg hlt]
          refine ⟨fun h => by simp at h, fun b h => ?_⟩
          simp at h; subst h
          refine ⟨⟨i0, by omega, q2⟩, q3, fun i hi hpi => ?_⟩
          rcases Nat.lt_or_ge i j with h | h
          · exact q4 i h hpi
          · rw [show i = j by omega]; omega
    · rw [if_neg hp]
      refine ⟨fun h i hi => ?_, fun b h => ?_⟩
      · rcases Nat.lt_or_ge i j with h' | h'
        · exact i1 h i h'
        · rw [show i = j by omega]; simpa using hp
      · obtain ⟨⟨i0, q1, q2⟩, q3, q4⟩ := i2 b h
        refine ⟨⟨i0, by omega, q2⟩, q3, fun i hi hpi => ?_⟩
        rcases Nat.lt_or_ge i j with h' | h'
        · exact q4 i h' hpi
        · rw [show i = j by omega] at hpi; exact absurd hpi hp
/-- The number of changes of a least course; 100 where there is none. -/
def fewestV (l : Life) : Int := if checkS l = 0 then (match leastL l with
  | none => 100
  | some c => (chg c : Int)) else 100
theorem fewest_le {l m : Life} (hr : Right l) (hm : Right m) (h : ∀ c : List Int, c.length + 1 = l.sights.xs.length → fitP l c = true → ∃ c' : List Int, c'.length + 1 = m.sights.xs.length ∧ c'.Sublist c ∧ fitP m c' = true) : fewestV m ≤ fewestV l := by
  have h1 := hr.one
  have m1 := hm.one
  have m9 := hm.nine
  unfold fewestV
  rw [if_pos ((right_iff l).2 hr), if_pos ((right_iff m).2 hm)]
  have sl := least_spec (fitP l) (l.sights.xs.length - 1) (3 ^ (l.sights.xs.length - 1))
  have sm := least_spec (fitP m) (m.sights.xs.length - 1) (3 ^ (m.sights.xs.length - 1))
  have hmc : ∀ c, leastL m = some c → chg c ≤ 8 := fun c hc => by
    have := leastTo_length _ _ _ _ hc
    have := chg_le c
    omega
  cases hl : leastL l with
  | none =>
    cases hmm : leastL m with
    | none => exact Int.le_refl _
    | some b => have := hmc b hmm; simp only; omega
  | some c =>
    obtain ⟨⟨i, q1, q2⟩, q3, q4⟩ := sl.2 c hl
    have hcl := leastTo_length _ _ _ _ hl
    obtain ⟨c', k1, k2, k3⟩ := h c (by omega) q3
    obtain ⟨j, j1, j2⟩ := toC_surj c' fun k hk => by
      have := k2.subset hk
      rw [q2] at this
      exact toC_dig _ _ k this
    have hc'l : c'.length = m.sights.xs.length - 1 := by omega
    rw [hc'l] at j1 j2
    have hle : chg c' ≤ chg c := k2.countP_le
    cases hmm : leastL m with
    | none =>
      have := sm.1 hmm j j1
      rw [j2, k3] at this
      simp at this
    | some b =>
      obtain ⟨_, _, r4⟩ := sm.2 b hmm
      have := r4 j j1 (by rw [j2]; exact k3)
      rw [j2] at this
      simp only; omega
end Go.Proofs.YtjjkgamklbgnlaaGreat.Vm

namespace Go.Proofs.YtjjkgamklbgnlaaGreat.Vm
open Go
set_option linter.unusedSimpArgs false
set_option linter.unusedVariables false
set_option maxHeartbeats 4000000

def leastE (l : Life) : PV := if checkS l = 0 then (match leastL l with
  | none => .tup [.nils, .int .i64 9]
  | some c => .tup [(Sl.mk false c).pv intF 1, .int .i64 0]) else .tup [.nils, .int .i64 (checkS l)]
theorem sh39 : G.shared 39 = false := by decide
theorem e39 (n : Nat) (l : Life) (hs : shortS l) : callP G (n + 11) 39 [.agg l.cells] = some (leastE l) := by
  refine callP_of (ext_none _) rfl g39 rfl ?_
  have hcc : ∀ H, doCall (calleeOf G (n + 10)) H (.pure (.func 15 [])) [.pure (.agg l.cells)] = some (.val (.pure (.int .i64 (checkS l)))) := fun H => d15 (n + 5) H l.habit.step l.habit.place l.habit.sink l.sights l.notes hs
  simp only [Life.cells] at hcc
  by_cases hck : checkS l = 0
  · have hr := (right_iff l).1 hck
    have hc : ∀ H, doCall (calleeOf G (n + 10)) H (.pure (.func 60 [])) [.pure (.agg l.cells)] = some (.val (.pure (leastPV (leastL l)))) := fun H => d60 n H l.habit.step l.habit.place l.habit.sink l.sights l.notes hr
    simp only [Life.cells] at hc
    cases ho : leastL l with
    | none =>
      rw [ho] at hc
      (repeat' first | simp [*, initEnv, c39, leastPV, leastE] | (refine wpIf_two (fun _ h => ?_) (fun _ h => ?_) <;> try simp [-Nat.le_zero_eq] at h) | (apply wpE_appendV; (focus (first | assumption | (repeat' first | assumption | with_reducible apply GrowV.setNew | with_reducible apply GrowV.alloc | with_reducible apply GrowV.set | (with_reducible show ¬ Names _ _; simp [*]; done)))); (focus (exact fun _ => rfl)); (focus decide); (focus (intro a; first | rfl | simp)); (focus (simp [maxCells] <;> omega))) | (refine after_intro fun v2 H2 hv2 hnx2 hget2 hnew2 hone2 hcel2 => ?_))
    | some c =>
      rw [ho] at hc
      (repeat' first | simp [*, initEnv, c39, leastPV, leastE] | (refine wpIf_two (fun _ h => ?_) (fun _ h => ?_) <;> try simp [-Nat.le_zero_eq] at h) | (apply wpE_appendV; (focus (first | assumption | (repeat' first | assumption | with_reducible apply GrowV.setNew | with_reducible apply GrowV.alloc | with_reducible apply GrowV.set | (with_reducible show ¬ Names _ _; simp [*]; done)))); (focus (exact fun _ => rfl)); (focus decide); (focus (intro a; first | rfl | simp)); (focus (simp [maxCells] <;> omega))) | (refine after_intro fun v2 H2 hv2 hnx2 hget2 hnew2 hone2 hcel2 => ?_))
  · (repeat' first | simp [*, initEnv, c39, leastE] | (refine wpIf_two (fun _ h => ?_) (fun _ h => ?_) <;> try simp [-Nat.le_zero_eq] at h) | (apply wpE_appendV; (focus (first | assumption | (repeat' first | assumption | with_reducible apply GrowV.setNew | with_reducible apply GrowV.alloc | with_reducible apply GrowV.set | (with_reducible show ¬ Names _ _; simp [*]; done)))); (focus (exact fun _ => rfl)); (focus decide); (focus (intro a; first | rfl | simp)); (focus (simp [maxCells] <;> omega))) | (refine after_intro fun v2 H2 hv2 hnx2 hget2 hnew2 hone2 hcel2 => ?_))
@[simp] theorem d39 (n : Nat) (H : Heap) (l_habit_step : Int) (l_habit_place : Int) (l_habit_sink : Int) (l_sights : Sl Sight) (l_notes : Sl Note) (hs : (fun (l : Life) => shortS l) (⟨⟨l_habit_step, l_habit_place, l_habit_sink⟩, l_sights, l_notes⟩ : Life)) : doCall (calleeOf G (n + 11)) H (.pure (.func 39 [])) [.pure (.agg [.int .i64 l_habit_step, .int .i64 l_habit_place, .int .i64 l_habit_sink, (l_sights).pv Sight.cells 9, (l_notes).pv Note.cells 4])] = some (.val (.pure ((fun (l : Life) => leastE l) (⟨⟨l_habit_step, l_habit_place, l_habit_sink⟩, l_sights, l_notes⟩ : Life)))) :=
  call_pureC (ps := [_]) (caps := []) sh39 (e39 n (⟨⟨l_habit_step, l_habit_place, l_habit_sink⟩, l_sights, l_notes⟩ : Life) hs)
theorem sh27 : G.shared 27 = false := by decide
theorem e27 (n : Nat) (l : Life) (hs : shortS l) : callP G (n + 12) 27 [.agg l.cells] = some (.int .i64 (fewestV l)) := by
  refine callP_of (ext_none _) rfl g27 rfl ?_
  have hc : ∀ H, doCall (calleeOf G (n + 11)) H (.pure (.func 39 [])) [.pure (.agg l.cells)] = some (.val (.pure (leastE l))) := fun H => d39 n H l.habit.step l.habit.place l.habit.sink l.sights l.notes hs
  simp only [Life.cells] at hc
  unfold leastE at hc
  unfold fewestV
  by_cases hck : checkS l = 0
  · have hr := (right_iff l).1 hck
    have h9 := hr.nine
    simp only [if_pos hck] at hc ⊢
    cases ho : leastL l with
    | none =>
      simp only [ho] at hc ⊢
      (repeat' first | simp [*, initEnv, c27] | (refine wpIf_two (fun _ h => ?_) (fun _ h => ?_) <;> try simp [-Nat.le_zero_eq] at h) | (apply wpE_appendV; (focus (first | assumption | (repeat' first | assumption | with_reducible apply GrowV.setNew | with_reducible apply GrowV.alloc | with_reducible apply GrowV.set | (with_reducible show ¬ Names _ _; simp [*]; done)))); (focus (exact fun _ => rfl)); (focus decide); (focus (intro a; first | rfl | simp)); (focus (simp [maxCells] <;> omega))) | (refine after_intro fun v2 H2 hv2 hnx2 hget2 hnew2 hone2 hcel2 => ?_))
    | some c =>
      have hl := leastTo_length _ _ _ _ ho
      have hcl : (Sl.mk false c).xs.length < 1000 := by simp [Sl.xs]; omega
      have hch : ∀ H, doCall (calleeOf G (n + 11)) H (.pure (.func 59 [])) [.pure ((Sl.mk false c).pv intF 1)] = some (.val (.pure (.int .i64 (chg c)))) := fun H => d59 (n + 10) H _ hcl
      simp only [ho] at hc ⊢
      (repeat' first | simp [*, initEnv, c27] | (refine wpIf_two (fun _ h => ?_) (fun _ h => ?_) <;> try simp [-Nat.le_zero_eq] at h) | (apply wpE_appendV; (focus (first | assumption | (repeat' first | assumption | with_reducible apply GrowV.setNew | with_reducible apply GrowV.alloc | with_reducible apply GrowV.set | (with_reducible show ¬ Names _ _; simp [*]; done)))); (focus (exact fun _ => rfl)); (focus decide); (focus (intro a; first | rfl | simp)); (focus (simp [maxCells] <;> omega))) | (refine after_intro fun v2 H2 hv2 hnx2 hget2 hnew2 hone2 hcel2 => ?_))
  · simp only [if_neg hck] at hc ⊢
    (repeat' first | simp [*, initEnv, c27] | (refine wpIf_two (fun _ h => ?_) (fun _ h => ?_) <;> try simp [-Nat.le_zero_eq] at h) | (apply wpE_appendV; (focus (first | assumption | (repeat' first | assumption | with_reducible apply GrowV.setNew | with_reducible apply GrowV.alloc | with_reducible apply GrowV.set | (with_reducible show ¬ Names _ _; simp [*]; done)))); (focus (exact fun _ => rfl)); (focus decide); (focus (intro a; first | rfl | simp)); (focus (simp [maxCells] <;> omega))) | (refine after_intro fun v2 H2 hv2 hnx2 hget2 hnew2 hone2 hcel2 => ?_))
@[simp] theorem d27 (n : Nat) (H : Heap) (l_habit_step : Int) (l_habit_place : Int) (l_habit_sink : Int) (l_sights : Sl Sight) (l_notes : Sl Note) (hs : (fun (l : Life) => shortS l) (⟨⟨l_habit_step, l_habit_place, l_habit_sink⟩, l_sights, l_notes⟩ : Life)) : doCall (calleeOf G (n + 12)) H (.pure (.func 27 [])) [.pure (.agg [.int .i64 l_habit_step, .int .i64 l_habit_place, .int .i64 l_habit_sink, (l_sights).pv Sight.cells 9, (l_notes).pv Note.cells 4])] = some (.val (.pure ((fun (l : Life) => .int .i64 (fewestV l)) (⟨⟨l_habit_step, l_habit_place, l_habit_sink⟩, l_sights, l_notes⟩ : Life)))) :=
  call_pureC (ps := [_]) (caps := []) sh27 (e27 n (⟨⟨l_habit_step, l_habit_place, l_habit_sink⟩, l_sights, l_notes⟩ : Life) hs)
end Go.Proofs.YtjjkgamklbgnlaaGreat.Vm
