/- What the functions of letters compute: the program's, and the specification's. -/
import Derived.Test.YtjjkgamklbgnlaaGreatSpanWalk
namespace Go.Proofs.YtjjkgamklbgnlaaGreat.Vm
open Go
set_option linter.unusedSimpArgs false
set_option linter.unusedVariables false
set_option maxHeartbeats 4000000

/-- What is known of letters at each sight: a text and for how many sights, then kinds of gaps with the letters behind them. -/
def goL : List UInt8 → Nat → List (Int × List UInt8) → Option (List (List UInt8))
  | p, m, [] => some (List.replicate m p)
  | p, m, (k, t) :: r => if k = 2 then (goL t 1 r).map (List.replicate m p ++ ·) else if agreeR p t = true then goL (mixL p t) (m + 1) r else none
def lets (l : List Sight) : List (List UInt8) := l.map (·.letters)
def gapsL (l : List Sight) (c : List Int) : List (Int × List UInt8) := c.zip (lets l).tail
def startL (l : List Sight) (c : List Int) (i : Nat) : Option (List (List UInt8)) := if h : i < l.length then goL l[i].letters 1 ((gapsL l c).drop i) else some []
def lettersS (l : List Sight) (c : List Int) : Option (List (List UInt8)) := startL l c 0
def letPV : Option (List (List UInt8)) → PV
  | none => .tup [.nils, .bool false]
  | some l => .tup [(Sl.of l).pv strF 1, .bool true]
theorem gapsL_drop {l : List Sight} {c : List Int} {i : Nat} (hc : c.length + 1 = l.length) (hi : i < c.length) : (gapsL l c).drop i = (c[i], (l[i+1]'(by omega)).letters) :: (gapsL l c).drop (i + 1) := by
  have hlen : (gapsL l c).length = c.length := by simp [gapsL, lets]; omega
  rw [List.drop_eq_getElem_cons (by omega)]
  congr 1
  simp [gapsL, lets]
theorem gapsL_end {l : List Sight} {c : List Int} {i : Nat} (hc : c.length + 1 = l.length) (hi : c.length ≤ i) : (gapsL l c).drop i = [] := by
  apply List.drop_eq_nil_of_le
  simp [gapsL, lets]; omega
@[simp] theorem putIn_rowS {l : List (List UInt8)} {i : Nat} {x : List UInt8} (h : i < l.length) : putIn (.cells true (rowOf strF l)) 1 i [.pure (.str ⟨x.toArray⟩)] = some (.cells true (rowOf strF (l.set i x))) := by
  have := putIn_rowG (f := strF) (sz := 1) (l := l) (i := i) (a := x) (fun _ => rfl) (fun _ => rfl) (by decide) h
  rw [Nat.mul_one] at this
  exact this
theorem agree_len {p q : List UInt8} (h : agreeR p q = true) : (mixL p q).length ≤ 8 := by
  simp [agreeR, patR] at h
  have main : ∀ (p q : List UInt8), (mixL p q).length ≤ p.length := by
    intro p
    induction p with
    | nil => intro q; simp [mixL]
    | cons a p ih => intro q; cases q with
      | nil => simp [mixL]
      | cons b q => simp [mixL]; exact ih q
  have := main p q
  omega

theorem sh47 : G.shared 47 = false := by decide
theorem e47 (n : Nat) (l : Life) (c : Sl Int) (hc : c.xs.length + 1 = l.sights.xs.length) (h9 : l.sights.xs.length ≤ 9) (hl : ∀ s ∈ l.sights.xs, s.letters.length ≤ 20) : callP G (n + 5) 47 [.agg l.cells, c.pv intF 1] = some (letPV (lettersS l.sights.xs c.xs)) := by
  refine callP_of (ext_none _) rfl g47 rfl ?_
  have hP : Hide (letPV (lettersS l.sights.xs c.xs) = letPV (startL l.sights.xs c.xs 0)) := ⟨rfl⟩
  generalize letPV (lettersS l.sights.xs c.xs) = P at *
  (repeat' first | simp [*, initEnv, c47] | (refine wpIf_two (fun _ h => ?_) (fun _ h => ?_) <;> try simp [-Nat.le_zero_eq] at h) | (apply wpE_appendV; (focus (first | assumption | (repeat' first | assumption | with_reducible apply GrowV.setNew | with_reducible apply GrowV.alloc | with_reducible apply GrowV.set | (with_reducible show ¬ Names _ _; simp [*]; done)))); (focus (exact fun _ => rfl)); (focus decide); (focus (intro a; first | rfl | simp)); (focus (simp [maxCells] <;> omega))) | (refine after_intro fun v2 H2 hv2 hnx2 hget2 hnew2 hone2 hcel2 => ?_))
  refine wp_loopF [(4, 62)] (fun (out : List (List UInt8)) env H => env 7 = .pure (.int .i64 out.length) ∧ out.length ≤ l.sights.xs.length ∧ GrowV strF 1 H (env 6) out ∧
      Hide (startL l.sights.xs c.xs 0 = (startL l.sights.xs c.xs out.length).map (out ++ ·))) (fun out => l.sights.xs.length - out.length) [] ?_ ?_ ?_ ?_
  · decide
  · simp [GrowV.nil]
  · simp only [loopFuel]; simp; omega
  rintro out env H ⟨h7, hi, hg, hn⟩
  have hfit : out.length < 9223372036854775807 := by omega
  obtain ⟨ids, hids⟩ := hg.res (n := 9) (fun _ => rfl)
  (repeat' first | simp [*, initEnv] | (refine wpIf_two (fun _ h => ?_) (fun _ h => ?_) <;> try simp [-Nat.le_zero_eq] at h) | (apply wpE_appendV; (focus (first | assumption | (repeat' first | assumption | with_reducible apply GrowV.setNew | with_reducible apply GrowV.alloc | with_reducible apply GrowV.set | (with_reducible show ¬ Names _ _; simp [*]; done)))); (focus (exact fun _ => rfl)); (focus decide); (focus (intro a; first | rfl | simp)); (focus (simp [maxCells] <;> omega))) | (refine after_intro fun v2 H2 hv2 hnx2 hget2 hnew2 hone2 hcel2 => ?_))
  rotate_left
  · have he : out.length = l.sights.xs.length := by omega
    have hP2 : P = .tup [(Sl.of out).pv strF 1, .bool true] := by rw [hP.h, hn.h, startL, dif_neg (by omega)]; simp [letPV]
    simp [*]
  have hlt : out.length < l.sights.xs.length := by assumption
  have hst : startL l.sights.xs c.xs out.length = goL l.sights.xs[out.length].letters 1 ((gapsL l.sights.xs c.xs).drop out.length) := by rw [startL, dif_pos hlt]
  have hn2 : Hide (startL l.sights.xs c.xs 0 = (goL l.sights.xs[out.length].letters 1 ((gapsL l.sights.xs c.xs).drop out.length)).map (out ++ ·)) := ⟨by rw [hn.h, hst]⟩
  clear hst hn
  refine wp_loopF [(4, 5), (8, 11), (25, 53)] (fun (s : Nat × List UInt8) env2 H2 => env2 8 = .pure (.int .i64 (s.1 : Nat)) ∧ env2 9 = .pure (.str ⟨s.2.toArray⟩) ∧ out.length < s.1 ∧ s.1 ≤ l.sights.xs.length ∧ H2 = H ∧ s.2.length ≤ 20 ∧
      Hide (goL l.sights.xs[out.length].letters 1 ((gapsL l.sights.xs c.xs).drop out.length) = goL s.2 (s.1 - out.length) ((gapsL l.sights.xs c.xs).drop (s.1 - 1)))) (fun s => l.sights.xs.length - s.1) (out.length + 1, l.sights.xs[out.length].letters) ?_ ?_ ?_ ?_
  · decide
  · refine ⟨by simp, by simp, by simp, by simp; omega, rfl, hl _ (List.getElem_mem _), ⟨by simp⟩⟩
  · simp only [loopFuel]; omega
  rintro ⟨m, p⟩ env2 H2 ⟨h8, h9', hm0, hm, rfl, hp, hn3⟩
  simp only at h8 h9' hm0 hm hp hn3
  have hfit2 : m < 9223372036854775807 := by omega
  have hm1 : 0 < m := by omega
  have hc1 : m - 1 < c.xs.length ∨ True := .inr trivial
  have hc2 : m < l.sights.xs.length → m - 1 < c.xs.length := fun h => by omega
  have hl2 : ∀ h : m < l.sights.xs.length, l.sights.xs[m].letters.length < 1152921504606846975 := fun h => by have := hl _ (List.getElem_mem h); omega
  have hp2 : p.length < 1152921504606846975 := by omega
  have gd : ∀ h : m < l.sights.xs.length, (gapsL l.sights.xs c.xs).drop (m - 1) = (c.xs[m - 1]'(by omega), l.sights.xs[m].letters) :: (gapsL l.sights.xs c.xs).drop m := fun h => by
    have := gapsL_drop (c := c.xs) hc (i := m - 1) (by omega)
    have h9 : m - 1 + 1 = m := by omega
    simp only [h9] at this
    exact this
  have gd' : Hide (∀ h : m < l.sights.xs.length, (gapsL l.sights.xs c.xs).drop (m - 1) = (c.xs[m - 1]'(by omega), l.sights.xs[m].letters) :: (gapsL l.sights.xs c.xs).drop m) := ⟨gd⟩
  clear gd hc1
  (repeat' first | simp [*, initEnv] | (refine wpIf_two (fun _ h => ?_) (fun _ h => ?_) <;> try simp [-Nat.le_zero_eq] at h) | (apply wpE_appendV; (focus (first | assumption | (repeat' first | assumption | with_reducible apply GrowV.setNew | with_reducible apply GrowV.alloc | with_reducible apply GrowV.set | (with_reducible show ¬ Names _ _; simp [*]; done)))); (focus (exact fun _ => rfl)); (focus decide); (focus (intro a; first | rfl | simp)); (focus (simp [maxCells] <;> omega))) | (refine after_intro fun v2 H2 hv2 hnx2 hget2 hnew2 hone2 hcel2 => ?_))
  · have hml : m < l.sights.xs.length := by assumption
    have hk : c.xs[m - 1]'(hc2 hml) = 2 := by assumption
    have hseg : Hide (startL l.sights.xs c.xs 0 = (startL l.sights.xs c.xs m).map ((out ++ List.replicate (m - out.length) p) ++ ·)) := ⟨by
      rw [hn2.h, hn3.h, gd'.h hml, goL, if_pos hk, startL, dif_pos hml, Option.map_map]
      simp [Function.comp_def]⟩
    clear gd' hn2 hn3 hk
    rename decide (m < l.sights.xs.length) = true => hz
    clear hz
    refine wp_loopF [(6, 7), (54, 62)] (fun (j : Nat) env3 H3 => env3 7 = .pure (.int .i64 j) ∧ out.length ≤ j ∧ j ≤ m ∧ GrowV strF 1 H3 (env3 6) (out ++ List.replicate (j - out.length) p)) (fun j => m - j) out.length ?_ ?_ ?_ ?_
    · decide
    · simp [*] <;> omega
    · simp only [loopFuel]; omega
    rintro j env3 H3 ⟨h7', hj0, hj, hg3⟩
    have hfit3 : j < 9223372036854775807 := by omega
    (repeat' first | simp [*, initEnv] | (refine wpIf_two (fun _ h => ?_) (fun _ h => ?_) <;> try simp [-Nat.le_zero_eq] at h) | (apply wpE_appendV; (focus (first | assumption | (repeat' first | assumption | with_reducible apply GrowV.setNew | with_reducible apply GrowV.alloc | with_reducible apply GrowV.set | (with_reducible show ¬ Names _ _; simp [*]; done)))); (focus (exact fun _ => rfl)); (focus decide); (focus (intro a; first | rfl | simp)); (focus (simp [maxCells] <;> omega))) | (refine after_intro fun v2 H2 hv2 hnx2 hget2 hnew2 hone2 hcel2 => ?_))
    · refine ⟨j + 1, by omega, by simp, by omega, by omega, ?_⟩
      refine hv2.cast ?_
      have h9 : j + 1 - out.length = (j - out.length) + 1 := by omega
      rw [h9, List.replicate_succ']
      try simp
    · have hj9 : j = m := by omega
      subst hj9
      refine ⟨out ++ List.replicate (j - out.length) p, by simp; omega, by simp; omega, by simp; omega, hg3, ⟨?_⟩⟩
      have h9 : (out ++ List.replicate (j - out.length) p).length = j := by simp; omega
      rw [h9]
      exact hseg.h
  · have hml : m < l.sights.xs.length := by assumption
    have hk : ¬ c.xs[m - 1]'(hc2 hml) = 2 := by assumption
    have ha : agreeR p l.sights.xs[m].letters = true := by assumption
    have hlen := agree_len ha
    refine ⟨m + 1, by omega, by simp, mixL p l.sights.xs[m].letters, rfl, by omega, by omega, by omega, ⟨?_⟩⟩
    have h9 : m + 1 - out.length = m - out.length + 1 := by omega
    rw [hn3.h, gd'.h hml, goL, if_neg hk, if_pos ha, h9]
    simp
  · have hml : m < l.sights.xs.length := by assumption
    have hk : ¬ c.xs[m - 1]'(hc2 hml) = 2 := by assumption
    have ha : ¬ agreeR p l.sights.xs[m].letters = true := by simpa using (by assumption : agreeR p l.sights.xs[m].letters = false)
    rw [hP.h, hn2.h, hn3.h, gd'.h hml, goL, if_neg hk, if_neg ha]
    rfl
  · have hml : m = l.sights.xs.length := by omega
    have hseg : Hide (startL l.sights.xs c.xs 0 = (startL l.sights.xs c.xs m).map ((out ++ List.replicate (m - out.length) p) ++ ·)) := ⟨by
      rw [hn2.h, hn3.h, gapsL_end hc (by omega), goL, startL, dif_neg (by omega)]
      simp⟩
    clear gd' hn2 hn3 hc2 hl2
    refine wp_loopF [(6, 7), (54, 62)] (fun (j : Nat) env3 H3 => env3 7 = .pure (.int .i64 j) ∧ out.length ≤ j ∧ j ≤ m ∧ GrowV strF 1 H3 (env3 6) (out ++ List.replicate (j - out.length) p)) (fun j => m - j) out.length ?_ ?_ ?_ ?_
    · decide
    · simp [*] <;> omega
    · simp only [loopFuel]; omega
    rintro j env3 H3 ⟨h7', hj0, hj, hg3⟩
    have hfit3 : j < 9223372036854775807 := by omega
    (repeat' first | simp [*, initEnv] | (refine wpIf_two (fun _ h => ?_) (fun _ h => ?_) <;> try simp [-Nat.le_zero_eq] at h) | (apply wpE_appendV; (focus (first | assumption | (repeat' first | assumption | with_reducible apply GrowV.setNew | with_reducible apply GrowV.alloc | with_reducible apply GrowV.set | (with_reducible show ¬ Names _ _; simp [*]; done)))); (focus (exact fun _ => rfl)); (focus decide); (focus (intro a; first | rfl | simp)); (focus (simp [maxCells] <;> omega))) | (refine after_intro fun v2 H2 hv2 hnx2 hget2 hnew2 hone2 hcel2 => ?_))
    · refine ⟨j + 1, by omega, by simp, by omega, by omega, ?_⟩
      refine hv2.cast ?_
      have h9 : j + 1 - out.length = (j - out.length) + 1 := by omega
      rw [h9, List.replicate_succ']
      try simp
    · have hj9 : j = m := by omega
      subst hj9
      refine ⟨out ++ List.replicate (j - out.length) p, by simp; omega, by simp; omega, by simp; omega, hg3, ⟨?_⟩⟩
      have h9 : (out ++ List.replicate (j - out.length) p).length = j := by simp; omega
      rw [h9]
      exact hseg.h
@[simp] theorem d47 (n : Nat) (H : Heap) (l_habit_step : Int) (l_habit_place : Int) (l_habit_sink : Int) (l_sights : Sl Sight) (l_notes : Sl Note) (c : Sl Int) (hc : (fun (l : Life) => c.xs.length + 1 = l.sights.xs.length) (⟨⟨l_habit_step, l_habit_place, l_habit_sink⟩, l_sights, l_notes⟩ : Life)) (h9 : (fun (l : Life) => l.sights.xs.length ≤ 9) (⟨⟨l_habit_step, l_habit_place, l_habit_sink⟩, l_sights, l_notes⟩ : Life)) (hl : (fun (l : Life) => ∀ s ∈ l.sights.xs, s.letters.length ≤ 20) (⟨⟨l_habit_step, l_habit_place, l_habit_sink⟩, l_sights, l_notes⟩ : Life)) : doCall (calleeOf G (n + 5)) H (.pure (.func 47 [])) [.pure (.agg [.int .i64 l_habit_step, .int .i64 l_habit_place, .int .i64 l_habit_sink, (l_sights).pv Sight.cells 9, (l_notes).pv Note.cells 4]), .pure (c.pv intF 1)] = some (.val (.pure ((fun (l : Life) => letPV (lettersS l.sights.xs c.xs)) (⟨⟨l_habit_step, l_habit_place, l_habit_sink⟩, l_sights, l_notes⟩ : Life)))) :=
  call_pureC (ps := [_, _]) (caps := []) sh47 (e47 n (⟨⟨l_habit_step, l_habit_place, l_habit_sink⟩, l_sights, l_notes⟩ : Life) c hc h9 hl)

theorem goL_none {p : List UInt8} {m : Nat} {k : Int} {t : List UInt8} {r : List (Int × List UInt8)} (hk : ¬ k = 2) (ha : agreeR p t = false) : goL p m ((k, t) :: r) = none := by
  rw [goL, if_neg hk, if_neg (by simp [ha])]
theorem sh89 : G.shared 89 = false := by decide
theorem e89 (n : Nat) (l : Life) (c : Sl Int) (hc : c.xs.length + 1 = l.sights.xs.length) (h9 : l.sights.xs.length ≤ 9) (hl : ∀ s ∈ l.sights.xs, s.letters.length ≤ 20) : callP G (n + 4) 89 [.agg l.cells, c.pv intF 1] = some (letPV (lettersS l.sights.xs c.xs)) := by
  refine callP_of (ext_none _) rfl g89 rfl ?_
  have hP : Hide (letPV (lettersS l.sights.xs c.xs) = letPV (startL l.sights.xs c.xs 0)) := ⟨rfl⟩
  generalize letPV (lettersS l.sights.xs c.xs) = P at *
  (repeat' first | simp [*, initEnv, c89] | (refine wpIf_two (fun _ h => ?_) (fun _ h => ?_) <;> try simp [-Nat.le_zero_eq] at h) | (apply wpE_appendV; (focus (first | assumption | (repeat' first | assumption | with_reducible apply GrowV.setNew | with_reducible apply GrowV.alloc | with_reducible apply GrowV.set | (with_reducible show ¬ Names _ _; simp [*]; done)))); (focus (exact fun _ => rfl)); (focus decide); (focus (intro a; first | rfl | simp)); (focus (simp [maxCells] <;> omega))) | (refine after_intro fun v2 H2 hv2 hnx2 hget2 hnew2 hone2 hcel2 => ?_))
  refine wp_loopF [(4, 13), (17, 62)] (fun (s : Nat × List (List UInt8) × List UInt8) env H => env 17 = .pure (.int .i64 s.1) ∧ s.1 ≤ l.sights.xs.length ∧ env 7 = .pure (.int .i64 s.2.1.length) ∧
      ((s.1 = 0 ∧ s.2.1 = [] ∧ env 6 = .pure .nils) ∨ (s.2.1.length < s.1 ∧ GrowV strF 1 H (env 6) (s.2.1 ++ List.replicate (s.1 - s.2.1.length) s.2.2) ∧
        Hide (startL l.sights.xs c.xs 0 = (goL s.2.2 (s.1 - s.2.1.length) ((gapsL l.sights.xs c.xs).drop (s.1 - 1))).map (s.2.1 ++ ·)))) ∧ s.2.2.length ≤ 20) (fun s => l.sights.xs.length - s.1) (0, [], []) ?_ ?_ ?_ ?_
  · decide
  · simp
  · simp only [loopFuel]; omega
  rintro ⟨i, done, p⟩ env H ⟨h17, hi, h7, hor, hp20⟩
  simp only at h17 hi h7 hor hp20
  have hfit : i < 9223372036854775807 := by omega
  rcases hor with ⟨hi0, hd, h6⟩ | ⟨hd, hg, hn⟩
  · subst hi0 hd
    have hg : GrowV strF 1 H (env 6) ([] : List (List UInt8)) := by rw [h6]; exact GrowV.nil
    have h0 : 0 < l.sights.xs.length := by omega
    have ha0 : addrV 9 (.pure (l.sights.pv Sight.cells 9)) (.pure (.int .i64 0)) = some (.val (.pure (.ptr l.sights.hot (l.sights.xs[0]).cells 0))) := addrV_sl (n := 0) h0
    clear h6
    (repeat' first | simp [*, initEnv] | (refine wpIf_two (fun _ h => ?_) (fun _ h => ?_) <;> try simp [-Nat.le_zero_eq] at h) | (apply wpE_appendV; (focus (first | assumption | (repeat' first | assumption | with_reducible apply GrowV.setNew | with_reducible apply GrowV.alloc | with_reducible apply GrowV.set | (with_reducible show ¬ Names _ _; simp [*]; done)))); (focus (exact fun _ => rfl)); (focus decide); (focus (intro a; first | rfl | simp)); (focus (simp [maxCells] <;> omega))) | (refine after_intro fun v2 H2 hv2 hnx2 hget2 hnew2 hone2 hcel2 => ?_))
    refine wp_loopF [(13, 13), (53, 61)] (fun (j : Nat) env3 H3 => j = 0 ∧ env3 13 = .pure (.int .i64 0) ∧ H3 = H2) (fun j => 0) 0 ?_ ?_ ?_ ?_
    · decide
    · simp
    · simp only [loopFuel]; omega
    rintro j env3 H3 ⟨rfl, h13, rfl⟩
    (repeat' first | simp [*, initEnv] | (refine wpIf_two (fun _ h => ?_) (fun _ h => ?_) <;> try simp [-Nat.le_zero_eq] at h) | (apply wpE_appendV; (focus (first | assumption | (repeat' first | assumption | with_reducible apply GrowV.setNew | with_reducible apply GrowV.alloc | with_reducible apply GrowV.set | (with_reducible show ¬ Names _ _; simp [*]; done)))); (focus (exact fun _ => rfl)); (focus decide); (focus (intro a; first | rfl | simp)); (focus (simp [maxCells] <;> omega))) | (refine after_intro fun v2 H2 hv2 hnx2 hget2 hnew2 hone2 hcel2 => ?_))
    refine ⟨1, by omega, rfl, by omega, [], rfl, l.sights.xs[0].letters, ⟨.inr ⟨by simp, by simpa using hv2, ⟨?_⟩⟩, hl _ (List.getElem_mem _)⟩⟩
    rw [startL, dif_pos h0]; simp
  obtain ⟨O, hO⟩ : ∃ O, O = done ++ List.replicate (i - done.length) p := ⟨_, rfl⟩
  rw [← hO] at hg
  have hOl : Hide (O.length = i) := ⟨by rw [hO]; simp; omega⟩
  have hOh : Hide (O = done ++ List.replicate (i - done.length) p) := ⟨hO⟩
  clear hO
  have hi0 : 0 < i := by omega
  have ha : ∀ k j, j < i → addrV 1 (env 6) (.pure (.int k (j : Nat))) = some (.val (.box (idOf (env 6)) j)) := fun k j h => by
    have := hg.1.addr (k := k) (i := j) (by have := hOl.h; omega)
    rw [Nat.mul_one] at this; exact this
  have hob := hg.1.objI (by have := hOl.h; omega)
  have hlt := hg.1.ltI (by have := hOl.h; omega)
  have hlt2 : idOf (env 6) < H.nx + 1 := by omega
  have hne1 : ¬ (idOf (env 6) = H.nx) := by omega
  have hlast : ∀ h, O[i - 1]'h = p := fun h => by
    have := hOh.h
    subst this
    rw [List.getElem_append_right (by omega), List.getElem_replicate]
  have hld : loadIn (.cells true (rowOf strF O)) 1 (i - 1) = some [.pure (.str ⟨p.toArray⟩)] := by
    rw [loadIn_row1 (fun _ => rfl) (by have := hOl.h; omega), hlast]; rfl
  have hfr := hg.1.fresh
  have hi1 : i - 1 < i := by omega
  have hi2 : i < l.sights.xs.length → i - 1 < c.xs.length := fun h => by omega
  have hbs : ∀ t, blendS p t = .tup [strP (if agreeR p t = true then mixL p t else []), .bool (agreeR p t)] := fun t => blend_same p t
  have gd' : Hide (∀ h : i < l.sights.xs.length, (gapsL l.sights.xs c.xs).drop (i - 1) = (c.xs[i - 1]'(by omega), l.sights.xs[i].letters) :: (gapsL l.sights.xs c.xs).drop i) := ⟨fun h => by
    have := gapsL_drop (c := c.xs) hc (i := i - 1) (by omega)
    have h9 : i - 1 + 1 = i := by omega
    simp only [h9] at this
    exact this⟩
  have hO2 : O.length ≤ 9 := by have := hOl.h; omega
  obtain ⟨ids, hids⟩ := hg.res (n := 9) (fun _ => rfl)
  clear hlast
  (repeat' first | simp [*, initEnv, strP] | (refine wpIf_two (fun _ h => ?_) (fun _ h => ?_) <;> try simp [-Nat.le_zero_eq] at h) | (apply wpE_appendV; (focus (first | assumption | (repeat' first | assumption | with_reducible apply GrowV.setNew | with_reducible apply GrowV.alloc | with_reducible apply GrowV.set | (with_reducible show ¬ Names _ _; simp [*]; done)))); (focus (exact fun _ => rfl)); (focus decide); (focus (intro a; first | rfl | simp)); (focus (simp [maxCells] <;> omega))) | (refine after_intro fun v2 H2 hv2 hnx2 hget2 hnew2 hone2 hcel2 => ?_))
  · -- a new stone
    have hml : i < l.sights.xs.length := by assumption
    have hk : c.xs[i - 1]'(hi2 hml) = 2 := by assumption
    have hg2 := hv2
    have hnx9 := hv2.1.row (by simp)
    clear hv2 hld hob ha hlt hlt2 hids
    refine wp_loopF [(13, 13), (53, 61)] (fun (j : Nat) env3 H3 => j = 0 ∧ env3 13 = .pure (.int .i64 i) ∧ H3 = H2) (fun j => 0) 0 ?_ ?_ ?_ ?_
    · decide
    · simp
    · simp only [loopFuel]; omega
    rintro j env3 H3 ⟨rfl, h13, rfl⟩
    (repeat' first | simp [*, initEnv] | (refine wpIf_two (fun _ h => ?_) (fun _ h => ?_) <;> try simp [-Nat.le_zero_eq] at h) | (apply wpE_appendV; (focus (first | assumption | (repeat' first | assumption | with_reducible apply GrowV.setNew | with_reducible apply GrowV.alloc | with_reducible apply GrowV.set | (with_reducible show ¬ Names _ _; simp [*]; done)))); (focus (exact fun _ => rfl)); (focus decide); (focus (intro a; first | rfl | simp)); (focus (simp [maxCells] <;> omega))) | (refine after_intro fun v2 H2 hv2 hnx2 hget2 hnew2 hone2 hcel2 => ?_))
    refine ⟨i + 1, by omega, by simp, by omega, O, by rw [hOl.h], l.sights.xs[i].letters, ⟨.inr ⟨by rw [hOl.h]; omega, hg2.cast ?_, ⟨?_⟩⟩, hl _ (List.getElem_mem _)⟩⟩
    · have h8 : i + 1 - O.length = 1 := by rw [hOl.h]; omega
      rw [h8]; rfl
    · have h8 : i + 1 - O.length = 1 := by rw [hOl.h]; omega
      rw [hn.h, gd'.h hml, goL, if_pos hk, h8, Option.map_map]
      simp [Function.comp_def, hOh.h]
  · have hml : i < l.sights.xs.length := by assumption
    have hk : ¬ c.xs[i - 1]'(hi2 hml) = 2 := by assumption
    have hag : agreeR p l.sights.xs[i].letters = true := by assumption
    obtain ⟨id2, hid2, hget2'⟩ := hv2.1.row (by simp)
    have hol := hOl.h
    have hl2 : (O ++ [mixL p l.sights.xs[i].letters]).length = i + 1 := by simp [hol]
    have hmx := agree_len hag
    clear hv2 hld hob ha hlt hlt2 hids
    refine wp_loopF [(13, 13), (53, 61)] (fun (j : Nat) env3 H3 => env3 13 = .pure (.int .i64 j) ∧ done.length ≤ j ∧ j ≤ i ∧ H3.get id2 = .cells true (rowOf strF (done ++ List.replicate (j - done.length) (mixL p l.sights.xs[i].letters) ++ (O ++ [mixL p l.sights.xs[i].letters]).drop j))) (fun j => i - j) done.length ?_ ?_ ?_ ?_
    · decide
    · refine ⟨by simp [*], by omega, by omega, ?_⟩
      rw [hget2']
      congr 2
      have h8 := hOh.h
      simp
      rw [h8]
      simp
    · simp only [loopFuel]; omega
    rintro j env3 H3 ⟨h13, hj0, hj, hg3⟩
    have hfit3 : j < 9223372036854775807 := by omega
    have hXl : (done ++ List.replicate (j - done.length) (mixL p l.sights.xs[i].letters) ++ (O ++ [mixL p l.sights.xs[i].letters]).drop j).length = i + 1 := by
      rw [List.length_append, List.length_append, List.length_replicate, List.length_drop, hl2]; omega
    have hXs : j < i → (done ++ List.replicate (j - done.length) (mixL p l.sights.xs[i].letters) ++ (O ++ [mixL p l.sights.xs[i].letters]).drop j).set j (mixL p l.sights.xs[i].letters) = done ++ List.replicate (j + 1 - done.length) (mixL p l.sights.xs[i].letters) ++ (O ++ [mixL p l.sights.xs[i].letters]).drop (j + 1) := fun h => by
      have h8 : j + 1 - done.length = (j - done.length) + 1 := by omega
      have h7 : (done ++ List.replicate (j - done.length) (mixL p l.sights.xs[i].letters)).length = j := by simp; omega
      rw [List.set_append_right _ _ (by omega), h7, Nat.sub_self, List.drop_eq_getElem_cons (by omega), List.set_cons_zero, h8, List.replicate_succ']
      simp
    have hXe : j = i → done ++ List.replicate (j - done.length) (mixL p l.sights.xs[i].letters) ++ (O ++ [mixL p l.sights.xs[i].letters]).drop j = done ++ List.replicate (i + 1 - done.length) (mixL p l.sights.xs[i].letters) := fun h => by
      subst h
      have h8 : j + 1 - done.length = (j - done.length) + 1 := by omega
      rw [h8, List.replicate_succ', List.drop_left' hol, List.append_assoc]
    have hXs' : Hide _ := ⟨hXs⟩
    have hXe' : Hide _ := ⟨hXe⟩
    clear hXs hXe
    obtain ⟨X, hX⟩ : ∃ X, X = done ++ List.replicate (j - done.length) (mixL p l.sights.xs[i].letters) ++ (O ++ [mixL p l.sights.xs[i].letters]).drop j := ⟨_, rfl⟩
    rw [← hX] at hg3 hXl hXs' hXe'
    clear hX
    have hid3 := nx_of_get hg3
    have hX2 : j < i → j < i + 1 := fun h => by omega
    subst hid2
    (repeat' first | simp [*, initEnv] | (refine wpIf_two (fun _ h => ?_) (fun _ h => ?_) <;> try simp [-Nat.le_zero_eq] at h) | (apply wpE_appendV; (focus (first | assumption | (repeat' first | assumption | with_reducible apply GrowV.setNew | with_reducible apply GrowV.alloc | with_reducible apply GrowV.set | (with_reducible show ¬ Names _ _; simp [*]; done)))); (focus (exact fun _ => rfl)); (focus decide); (focus (intro a; first | rfl | simp)); (focus (simp [maxCells] <;> omega))) | (refine after_intro fun v2 H2 hv2 hnx2 hget2 hnew2 hone2 hcel2 => ?_))
    · exact ⟨j + 1, by omega, by simp, by omega, by omega, by rw [hXs'.h (by assumption), List.append_assoc]⟩
    · have hji : j = i := by omega
      rw [hXe'.h hji] at hg3 hXl
      refine ⟨i + 1, by omega, by simp, by omega, done, rfl, mixL p l.sights.xs[i].letters, ⟨⟨by omega, ⟨.inr ⟨id2, by rw [hXl], hg3⟩, fun e => by rw [e] at hXl; simp at hXl⟩, ⟨?_⟩⟩, by omega⟩⟩
      have h8 : i + 1 - done.length = (i - done.length) + 1 := by omega
      rw [hn.h, gd'.h hml, goL, if_neg hk, if_pos hag, h8]
      simp
  · have hml : i < l.sights.xs.length := by assumption
    have hk : ¬ c.xs[i - 1]'(hi2 hml) = 2 := by assumption
    rw [hP.h, hn.h, gd'.h hml, goL_none hk (by assumption)]
    rfl
  · have he : i = l.sights.xs.length := by omega
    rw [hP.h, hn.h, gapsL_end hc (by omega), goL]
    simp [letPV, hOh.h]
@[simp] theorem d89 (n : Nat) (H : Heap) (l_habit_step : Int) (l_habit_place : Int) (l_habit_sink : Int) (l_sights : Sl Sight) (l_notes : Sl Note) (c : Sl Int) (hc : (fun (l : Life) => c.xs.length + 1 = l.sights.xs.length) (⟨⟨l_habit_step, l_habit_place, l_habit_sink⟩, l_sights, l_notes⟩ : Life)) (h9 : (fun (l : Life) => l.sights.xs.length ≤ 9) (⟨⟨l_habit_step, l_habit_place, l_habit_sink⟩, l_sights, l_notes⟩ : Life)) (hl : (fun (l : Life) => ∀ s ∈ l.sights.xs, s.letters.length ≤ 20) (⟨⟨l_habit_step, l_habit_place, l_habit_sink⟩, l_sights, l_notes⟩ : Life)) : doCall (calleeOf G (n + 4)) H (.pure (.func 89 [])) [.pure (.agg [.int .i64 l_habit_step, .int .i64 l_habit_place, .int .i64 l_habit_sink, (l_sights).pv Sight.cells 9, (l_notes).pv Note.cells 4]), .pure (c.pv intF 1)] = some (.val (.pure ((fun (l : Life) => letPV (lettersS l.sights.xs c.xs)) (⟨⟨l_habit_step, l_habit_place, l_habit_sink⟩, l_sights, l_notes⟩ : Life)))) :=
  call_pureC (ps := [_, _]) (caps := []) sh89 (e89 n (⟨⟨l_habit_step, l_habit_place, l_habit_sink⟩, l_sights, l_notes⟩ : Life) c hc h9 hl)
end Go.Proofs.YtjjkgamklbgnlaaGreat.Vm
