/- The chapter's examples: sanity() returns true, by the machine's own run in the kernel. StoneTruthsAsSpecified answers true on all data, for the machine of values. -/
import Derived.Test.YtnomliioadjdgaaGreatPk14
import Derived.KernelRfl
import Derived.Test.YtnomliioadjdgaaGreatPk17
import Derived.Test.YtnomliioadjdgaaGreatPk16
namespace Go.Proofs.YtnomliioadjdgaaGreat.Vm
open Go
theorem sanity_run : callP G 60 9 [] = some (.bool true) := by kernel_rfl
end Go.Proofs.YtnomliioadjdgaaGreat.Vm

namespace Go.Proofs.YtnomliioadjdgaaGreat.Vm
open Go
set_option linter.unusedSimpArgs false
set_option linter.unusedVariables false
set_option maxHeartbeats 4000000
theorem sh_sanity : G.shared 9 = false := by decide
@[simp] theorem d_sanity (H : Heap) : doCall (calleeOf G 60) H (.pure (.func 9 [])) [] = some (.val (.pure (.bool true))) := call_pure (ps := []) sh_sanity sanity_run

def lightS (x : Lived) : Bool := allL (fun t => decide (t.length ≤ 20)) x.letters.xs && (decide (x.points.xs.length ≤ 20) && decide (x.letters.xs.length ≤ 20) && decide (x.heights.xs.length ≤ 20) && decide (x.course.xs.length ≤ 20))
theorem sh19 : G.shared 19 = false := by decide
theorem e19 (n : Nat) (x : Lived) (hx : x.letters.xs.length ≤ 9223372036854775807) : callP G (n + 1) 19 [.agg x.cells] = some (.bool (lightS x)) := by
  refine callP_of (ext_none _) rfl g19 rfl ?_
  obtain ⟨P, hPe⟩ : ∃ P, P = lightS x := ⟨_, rfl⟩
  rw [← hPe]
  have hP : Hide _ := ⟨hPe⟩
  clear hPe
  (repeat' first | simp [*, initEnv, c19] | (refine wpIf_two (fun _ h => ?_) (fun _ h => ?_) <;> try simp [-Nat.le_zero_eq] at h) | (apply wpE_appendV; (focus (first | assumption | (repeat' first | assumption | with_reducible apply GrowV.setNew | with_reducible apply GrowV.alloc | with_reducible apply GrowV.set | (with_reducible show ¬ Names _ _; simp [*]; done)))); (focus (exact fun _ => rfl)); (focus decide); (focus (intro a; first | rfl | simp)); (focus (simp [maxCells] <;> omega))) | (refine after_intro fun v2 H2 hv2 hnx2 hget2 hnew2 hone2 hcel2 => ?_))
  refine wp_loopF [(2, 17)] (fun (i : Nat) env H => env 3 = .pure (.int .i64 i) ∧ i ≤ x.letters.xs.length ∧ Hide (allL (fun t => decide (t.length ≤ 20)) x.letters.xs = allL (fun t => decide (t.length ≤ 20)) (x.letters.xs.drop i))) (fun i => x.letters.xs.length - i) 0 ?_ ?_ ?_ ?_
  · decide
  · exact ⟨by simp, by omega, ⟨rfl⟩⟩
  · simp only [loopFuel]; omega
  rintro i env H ⟨h3, hi, hn⟩
  by_cases hlt : i < x.letters.xs.length
  · have hfit : i < 9223372036854775807 := by omega
    (repeat' first | simp [*, initEnv] | (refine wpIf_two (fun _ h => ?_) (fun _ h => ?_) <;> try simp [-Nat.le_zero_eq] at h) | (apply wpE_appendV; (focus (first | assumption | (repeat' first | assumption | with_reducible apply GrowV.setNew | with_reducible apply GrowV.alloc | with_reducible apply GrowV.set | (with_reducible show ¬ Names _ _; simp [*]; done)))); (focus (exact fun _ => rfl)); (focus decide); (focus (intro a; first | rfl | simp)); (focus (simp [maxCells] <;> omega))) | (refine after_intro fun v2 H2 hv2 hnx2 hget2 hnew2 hone2 hcel2 => ?_))
    · have hf : decide (x.letters.xs[i].length ≤ 20) = false := by simp; omega
      rw [hP.h, lightS, hn.h, allL_drop hlt, hf]; rfl
    · have hf : decide (x.letters.xs[i].length ≤ 20) = true := by simp; omega
      exact ⟨i + 1, by omega, by omega, by omega, ⟨by rw [hn.h, allL_drop hlt, hf]; rfl⟩⟩
  · have hP2 : P = (decide (x.points.xs.length ≤ 20) && decide (x.letters.xs.length ≤ 20) && decide (x.heights.xs.length ≤ 20) && decide (x.course.xs.length ≤ 20)) := by rw [hP.h, lightS, hn.h, allL_end (by omega)]; rfl
    have hn' : i = x.letters.xs.length := by omega
    clear hP hn
    subst hP2
    (repeat' first | simp [*, initEnv] | (refine wpIf_two (fun _ h => ?_) (fun _ h => ?_) <;> try simp [-Nat.le_zero_eq] at h) | (apply wpE_appendV; (focus (first | assumption | (repeat' first | assumption | with_reducible apply GrowV.setNew | with_reducible apply GrowV.alloc | with_reducible apply GrowV.set | (with_reducible show ¬ Names _ _; simp [*]; done)))); (focus (exact fun _ => rfl)); (focus decide); (focus (intro a; first | rfl | simp)); (focus (simp [maxCells] <;> omega))) | (refine after_intro fun v2 H2 hv2 hnx2 hget2 hnew2 hone2 hcel2 => ?_))
    all_goals first
      | (intros; omega)
      | (rw [Bool.eq_iff_iff]; simp only [Bool.and_eq_true, decide_eq_true_eq]; omega)
@[simp] theorem d19 (n : Nat) (H : Heap) (x_points : Sl Pt) (x_letters : Sl (List UInt8)) (x_heights : Sl Int) (x_course : Sl Int) (hx : (fun (x : Lived) => x.letters.xs.length ≤ 9223372036854775807) (⟨x_points, x_letters, x_heights, x_course⟩ : Lived)) : doCall (calleeOf G (n + 1)) H (.pure (.func 19 [])) [.pure (.agg [(x_points).pv Pt.cells 2, (x_letters).pv strF 1, (x_heights).pv intF 1, (x_course).pv intF 1])] = some (.val (.pure ((fun (x : Lived) => .bool (lightS x)) (⟨x_points, x_letters, x_heights, x_course⟩ : Lived)))) :=
  call_pureC (ps := [_]) (caps := []) sh19 (e19 n (⟨x_points, x_letters, x_heights, x_course⟩ : Lived) hx)
theorem light_small {x : Lived} (h : lightS x = true) : (∀ t ∈ x.letters.xs, t.length ≤ 20) ∧ x.course.xs.length ≤ 20 := by
  simp only [lightS, Bool.and_eq_true, decide_eq_true_eq] at h
  exact ⟨fun t ht => by simpa using allL_iff.1 h.1 t ht, h.2.2⟩
theorem true_law (l : Life) (x : Lived) (hx : x.letters.xs.length ≤ 9223372036854775807) : callP G 61 5 [.agg l.cells, .agg x.cells] = some (.bool true) := by
  refine callP_of (n := 60) (ext_none _) rfl g5 rfl ?_
  have hfew : ∀ H, doCall (calleeOf G 60) H (.pure (.func 8 [])) [.pure (.agg l.cells)] = some (.val (.pure (.bool (fewS l)))) := fun H => d8 59 H l.habit.step l.habit.place l.habit.sink l.sights l.notes
  have hlight : ∀ H, doCall (calleeOf G 60) H (.pure (.func 19 [])) [.pure (.agg x.cells)] = some (.val (.pure (.bool (lightS x)))) := fun H => d19 59 H x.points x.letters x.heights x.course hx
  simp only [Life.cells] at hfew
  simp only [Lived.cells] at hlight
  by_cases hf : fewS l = true
  case neg =>
    simp only [Bool.not_eq_true] at hf
    rw [hf] at hfew
    (repeat' first | simp [*, initEnv, c5] | (refine wpIf_two (fun _ h => ?_) (fun _ h => ?_) <;> try simp [-Nat.le_zero_eq] at h) | (apply wpE_appendV; (focus (first | assumption | (repeat' first | assumption | with_reducible apply GrowV.setNew | with_reducible apply GrowV.alloc | with_reducible apply GrowV.set | (with_reducible show ¬ Names _ _; simp [*]; done)))); (focus (exact fun _ => rfl)); (focus decide); (focus (intro a; first | rfl | simp)); (focus (simp [maxCells] <;> omega))) | (refine after_intro fun v2 H2 hv2 hnx2 hget2 hnew2 hone2 hcel2 => ?_))
  by_cases hg : lightS x = true
  case neg =>
    simp only [Bool.not_eq_true] at hg
    rw [hg] at hlight
    rw [hf] at hfew
    (repeat' first | simp [*, initEnv, c5] | (refine wpIf_two (fun _ h => ?_) (fun _ h => ?_) <;> try simp [-Nat.le_zero_eq] at h) | (apply wpE_appendV; (focus (first | assumption | (repeat' first | assumption | with_reducible apply GrowV.setNew | with_reducible apply GrowV.alloc | with_reducible apply GrowV.set | (with_reducible show ¬ Names _ _; simp [*]; done)))); (focus (exact fun _ => rfl)); (focus decide); (focus (intro a; first | rfl | simp)); (focus (simp [maxCells] <;> omega))) | (refine after_intro fun v2 H2 hv2 hnx2 hget2 hnew2 hone2 hcel2 => ?_))
  have hs := few_short hf
  obtain ⟨hx1, hx2⟩ := light_small hg
  have hx3 : x.course.xs.length < 1000 := by omega
  rw [hf] at hfew
  rw [hg] at hlight
  clear hf hg
  have h1 : ∀ H, doCall (calleeOf G 60) H (.pure (.func 20 [])) [.pure (.agg l.cells), .pure (.agg x.cells)] = some (.val (.pure (trueP (trueR l x)))) := fun H => d20 53 H l.habit.step l.habit.place l.habit.sink l.sights l.notes x.points x.letters x.heights x.course hs hx3
  have h2 : ∀ H, doCall (calleeOf G 60) H (.pure (.func 21 [])) [.pure (.agg l.cells), .pure (.agg x.cells)] = some (.val (.pure (trueA (trueR l x)))) := fun H => d21 53 H l.habit.step l.habit.place l.habit.sink l.sights l.notes x.points x.letters x.heights x.course hs hx3 hx1
  simp only [Life.cells, Lived.cells] at h1 h2
  clear hs hx1 hx2 hx3
  generalize trueR l x = r at *
  obtain ⟨r1, r2, r3⟩ := r
  simp only [trueP, trueA] at h1 h2
  (repeat' first | simp [*, initEnv, c5] | (refine wpIf_two (fun _ h => ?_) (fun _ h => ?_) <;> try simp [-Nat.le_zero_eq] at h) | (apply wpE_appendV; (focus (first | assumption | (repeat' first | assumption | with_reducible apply GrowV.setNew | with_reducible apply GrowV.alloc | with_reducible apply GrowV.set | (with_reducible show ¬ Names _ _; simp [*]; done)))); (focus (exact fun _ => rfl)); (focus decide); (focus (intro a; first | rfl | simp)); (focus (simp [maxCells] <;> omega))) | (refine after_intro fun v2 H2 hv2 hnx2 hget2 hnew2 hone2 hcel2 => ?_))
end Go.Proofs.YtnomliioadjdgaaGreat.Vm
