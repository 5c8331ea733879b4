/- The chapter's examples: sanity() returns true, by the machine's own run in the kernel. StoneExtentsAsSpecified answers true on all data, for the machine of values. -/
import Derived.Test.YtnomliioadjdgaaGreatPk14
import Derived.KernelRfl
import Derived.Test.YtnomliioadjdgaaGreatPk17
namespace Go.Proofs.YtnomliioadjdgaaGreat.Vm
open Go
theorem sanity_run : callP G 60 9 [] = some (.bool true) := by kernel_rfl
end Go.Proofs.YtnomliioadjdgaaGreat.Vm

namespace Go.Proofs.YtnomliioadjdgaaGreat.Vm
open Go
set_option linter.unusedSimpArgs false
set_option linter.unusedVariables false
set_option maxHeartbeats 4000000
theorem sh_sanity : G.shared 9 = false := by decide
@[simp] theorem d_sanity (H : Heap) : doCall (calleeOf G 60) H (.pure (.func 9 [])) [] = some (.val (.pure (.bool true))) := call_pure (ps := []) sh_sanity sanity_run

theorem ext_same (l : Life) (most : Int) : ∃ (K : Sl Box) (e : Int), K.xs.length < 1000 ∧ extE l most = .tup [K.pv Box.cells 4, .int .i64 e] ∧ extRE l most = [K.pv Box.cells 4, .int .i64 e] := by
  unfold extE extRE
  by_cases hck : checkS l = 0
  · rw [if_pos hck, if_pos hck]
    by_cases hm : most < 0
    · rw [if_pos hm, if_pos hm]; exact ⟨.nil, 1, by simp, rfl, rfl⟩
    · rw [if_neg hm, if_neg hm]
      cases ho : extL l most with
      | none => exact ⟨.nil, 9, by simp, rfl, rfl⟩
      | some B =>
        have hr := (right_iff l).1 hck
        have := (extL_ok hr ho).1
        have := hr.nine
        exact ⟨.mk false B, 0, by simp; omega, rfl, rfl⟩
  · rw [if_neg hck, if_neg hck]; exact ⟨.nil, _, by simp, rfl, rfl⟩
theorem ext_law (l : Life) (y most : Int) : callP G 61 3 [.agg l.cells, .int .i64 y, .int .i64 most] = some (.bool true) := by
  refine callP_of (n := 60) (ext_none _) rfl g3 rfl ?_
  have hfew : ∀ H, doCall (calleeOf G 60) H (.pure (.func 8 [])) [.pure (.agg l.cells)] = some (.val (.pure (.bool (fewS l)))) := fun H => d8 59 H l.habit.step l.habit.place l.habit.sink l.sights l.notes
  simp only [Life.cells] at hfew
  by_cases hf : fewS l = true
  case neg =>
    simp only [Bool.not_eq_true] at hf
    rw [hf] at hfew
    (repeat' first | simp [*, initEnv, c3] | (refine wpIf_two (fun _ h => ?_) (fun _ h => ?_) <;> try simp [-Nat.le_zero_eq] at h) | (apply wpE_appendV; (focus (first | assumption | (repeat' first | assumption | with_reducible apply GrowV.setNew | with_reducible apply GrowV.alloc | with_reducible apply GrowV.set | (with_reducible show ¬ Names _ _; simp [*]; done)))); (focus (exact fun _ => rfl)); (focus decide); (focus (intro a; first | rfl | simp)); (focus (simp [maxCells] <;> omega))) | (refine after_intro fun v2 H2 hv2 hnx2 hget2 hnew2 hone2 hcel2 => ?_))
  have hs := few_short hf
  rw [hf] at hfew
  clear hf
  obtain ⟨K, e, hK, he1, he2⟩ := ext_same l most
  have h1 : ∀ H, doCall (calleeOf G 60) H (.pure (.func 10 [])) [.pure (.agg l.cells), .pure (.int .i64 most)] = some (.val (.pure (extE l most))) := fun H => d10 49 H l.habit.step l.habit.place l.habit.sink l.sights l.notes most hs
  have h2 : ∀ H, doCall (calleeOf G 60) H (.pure (.func 11 [])) [.pure (.agg l.cells), .pure (.int .i64 most)] = some (.val (.pure (.agg (extRE l most)))) := fun H => d11 51 H l.habit.step l.habit.place l.habit.sink l.sights l.notes most hs
  have h3 : ∀ H, doCall (calleeOf G 60) H (.pure (.func 12 [])) [.pure (.agg l.cells), .pure (.int .i64 y), .pure (.int .i64 most)] = some (.val (.pure (.tup [.agg (inS l y most).1.cells, .int .i64 (inS l y most).2]))) := fun H => d12 48 H l.habit.step l.habit.place l.habit.sink l.sights l.notes y most hs
  have h4 : ∀ H, doCall (calleeOf G 60) H (.pure (.func 13 [])) [.pure (.agg l.cells), .pure (.int .i64 y), .pure (.int .i64 most)] = some (.val (.pure (.tup [.agg (inS l y most).1.cells, .int .i64 (inS l y most).2]))) := fun H => d13 51 H l.habit.step l.habit.place l.habit.sink l.sights l.notes y most hs
  rw [he1] at h1
  rw [he2] at h2
  simp only [Life.cells, Box.cells] at h1 h2 h3 h4
  clear he1 he2 hs
  generalize (inS l y most).1 = I at *
  generalize (inS l y most).2 = J at *
  (repeat' first | simp [*, initEnv, c3, st_aggEq, cellsEq, isAggV] | (refine wpIf_two (fun _ h => ?_) (fun _ h => ?_) <;> try simp [-Nat.le_zero_eq] at h) | (apply wpE_appendV; (focus (first | assumption | (repeat' first | assumption | with_reducible apply GrowV.setNew | with_reducible apply GrowV.alloc | with_reducible apply GrowV.set | (with_reducible show ¬ Names _ _; simp [*]; done)))); (focus (exact fun _ => rfl)); (focus decide); (focus (intro a; first | rfl | simp)); (focus (simp [maxCells] <;> omega))) | (refine after_intro fun v2 H2 hv2 hnx2 hget2 hnew2 hone2 hcel2 => ?_))
end Go.Proofs.YtnomliioadjdgaaGreat.Vm
