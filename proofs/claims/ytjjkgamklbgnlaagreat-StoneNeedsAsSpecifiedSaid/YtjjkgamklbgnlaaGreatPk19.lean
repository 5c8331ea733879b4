/- The chapter's examples: sanity() returns true, by the machine's own run in the kernel. StoneNeedsAsSpecified answers true on all data, for the machine of values. -/
import Derived.Test.YtjjkgamklbgnlaaGreatPk13
import Derived.KernelRfl
import Derived.Test.YtjjkgamklbgnlaaGreatPk18
namespace Go.Proofs.YtjjkgamklbgnlaaGreat.Vm
open Go
theorem sanity_run : callP G 60 8 [] = some (.bool true) := by kernel_rfl
end Go.Proofs.YtjjkgamklbgnlaaGreat.Vm

namespace Go.Proofs.YtjjkgamklbgnlaaGreat.Vm
open Go
set_option linter.unusedSimpArgs false
set_option linter.unusedVariables false
set_option maxHeartbeats 4000000
theorem sh_sanity : G.shared 8 = false := by decide
@[simp] theorem d_sanity (H : Heap) : doCall (calleeOf G 60) H (.pure (.func 8 [])) [] = some (.val (.pure (.bool true))) := call_pure (ps := []) sh_sanity sanity_run

theorem lawNeeds (l : Life) (hs : shortS l) : ∃ (K : Sl Int) (e : Int), K.xs.length < 1000 ∧ (∀ H, doCall (calleeOf G 60) H (.pure (.func 25 [])) [.pure (.agg l.cells)] = some (.val (.pure (.tup [K.pv intF 1, .int .i64 e])))) ∧ (∀ H, doCall (calleeOf G 60) H (.pure (.func 26 [])) [.pure (.agg l.cells)] = some (.val (.pure (.agg [K.pv intF 1, .int .i64 e])))) := by
  have h1 : ∀ H, doCall (calleeOf G 60) H (.pure (.func 25 [])) [.pure (.agg l.cells)] = some (.val (.pure (if checkS l = 0 then .tup [(Sl.of (isort (needsL l))).pv intF 1, .int .i64 0] else .tup [.nils, .int .i64 (checkS l)]))) := fun H => d25 48 H l.habit.step l.habit.place l.habit.sink l.sights l.notes hs
  have h2 : ∀ H, doCall (calleeOf G 60) H (.pure (.func 26 [])) [.pure (.agg l.cells)] = some (.val (.pure (.agg (if checkS l = 0 then [(Sl.of (isort (needTo l (l.sights.xs.length + l.notes.xs.length)))).pv intF 1, .int .i64 0] else [.nils, .int .i64 (checkS l)])))) := fun H => d26 50 H l.habit.step l.habit.place l.habit.sink l.sights l.notes hs
  by_cases hg : checkS l = 0
  · have hr := (right_iff l).1 hg
    have h9 := hr.nine
    have h20 := hr.notes
    simp only [if_pos hg] at h1 h2
    rw [needs_eq hr] at h2
    refine ⟨_, _, ?_, h1, h2⟩
    have := isort_length (needsL l)
    have := needTo_length l (l.sights.xs.length + l.notes.xs.length)
    rw [needs_eq hr] at this
    simp; omega
  · simp only [if_neg hg] at h1 h2
    exact ⟨.nil, _, by simp, h1, h2⟩
theorem needs_law (l : Life) : callP G 61 4 [.agg l.cells] = some (.bool true) := by
  refine callP_of (n := 60) (ext_none _) rfl g4 rfl ?_
  have hfew : ∀ H, doCall (calleeOf G 60) H (.pure (.func 7 [])) [.pure (.agg l.cells)] = some (.val (.pure (.bool (fewS l)))) := fun H => d7 59 H l.habit.step l.habit.place l.habit.sink l.sights l.notes
  by_cases hf : fewS l = true
  · have hs := few_short hf
    obtain ⟨K, e2, k0, k1, k2⟩ := lawNeeds l hs
    rw [hf] at hfew
    clear hs hf
    simp only [Life.cells] at k1 k2 hfew
    (repeat' first | simp [*, initEnv, c4] | (refine wpIf_two (fun _ h => ?_) (fun _ h => ?_) <;> try simp [-Nat.le_zero_eq] at h) | (apply wpE_appendV; (focus (first | assumption | (repeat' first | assumption | with_reducible apply GrowV.setNew | with_reducible apply GrowV.alloc | with_reducible apply GrowV.set | (with_reducible show ¬ Names _ _; simp [*]; done)))); (focus (exact fun _ => rfl)); (focus decide); (focus (intro a; first | rfl | simp)); (focus (simp [maxCells] <;> omega))) | (refine after_intro fun v2 H2 hv2 hnx2 hget2 hnew2 hone2 hcel2 => ?_))
  · simp only [Bool.not_eq_true] at hf
    rw [hf] at hfew
    simp only [Life.cells] at hfew
    (repeat' first | simp [*, initEnv, c4] | (refine wpIf_two (fun _ h => ?_) (fun _ h => ?_) <;> try simp [-Nat.le_zero_eq] at h) | (apply wpE_appendV; (focus (first | assumption | (repeat' first | assumption | with_reducible apply GrowV.setNew | with_reducible apply GrowV.alloc | with_reducible apply GrowV.set | (with_reducible show ¬ Names _ _; simp [*]; done)))); (focus (exact fun _ => rfl)); (focus decide); (focus (intro a; first | rfl | simp)); (focus (simp [maxCells] <;> omega))) | (refine after_intro fun v2 H2 hv2 hnx2 hget2 hnew2 hone2 hcel2 => ?_))
end Go.Proofs.YtjjkgamklbgnlaaGreat.Vm
