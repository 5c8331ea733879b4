/- StonePatternsAsSpecified answers true on all data, for the machine of values. -/
import Derived.Test.YtjjkgamklbgnlaaGreatPatWalk
import Derived.Test.YtjjkgamklbgnlaaGreatSanity
namespace Go.Proofs.YtjjkgamklbgnlaaGreat.Vm
open Go
set_option linter.unusedSimpArgs false
set_option linter.unusedVariables false
theorem sh_sanity : G.shared 8 = false := by decide
@[simp] theorem d_sanity (H : Heap) : doCall (calleeOf G 60) H (.pure (.func 8 [])) [] = some (.val (.pure (.bool true))) := call_pure (ps := []) sh_sanity sanity_run

theorem patterns_law (p q : List UInt8) (s : Sight) : callP G 61 6 [.str ⟨p.toArray⟩, .str ⟨q.toArray⟩, .agg s.cells] = some (.bool true) := by
  refine callP_of (n := 60) (ext_none _) g6 rfl ?_
  have ec : ∀ H, doCall (calleeOf G 60) H (.pure (.func 34 [])) [.pure (.agg s.cells)] = some (.val (.pure (.int .i64 (if sightS s = true then 0 else 1)))) := fun H => d34 56 H s
  have er : ∀ H, s.letters.length < 1152921504606846975 → doCall (calleeOf G 60) H (.pure (.func 35 [])) [.pure (.agg s.cells)] = some (.val (.pure (.int .i64 (if sightR s = true then 0 else 1)))) := fun H hl => d35 56 H s hl
  simp only [Sight.cells] at ec er
  (repeat' first | simp [*, initEnv, c6, Sight.cells] | (refine wpIf_two (fun _ h => ?_) (fun _ h => ?_) <;> try simp at h))
  have hp : p.length < 1152921504606846975 := by omega
  have hq : q.length < 1152921504606846975 := by omega
  have hs : s.letters.length < 1152921504606846975 := by omega
  have hr : ∀ l p, (patS false l && agreeR l p) = (noDot l && agreeR l p) := fun l p => by rw [← reads_same, agree_same]
  (repeat' first | simp [*, initEnv, blend_same, agree_same, hr, sightS_sightR, strP] | (refine wpIf_two (fun _ h => ?_) (fun _ h => ?_) <;> try simp at h))
end Go.Proofs.YtjjkgamklbgnlaaGreat.Vm
