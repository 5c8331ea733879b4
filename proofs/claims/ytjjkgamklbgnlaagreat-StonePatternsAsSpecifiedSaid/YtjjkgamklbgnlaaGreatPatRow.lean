/- 'boundstonelaw05.StonePatternsAsSpecified': whatever the input, the call returns true, and each argument reads afterwards as it read before.
   No conditions. -/
import Derived.Test.YtjjkgamklbgnlaaGreatPatLaw
import Derived.Test.YtjjkgamklbgnlaaGreatData
namespace Go.Proofs.YtjjkgamklbgnlaaGreat
open Go Go.ChangeShapes Go.WideShapes Go.ChangeAt Go.RowKit Go.Proofs.YtjjkgamklbgnlaaGreat.Vm
open Go.ChangeMaps (open_string shut_string)
set_option linter.unusedVariables false

theorem own : ownKnob Tryz.prog.godebug = none := by kernel_rfl
theorem laidOut : laidOutB Tryz.prog = true := by kernel_rfl

theorem patWalk (p q : List UInt8) (s : Sight) (w : World) : Calls Tryz.prog 6 #[.string ⟨p.toArray⟩, .string ⟨q.toArray⟩, .agg #[.int .i64 s.id, .int .i64 s.year, .int .i64 s.box.x.lo, .int .i64 s.box.x.hi, .int .i64 s.box.y.lo, .int .i64 s.box.y.hi, .string ⟨s.letters.toArray⟩, .int .i64 s.height.lo, .int .i64 s.height.hi]] w
    fun e w' => e = .returned (.bool true) ∧ Below w.heap.size w w' := by
  have h := (callP_sound gOk (patterns_law p q s)).2 0 (fun _ b => b < w.heap.size) w [.string ⟨p.toArray⟩, .string ⟨q.toArray⟩, .agg #[.int .i64 s.id, .int .i64 s.year, .int .i64 s.box.x.lo, .int .i64 s.box.x.hi, .int .i64 s.box.y.lo, .int .i64 s.box.y.hi, .string ⟨s.letters.toArray⟩, .int .i64 s.height.lo, .int .i64 s.height.hi]]
    (fun _ _ h => h) (.cons (.str _) (.cons (.str _) (.cons (rep_agg (rep_sight s)) .nil)))
  refine (callsIn_wide.1 h).mono fun e w' ⟨v, he, hb, hv⟩ => ?_
  rw [hv.bool_inv] at he
  exact ⟨he, hb⟩

set_option maxRecDepth 100000 in
theorem patLifted (os : Os) (started : os.Started) (H : Type) (enc : TypeId × Value → H) :
    ReturnsInHanded {} Tryz.checked os 6 .any (Rows.stonePatternsAsSpecifiedSpec.pre6 enc Tryz.prog Tryz.f6 Rows.stonePatternsAsSpecifiedRow.domain false) (Rows.stonePatternsAsSpecifiedSpec.post enc Tryz.prog Tryz.f6 false true false false) := by
  refine returnsInHanded_of_change (C := Tryz.checked) own started (by kernel_rfl) Tryz.func6
    (ChangeSpec.witness6 (enc := enc) (C := Tryz.checked) false ⟨#[], #[.string ⟨#[]⟩, .string ⟨#[]⟩, .agg #[.int .i64 0, .int .i64 0, .int .i64 0, .int .i64 0, .int .i64 0, .int .i64 0, .string ⟨#[]⟩, .int .i64 0, .int .i64 0]], []⟩ 8 (by kernel_rfl) (by kernel_rfl) (by kernel_rfl) (by kernel_rfl)) ?_
  intro W base args ds gs before hval0 hW hcnd _
  have hval : ∀ (j : Nat) t v, Tryz.f6.params[j]? = some t → args[j]? = some v → Value.okWide Tryz.prog W .any base t v := hval0
  have hW' := hW
  obtain ⟨p, q, hA0, hV, rfl, hfz, hnd⟩ := hW
  have hA : DataW.TrodAll enc Tryz.prog W 0 (fun _ => true) true Tryz.f6.params.toList args.toList ds p := hA0
  rw [Tryz.params6] at hA hval
  obtain ⟨v0, vs0, d0, ds0, p0, q0, hargs, rfl, rfl, h0, r0⟩ := trodAll_cons hA
  obtain ⟨v1, vs1, d1, ds1, p1, q1, rfl, rfl, rfl, h1, r1⟩ := trodAll_cons r0
  obtain ⟨v2, vs2, d2, ds2, p2, q2, rfl, rfl, rfl, h2, r2⟩ := trodAll_cons r1
  obtain ⟨rfl, rfl, rfl⟩ := trodAll_nil r2
  obtain rfl : args = #[v0, v1, v2] := by cases args; simp_all
  obtain ⟨rfl, rfl⟩ := trodVars_none hV
  obtain ⟨s0, rfl, rfl, rfl, w0⟩ := open_string Tryz.underlying9 (hval 0 9 v0 rfl rfl) h0
  obtain ⟨s1, rfl, rfl, rfl, w1⟩ := open_string Tryz.underlying9 (hval 1 9 v1 rfl rfl) h1
  have k2 := h2
  have lt2 : ∀ x ∈ p2, x.block < W.heap.size := by obtain ⟨m, hm⟩ := k2; exact DataW.trod_lt m _ _ _ hm
  obtain ⟨s, rfl⟩ : ∃ s : Sight, v2 = .agg #[.int .i64 s.id, .int .i64 s.year, .int .i64 s.box.x.lo, .int .i64 s.box.x.hi, .int .i64 s.box.y.lo, .int .i64 s.box.y.hi, .string ⟨s.letters.toArray⟩, .int .i64 s.height.lo, .int .i64 s.height.hi] := by
    have hok := hval 2 64 v2 rfl rfl
    unfold Value.okWide at hok
    simp only [Tryz.underlying64] at hok
    obtain ⟨cs, rfl, _, _⟩ := hok
    obtain ⟨fuel, hf⟩ := h2
    obtain ⟨s, hs⟩ := rd_sight hf
    refine ⟨s, ?_⟩
    congr 1
    apply Array.ext'
    simpa [Value.cells] using hs
  clear hA0 hval0
  refine (patWalk s0.data.toList s1.data.toList s W).mono fun e W' ⟨he, bel⟩ => ?_
  subst he
  exact ⟨_, rfl, _, _, _, [], _, [], hW', trodAll_mk1 (shut_bool Tryz.underlying4 _), (trodAll_cons_mk (shut_string Tryz.underlying9 w0) (trodAll_cons_mk (shut_string Tryz.underlying9 w1) (trodAll_cons_mk (Below.trod laidOut (by kernel_rfl) (of_decide_eq_true (by kernel_rfl)) k2 bel lt2) trodAll_mk0))), rfl, bel.frame _, fun h => by cases h⟩

theorem patterns_over : Rows.stonePatternsAsSpecifiedRow.holds Tryz.pinned (OpenSpec.ofChange Rows.stonePatternsAsSpecifiedSpec) :=
  OpenClaim.holds_of_wide 6 Tryz.f6 rfl rfl rfl rfl rfl rfl rfl ⟨rfl, rfl, rfl, rfl, rfl⟩ rfl rfl rfl rfl rfl (by kernel_rfl) Tryz.func6 (by kernel_rfl)
    (of_decide_eq_true (by kernel_rfl)) (by unfold Func.isWrapper; first | (rw [if_pos (by decide +kernel)]; kernel_rfl) | (rw [if_neg (by decide +kernel)]; exact ⟨rfl, rfl⟩))
    (fun os started H enc _ => patLifted os started H enc)

theorem patterns_proved : Rows.StonePatternsAsSpecifiedSaid := patterns_over
#print axioms patterns_proved
end Go.Proofs.YtjjkgamklbgnlaaGreat
