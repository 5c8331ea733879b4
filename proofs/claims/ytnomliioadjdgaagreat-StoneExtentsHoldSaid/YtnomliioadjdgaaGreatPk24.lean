/- From what a life reads as, to the data of the machine of values. 'boundstonelaw05.StoneExtentsHold': whatever the input, the call returns true, and each argument reads afterwards as it read before.
   No conditions. -/
import Derived.Test.YtnomliioadjdgaaGreatPk23
import Derived.Test.YtnomliioadjdgaaGreatPk17
import Derived.Deep.Slices
import Derived.Test.YtnomliioadjdgaaGreatPk22
namespace Go.Proofs.YtnomliioadjdgaaGreat.Vm
open Go
set_option linter.unusedVariables false
set_option linter.unusedSimpArgs false
set_option maxRecDepth 100000
theorem choose_list {α : Type} {n : Nat} {Q : Nat → α → Prop} (h : ∀ i, i < n → ∃ a, Q i a) : ∃ xs : List α, xs.length = n ∧ ∀ (i : Nat) (hi : i < xs.length), Q i xs[i] := by
  induction n with
  | zero => exact ⟨[], rfl, fun i hi => by simp at hi⟩
  | succ n ih =>
    obtain ⟨xs, hl, hx⟩ := ih (fun i hi => h i (by omega))
    obtain ⟨a, ha⟩ := h n (by omega)
    refine ⟨xs ++ [a], by simp [hl], fun i hi => ?_⟩
    by_cases hc : i < xs.length
    · rw [List.getElem_append_left hc]; exact hx i hc
    · have : i = n := by simp at hi; omega
      subst this
      rw [List.getElem_append_right (by omega)]
      simpa [hl] using ha
section
variable {H : Type} {enc : TypeId × Value → H} {P : Program} {w : World} {sp : Nat → Bool} {held : Bool}
theorem cell_lt {w : World} {a : Addr} {v : Value} (h : w.cell? a = some v) : a.block < w.heap.size := by
  unfold World.cell? at h
  by_cases hb : a.block < w.heap.size
  · exact hb
  · rw [Array.getElem?_eq_none (by omega)] at h; simp at h
abbrev InW (w : World) : Bool → Nat → Prop := fun _ b => b < w.heap.size
/-- A slice opened as data. -/
theorem rd_sliceB {α : Type} {f : α → List PV} {sz : Nat} {t e : TypeId} (ht : P.underlying t = some (.slice e)) (hc : P.cellsOf e = sz) (hf : ∀ a, (f a).length = sz)
    (he : ∀ (n : Nat) (cs : List Value) (x : DataW H × List MemPlace), DataW.trod enc P w 0 sp held n e cs = some x → ∃ a : α, PReps (InW w) w (f a) cs)
    {n : Nat} {cs : List Value} {x : DataW H × List MemPlace} (h : DataW.trod enc P w 0 sp held n t cs = some x) (hs : ∀ a len cap, cs = [.slice (some a) len cap] → a.spot = none) :
    ∃ (s : Sl α) (v : Value), cs = [v] ∧ Rep (InW w) w (s.pv f sz) v ∧ s.xs.length ≤ 9223372036854775807 := by
  rcases Go.Deep.open_slice ht h with ⟨rfl, _⟩ | ⟨a, len, cap, m, k, D, Pl, rfl, _, hl, hm, hmm, _, hel⟩
  · exact ⟨.nil, _, rfl, .nils, by simp⟩
  · obtain ⟨b, o, spot⟩ := a
    have hspot : spot = none := hs _ _ _ rfl
    subst hspot
    have hlm : len ≤ m := by rw [hmm]; split <;> omega
    obtain ⟨xs, hxl, hx⟩ := choose_list (n := len) (Q := fun i (a : α) => ∃ cs', (∀ j, j < sz → w.cell? ⟨b, o + i * sz + j, none⟩ = cs'[j]?) ∧ PReps (InW w) w (f a) cs') (fun i hi => by
      obtain ⟨cs', h1, h2⟩ := hel i (by omega)
      obtain ⟨a, ha⟩ := he _ _ _ h2
      refine ⟨a, cs', fun j hj => ?_, ha⟩
      unfold World.cells? at h1
      split at h1
      · rw [hc] at h1
        have := mapM_some_get h1 j j (by simp [hj])
        rw [Go.Deep.add_add] at this
        rw [← this]
        congr 1
        unfold Addr.add
        split
        · rename_i h0
          have : i * sz = 0 ∧ j = 0 := by omega
          simp [this.1, this.2]
        · simp; omega
      · simp at h1)
    have main : ∀ (i : Nat) (e : List PV) (j : Nat) (p : PV), (xs.map f)[i]? = some e → e[j]? = some p → ∃ v, w.cell? ⟨b, o + i * sz + j, none⟩ = some v ∧ Rep (InW w) w p v := by
      intro i e j p h1 h2
      rw [List.getElem?_map, Option.map_eq_some_iff] at h1
      obtain ⟨a, h3, rfl⟩ := h1
      obtain ⟨hi, rfl⟩ := List.getElem?_eq_some_iff.1 h3
      obtain ⟨cs', h4, h5⟩ := hx i hi
      have hj : j < sz := by
        have := (List.getElem?_eq_some_iff.1 h2).1
        rw [hf] at this; exact this
      have hlc : cs'.length = sz := by rw [← h5.1, hf]
      have h6 := h4 j hj
      rw [List.getElem?_eq_getElem (by omega)] at h6
      exact ⟨_, h6, h5.2 j p _ h2 (List.getElem?_eq_getElem (by omega))⟩
    refine ⟨.mk false xs, _, rfl, ?_, by have hmx : maxLen = 9223372036854775807 := rfl; show xs.length ≤ _; omega⟩
    refine Rep.slice false sz (xs.map f) b o len cap (fun i j => (w.cell? ⟨b, o + i * sz + j, none⟩).getD .nilFunc) (by simp [hxl]) hl ?_ ?_ ?_
    · intro i e h1
      rw [List.getElem?_map, Option.map_eq_some_iff] at h1
      obtain ⟨a, _, rfl⟩ := h1
      exact hf a
    · intro i e j p h1 h2
      obtain ⟨v, h3, _⟩ := main i e j p h1 h2
      exact ⟨cell_lt h3, by rw [h3]; rfl⟩
    · intro i e j p h1 h2
      obtain ⟨v, h3, h4⟩ := main i e j p h1 h2
      rw [h3]; exact h4
theorem rd_slice {α : Type} {f : α → List PV} {sz : Nat} {t e : TypeId} (ht : P.underlying t = some (.slice e)) (hc : P.cellsOf e = sz) (hf : ∀ a, (f a).length = sz)
    (he : ∀ (n : Nat) (cs : List Value) (x : DataW H × List MemPlace), DataW.trod enc P w 0 sp held n e cs = some x → ∃ a : α, PReps (InW w) w (f a) cs)
    {n : Nat} {cs : List Value} {x : DataW H × List MemPlace} (h : DataW.trod enc P w 0 sp held n t cs = some x) (hs : ∀ a len cap, cs = [.slice (some a) len cap] → a.spot = none) :
    ∃ (s : Sl α) (v : Value), cs = [v] ∧ Rep (InW w) w (s.pv f sz) v := by
  obtain ⟨s, v, h1, h2, _⟩ := rd_sliceB ht hc hf he h hs
  exact ⟨s, v, h1, h2⟩
end
section
variable {H : Type} {enc : TypeId × Value → H} {w : World} {sp : Nat → Bool} {held : Bool} {n : Nat} {cs : List Value} {x : DataW H × List MemPlace}
theorem cellsNote : Tryz.prog.cellsOf 88 = 4 := by kernel_rfl
theorem cellsHabit : Tryz.prog.cellsOf 23 = 3 := by kernel_rfl
theorem cellsSights : Tryz.prog.cellsOf 24 = 1 := by kernel_rfl
theorem cellsNotes : Tryz.prog.cellsOf 25 = 1 := by kernel_rfl
theorem cellsLife : Tryz.prog.cellsOf 27 = 5 := by kernel_rfl
theorem rd_note (h : DataW.trod enc Tryz.prog w 0 sp held n 88 cs = some x) : ∃ s : Note, PReps (InW w) w s.cells cs := by
  obtain ⟨hl, m, hf⟩ := trod_fields Tryz.underlying88 h
  rw [cellsNote] at hl
  match cs, hl with
  | [c0, c1, c2, c3], _ =>
    simp only [List.toList_toArray, List.mem_cons, List.not_mem_nil, or_false, forall_eq_or_imp, forall_eq, cellsInt, List.drop, List.take] at hf
    obtain ⟨⟨y0, h0⟩, ⟨y1, h1⟩, ⟨y2, h2⟩, ⟨y3, h3⟩⟩ := hf
    obtain ⟨a, e0, _⟩ := rd_int h0
    obtain ⟨b, e1, _⟩ := rd_int h1
    obtain ⟨c, e2, _⟩ := rd_int h2
    obtain ⟨d, e3, _⟩ := rd_int h3
    simp at e0 e1 e2 e3
    subst e0 e1 e2 e3
    exact ⟨⟨a, b, c, d⟩, .cons (.int ..) <| .cons (.int ..) <| .cons (.int ..) <| .cons (.int ..) .nil⟩
theorem rd_sights (h : DataW.trod enc Tryz.prog w 0 sp held n 24 cs = some x) (hs : ∀ a len cap, cs = [.slice (some a) len cap] → a.spot = none) : ∃ (s : Sl Sight) (v : Value), cs = [v] ∧ Rep (InW w) w (s.pv Sight.cells 9) v :=
  rd_slice Tryz.underlying24 cellsSight (fun _ => rfl) (fun n cs x h => by
    obtain ⟨s, rfl⟩ := rd_sight h
    exact ⟨s, rep_sight s⟩) h hs
theorem rd_notes (h : DataW.trod enc Tryz.prog w 0 sp held n 25 cs = some x) (hs : ∀ a len cap, cs = [.slice (some a) len cap] → a.spot = none) : ∃ (s : Sl Note) (v : Value), cs = [v] ∧ Rep (InW w) w (s.pv Note.cells 4) v :=
  rd_slice Tryz.underlying25 cellsNote (fun _ => rfl) (fun n cs x h => rd_note h) h hs
theorem rd_ints (h : DataW.trod enc Tryz.prog w 0 sp held n 55 cs = some x) (hs : ∀ a len cap, cs = [.slice (some a) len cap] → a.spot = none) : ∃ (s : Sl Int) (v : Value), cs = [v] ∧ Rep (InW w) w (s.pv intF 1) v :=
  rd_slice Tryz.underlying55 cellsInt (fun _ => rfl) (fun n cs x h => by
    obtain ⟨a, rfl, _⟩ := rd_int h
    exact ⟨a, .cons (.int ..) .nil⟩) h hs
/-- A cell that may be a slice lies at no place without cells. -/
theorem spot_of {r : Reach} {base : Nat} {t e : TypeId} {a : Addr} {len cap : Nat} (ht : Tryz.prog.underlying t = some (.slice e)) (h : Cell.okWide Tryz.prog w r base t (.slice (some a) len cap)) : a.spot = none := by
  unfold Cell.okWide at h
  rw [ht] at h
  unfold Cell.ok at h
  rw [ht] at h
  exact h.2.2.2.1
theorem typesLife : Tryz.prog.cellTypes Tryz.prog.depth 27 = some [3, 3, 3, 24, 25] := by kernel_rfl
theorem rd_life {r : Reach} {base : Nat} {v : Value} {d : DataW H} {ps : List MemPlace} (hok : Value.okWide Tryz.prog w r base 27 v) (h : DataW.Trod enc Tryz.prog w 0 sp held 27 v d ps) : ∃ l : Life, Rep (InW w) w (.agg l.cells) v := by
  unfold Value.okWide at hok
  simp only [Tryz.underlying27] at hok
  obtain ⟨cs, rfl, _, ts, hts, _, hcell⟩ := hok
  rw [typesLife] at hts
  obtain rfl := Option.some.inj hts
  obtain ⟨fuel, hf⟩ := h
  obtain ⟨hl, m, hf⟩ := trod_fields Tryz.underlying27 hf
  rw [cellsLife] at hl
  simp only [Value.cells] at hl hf
  obtain ⟨cs⟩ := cs
  match cs, hl with
  | [c0, c1, c2, c3, c4], _ =>
    simp only [List.toList_toArray, List.mem_cons, List.not_mem_nil, or_false, forall_eq_or_imp, forall_eq, cellsHabit, cellsSights, cellsNotes, List.drop, List.take] at hf
    obtain ⟨⟨y0, h0⟩, ⟨y1, h1⟩, ⟨y2, h2⟩⟩ := hf
    obtain ⟨_, m2, hh⟩ := trod_fields Tryz.underlying23 h0
    simp only [List.toList_toArray, List.mem_cons, List.not_mem_nil, or_false, forall_eq_or_imp, forall_eq, cellsInt, List.drop, List.take] at hh
    obtain ⟨⟨z0, g0⟩, ⟨z1, g1⟩, ⟨z2, g2⟩⟩ := hh
    obtain ⟨a, e0, _⟩ := rd_int g0
    obtain ⟨b, e1, _⟩ := rd_int g1
    obtain ⟨c, e2, _⟩ := rd_int g2
    simp at e0 e1 e2
    subst e0 e1 e2
    obtain ⟨s, v3, e3, r3⟩ := rd_sights h1 (fun a len cap e => by
      simp at e; subst e
      obtain ⟨u, hu, hc⟩ := hcell 3 _ rfl
      simp at hu; subst hu
      exact spot_of Tryz.underlying24 hc)
    obtain ⟨q, v4, e4, r4⟩ := rd_notes h2 (fun a len cap e => by
      simp at e; subst e
      obtain ⟨u, hu, hc⟩ := hcell 4 _ rfl
      simp at hu; subst hu
      exact spot_of Tryz.underlying25 hc)
    simp at e3 e4
    subst e3 e4
    exact ⟨⟨⟨a, b, c⟩, s, q⟩, rep_agg (.cons (.int ..) <| .cons (.int ..) <| .cons (.int ..) <| .cons r3 <| .cons r4 .nil)⟩
theorem rd_course {r : Reach} {base : Nat} {v : Value} {d : DataW H} {ps : List MemPlace} (hok : Value.okWide Tryz.prog w r base 55 v) (h : DataW.Trod enc Tryz.prog w 0 sp held 55 v d ps) : ∃ c : Sl Int, Rep (InW w) w (c.pv intF 1) v := by
  obtain ⟨a0, len, cap, rfl⟩ := Go.WideShapes.okWide_slice Tryz.underlying55 hok
  obtain ⟨fuel, hf⟩ := h
  obtain ⟨s, v, e, hr⟩ := rd_ints hf (fun a len cap e => by
    simp [Value.cells] at e
    obtain ⟨rfl, rfl, rfl⟩ := e
    unfold Value.okWide at hok
    simp only [Tryz.underlying55] at hok
    exact spot_of Tryz.underlying55 hok)
  simp [Value.cells] at e
  subst e
  exact ⟨s, hr⟩
end
end Go.Proofs.YtnomliioadjdgaaGreat.Vm

namespace Go.Proofs.YtnomliioadjdgaaGreat
open Go Go.ChangeShapes Go.WideShapes Go.ChangeAt Go.RowKit Go.Proofs.YtnomliioadjdgaaGreat.Vm
set_option linter.unusedVariables false

theorem own : ownKnob Tryz.prog.godebug = none := by kernel_rfl
theorem laidOut : laidOutB Tryz.prog = true := by kernel_rfl

theorem holdWalk (l : Life) (c : Nat) (a : Nat) (k : Nat) (hk1 : c < 256) (hk2 : a < 256) (hk3 : k < 256) (v0 : Value) (w : World) (h0 : Rep (InW w) w (.agg l.cells) v0) : Calls Tryz.prog 4 #[v0, .int .u8 c, .int .u8 a, .int .u8 k] w
    fun e w' => e = .returned (.bool true) ∧ Below w.heap.size w w' := by
  have h := (callP_sound gOk (hold_law l c a k hk1 hk2 hk3)).2 0 (InW w) w [v0, .int .u8 c, .int .u8 a, .int .u8 k] (fun _ _ h => h) (.cons h0 (.cons (.int ..) (.cons (.int ..) (.cons (.int ..) .nil))))
  refine (callsIn_wide.1 h).mono fun e w' ⟨v, he, hb, hv⟩ => ?_
  rw [hv.bool_inv] at he
  exact ⟨he, hb⟩

set_option maxRecDepth 100000 in
theorem holdLifted (os : Os) (started : os.Started) (H : Type) (enc : TypeId × Value → H) :
    ReturnsInHanded {} Tryz.checked os 4 .any (Rows.stoneExtentsHoldSpec.pre6 enc Tryz.prog Tryz.f4 Rows.stoneExtentsHoldRow.domain false) (Rows.stoneExtentsHoldSpec.post enc Tryz.prog Tryz.f4 false true false false) := by
  refine returnsInHanded_of_change (C := Tryz.checked) own started (by kernel_rfl) Tryz.func4
    (ChangeSpec.witness6 (enc := enc) (C := Tryz.checked) false ⟨#[], #[.agg #[.int .i64 0, .int .i64 0, .int .i64 0, .slice none 0 0, .slice none 0 0], .int .u8 0, .int .u8 0, .int .u8 0], []⟩ 8 (by kernel_rfl) (by kernel_rfl) (by kernel_rfl) (by kernel_rfl)) ?_
  intro W base args ds gs before hval0 hW hcnd _
  have hval : ∀ (j : Nat) t v, Tryz.f4.params[j]? = some t → args[j]? = some v → Value.okWide Tryz.prog W .any base t v := hval0
  have hW' := hW
  obtain ⟨p, q, hA0, hV, rfl, hfz, hnd⟩ := hW
  have hA : DataW.TrodAll enc Tryz.prog W 0 (fun _ => true) true Tryz.f4.params.toList args.toList ds p := hA0
  rw [Tryz.params4] at hA hval
  obtain ⟨v0, vs0, d0, ds0, p0, q0, hargs, rfl, rfl, h0, r0⟩ := trodAll_cons hA
  obtain ⟨v1, vs1, d1, ds1, p1, q1, rfl, rfl, rfl, h1, r1⟩ := trodAll_cons r0
  obtain ⟨v2, vs2, d2, ds2, p2, q2, rfl, rfl, rfl, h2, r2⟩ := trodAll_cons r1
  obtain ⟨v3, vs3, d3, ds3, p3, q3, rfl, rfl, rfl, h3, r3⟩ := trodAll_cons r2
  obtain ⟨rfl, rfl, rfl⟩ := trodAll_nil r3
  obtain rfl : args = #[v0, v1, v2, v3] := by cases args; simp_all
  obtain ⟨rfl, rfl⟩ := trodVars_none hV
  have lt0 : ∀ x ∈ p0, x.block < W.heap.size := by obtain ⟨m, hm⟩ := h0; exact DataW.trod_lt m _ _ _ hm
  have lt1 : ∀ x ∈ p1, x.block < W.heap.size := by obtain ⟨m, hm⟩ := h1; exact DataW.trod_lt m _ _ _ hm
  have lt2 : ∀ x ∈ p2, x.block < W.heap.size := by obtain ⟨m, hm⟩ := h2; exact DataW.trod_lt m _ _ _ hm
  have lt3 : ∀ x ∈ p3, x.block < W.heap.size := by obtain ⟨m, hm⟩ := h3; exact DataW.trod_lt m _ _ _ hm
  obtain ⟨l, g0⟩ := rd_life (hval 0 27 v0 rfl rfl) h0
  obtain ⟨m1, hm1⟩ := id h1
  obtain ⟨a1, ha1, _, hb1⟩ := DataW.trod_int Tryz.underlying5 hm1
  obtain ⟨b1, rfl⟩ := okWide_int Tryz.underlying5 (hval 1 5 v1 rfl rfl)
  obtain rfl : b1 = a1 := by simpa [Value.cells] using ha1
  have hab1 : 0 ≤ b1 ∧ b1 < 256 := by
    simp only [Lit.wf, Bool.and_eq_true, decide_eq_true_eq] at hb1
    have e1 : IntKind.u8.min = 0 := rfl
    have e2 : IntKind.u8.max = 255 := rfl
    rw [e1, e2] at hb1
    omega
  obtain ⟨c, rfl⟩ : ∃ k : Nat, b1 = (k : Int) := ⟨b1.toNat, by omega⟩
  obtain ⟨m2, hm2⟩ := id h2
  obtain ⟨a2, ha2, _, hb2⟩ := DataW.trod_int Tryz.underlying5 hm2
  obtain ⟨b2, rfl⟩ := okWide_int Tryz.underlying5 (hval 2 5 v2 rfl rfl)
  obtain rfl : b2 = a2 := by simpa [Value.cells] using ha2
  have hab2 : 0 ≤ b2 ∧ b2 < 256 := by
    simp only [Lit.wf, Bool.and_eq_true, decide_eq_true_eq] at hb2
    have e1 : IntKind.u8.min = 0 := rfl
    have e2 : IntKind.u8.max = 255 := rfl
    rw [e1, e2] at hb2
    omega
  obtain ⟨a, rfl⟩ : ∃ k : Nat, b2 = (k : Int) := ⟨b2.toNat, by omega⟩
  obtain ⟨m3, hm3⟩ := id h3
  obtain ⟨a3, ha3, _, hb3⟩ := DataW.trod_int Tryz.underlying5 hm3
  obtain ⟨b3, rfl⟩ := okWide_int Tryz.underlying5 (hval 3 5 v3 rfl rfl)
  obtain rfl : b3 = a3 := by simpa [Value.cells] using ha3
  have hab3 : 0 ≤ b3 ∧ b3 < 256 := by
    simp only [Lit.wf, Bool.and_eq_true, decide_eq_true_eq] at hb3
    have e1 : IntKind.u8.min = 0 := rfl
    have e2 : IntKind.u8.max = 255 := rfl
    rw [e1, e2] at hb3
    omega
  obtain ⟨k, rfl⟩ : ∃ k : Nat, b3 = (k : Int) := ⟨b3.toNat, by omega⟩
  clear hA0 hval0
  refine (holdWalk l c a k (by omega) (by omega) (by omega) v0 W g0).mono fun e W' ⟨he, bel⟩ => ?_
  subst he
  exact ⟨_, rfl, _, _, _, [], _, [], hW', trodAll_mk1 (shut_bool Tryz.underlying4 _), (trodAll_cons_mk (Below.trod laidOut (by kernel_rfl) (of_decide_eq_true (by kernel_rfl)) h0 bel lt0) (trodAll_cons_mk (Below.trod laidOut (by kernel_rfl) (of_decide_eq_true (by kernel_rfl)) h1 bel lt1) (trodAll_cons_mk (Below.trod laidOut (by kernel_rfl) (of_decide_eq_true (by kernel_rfl)) h2 bel lt2) (trodAll_cons_mk (Below.trod laidOut (by kernel_rfl) (of_decide_eq_true (by kernel_rfl)) h3 bel lt3) trodAll_mk0)))), rfl, bel.frame _, fun h => by cases h⟩

theorem hold_over : Rows.stoneExtentsHoldRow.holds Tryz.pinned (OpenSpec.ofChange Rows.stoneExtentsHoldSpec) :=
  OpenClaim.holds_of_wide 4 Tryz.f4 rfl rfl rfl rfl rfl rfl rfl ⟨rfl, rfl, rfl, rfl, rfl⟩ rfl rfl rfl rfl rfl (by kernel_rfl) Tryz.func4 (by kernel_rfl)
    (of_decide_eq_true (by kernel_rfl)) (by unfold Func.isWrapper; first | (rw [if_pos (by decide +kernel)]; kernel_rfl) | (rw [if_neg (by decide +kernel)]; exact ⟨rfl, rfl⟩))
    (fun os started H enc _ => holdLifted os started H enc)

theorem hold_proved : Rows.StoneExtentsHoldSaid := hold_over
#print axioms hold_proved
end Go.Proofs.YtnomliioadjdgaaGreat
