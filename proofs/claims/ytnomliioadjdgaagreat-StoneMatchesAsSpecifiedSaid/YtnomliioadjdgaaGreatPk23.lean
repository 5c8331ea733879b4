/- From what a life reads as, to the data of the machine of values. Readers of habits, of sights and of pairs. 'boundstonelaw05.StoneMatchesAsSpecified': whatever the input, the call returns true, and each argument reads afterwards as it read before.
   No conditions. -/
import Derived.Test.YtnomliioadjdgaaGreatPk22
import Derived.Test.YtnomliioadjdgaaGreatPk17
import Derived.Deep.Slices
import Derived.Test.YtnomliioadjdgaaGreatPk20
import Derived.Test.YtnomliioadjdgaaGreatPk21
namespace Go.Proofs.YtnomliioadjdgaaGreat.Vm
open Go
set_option linter.unusedVariables false
set_option linter.unusedSimpArgs false
set_option maxRecDepth 100000
theorem choose_list {α : Type} {n : Nat} {Q : Nat → α → Prop} (h : ∀ i, i < n → ∃ a, Q i a) : ∃ xs : List α, xs.length = n ∧ ∀ (i : Nat) (hi : i < xs.length), Q i xs[i] := by
  induction n with
  | zero => exact ⟨[], rfl, fun i hi => by simp at hi⟩
  | succ n ih =>
    obtain ⟨xs, hl, hx⟩ := ih (fun i hi => h i (by omega))
    obtain ⟨a, ha⟩ := h n (by omega)
    refine ⟨xs ++ [a], by simp [hl], fun i hi => ?_⟩
    by_cases hc : i < xs.length
    · rw [List.getElem_append_left hc]; exact hx i hc
    · have : i = n := by simp at hi; omega
      subst this
      rw [List.getElem_append_right (by omega)]
      simpa [hl] using ha
section
variable {H : Type} {enc : TypeId × Value → H} {P : Program} {w : World} {sp : Nat → Bool} {held : Bool}
theorem cell_lt {w : World} {a : Addr} {v : Value} (h : w.cell? a = some v) : a.block < w.heap.size := by
  unfold World.cell? at h
  by_cases hb : a.block < w.heap.size
  · exact hb
  · rw [Array.getElem?_eq_none (by omega)] at h; simp at h
abbrev InW (w : World) : Bool → Nat → Prop := fun _ b => b < w.heap.size
/-- A slice opened as data. -/
theorem rd_sliceB {α : Type} {f : α → List PV} {sz : Nat} {t e : TypeId} (ht : P.underlying t = some (.slice e)) (hc : P.cellsOf e = sz) (hf : ∀ a, (f a).length = sz)
    (he : ∀ (n : Nat) (cs : List Value) (x : DataW H × List MemPlace), DataW.trod enc P w 0 sp held n e cs = some x → ∃ a : α, PReps (InW w) w (f a) cs)
    {n : Nat} {cs : List Value} {x : DataW H × List MemPlace} (h : DataW.trod enc P w 0 sp held n t cs = some x) (hs : ∀ a len cap, cs = [.slice (some a) len cap] → a.spot = none) :
    ∃ (s : Sl α) (v : Value), cs = [v] ∧ Rep (InW w) w (s.pv f sz) v ∧ s.xs.length ≤ 9223372036854775807 := by
  rcases Go.Deep.open_slice ht h with ⟨rfl, _⟩ | ⟨a, len, cap, m, k, D, Pl, rfl, _, hl, hm, hmm, _, hel⟩
  · exact ⟨.nil, _, rfl, .nils, by simp⟩
  · obtain ⟨b, o, spot⟩ := a
    have hspot : spot = none := hs _ _ _ rfl
    subst hspot
    have hlm : len ≤ m := by rw [hmm]; split <;> omega
    obtain ⟨xs, hxl, hx⟩ := choose_list (n := len) (Q := fun i (a : α) => ∃ cs', (∀ j, j < sz → w.cell? ⟨b, o + i * sz + j, none⟩ = cs'[j]?) ∧ PReps (InW w) w (f a) cs') (fun i hi => by
      obtain ⟨cs', h1, h2⟩ := hel i (by omega)
      obtain ⟨a, ha⟩ := he _ _ _ h2
      refine ⟨a, cs', fun j hj => ?_, ha⟩
      unfold World.cells? at h1
      split at h1
      · rw [hc] at h1
        have := mapM_some_get h1 j j (by simp [hj])
        rw [Go.Deep.add_add] at this
        rw [← this]
        congr 1
        unfold Addr.add
        split
        · rename_i h0
          have : i * sz = 0 ∧ j = 0 := by omega
          simp [this.1, this.2]
        · simp; omega
      · simp at h1)
    have main : ∀ (i : Nat) (e : List PV) (j : Nat) (p : PV), (xs.map f)[i]? = some e → e[j]? = some p → ∃ v, w.cell? ⟨b, o + i * sz + j, none⟩ = some v ∧ Rep (InW w) w p v := by
      intro i e j p h1 h2
      rw [List.getElem?_map, Option.map_eq_some_iff] at h1
      obtain ⟨a, h3, rfl⟩ := h1
      obtain ⟨hi, rfl⟩ := List.getElem?_eq_some_iff.1 h3
      obtain ⟨cs', h4, h5⟩ := hx i hi
      have hj : j < sz := by
        have := (List.getElem?_eq_some_iff.1 h2).1
        rw [hf] at this; exact this
      have hlc : cs'.length = sz := by rw [← h5.1, hf]
      have h6 := h4 j hj
      rw [List.getElem?_eq_getElem (by omega)] at h6
      exact ⟨_, h6, h5.2 j p _ h2 (List.getElem?_eq_getElem (by omega))⟩
    refine ⟨.mk false xs, _, rfl, ?_, by have hmx : maxLen = 9223372036854775807 := rfl; show xs.length ≤ _; omega⟩
    refine Rep.slice false sz (xs.map f) b o len cap (fun i j => (w.cell? ⟨b, o + i * sz + j, none⟩).getD .nilFunc) (by simp [hxl]) hl ?_ ?_ ?_
    · intro i e h1
      rw [List.getElem?_map, Option.map_eq_some_iff] at h1
      obtain ⟨a, _, rfl⟩ := h1
      exact hf a
    · intro i e j p h1 h2
      obtain ⟨v, h3, _⟩ := main i e j p h1 h2
      exact ⟨cell_lt h3, by rw [h3]; rfl⟩
    · intro i e j p h1 h2
      obtain ⟨v, h3, h4⟩ := main i e j p h1 h2
      rw [h3]; exact h4
theorem rd_slice {α : Type} {f : α → List PV} {sz : Nat} {t e : TypeId} (ht : P.underlying t = some (.slice e)) (hc : P.cellsOf e = sz) (hf : ∀ a, (f a).length = sz)
    (he : ∀ (n : Nat) (cs : List Value) (x : DataW H × List MemPlace), DataW.trod enc P w 0 sp held n e cs = some x → ∃ a : α, PReps (InW w) w (f a) cs)
    {n : Nat} {cs : List Value} {x : DataW H × List MemPlace} (h : DataW.trod enc P w 0 sp held n t cs = some x) (hs : ∀ a len cap, cs = [.slice (some a) len cap] → a.spot = none) :
    ∃ (s : Sl α) (v : Value), cs = [v] ∧ Rep (InW w) w (s.pv f sz) v := by
  obtain ⟨s, v, h1, h2, _⟩ := rd_sliceB ht hc hf he h hs
  exact ⟨s, v, h1, h2⟩
end
section
variable {H : Type} {enc : TypeId × Value → H} {w : World} {sp : Nat → Bool} {held : Bool} {n : Nat} {cs : List Value} {x : DataW H × List MemPlace}
theorem cellsNote : Tryz.prog.cellsOf 88 = 4 := by kernel_rfl
theorem cellsHabit : Tryz.prog.cellsOf 23 = 3 := by kernel_rfl
theorem cellsSights : Tryz.prog.cellsOf 24 = 1 := by kernel_rfl
theorem cellsNotes : Tryz.prog.cellsOf 25 = 1 := by kernel_rfl
theorem cellsLife : Tryz.prog.cellsOf 27 = 5 := by kernel_rfl
theorem rd_note (h : DataW.trod enc Tryz.prog w 0 sp held n 88 cs = some x) : ∃ s : Note, PReps (InW w) w s.cells cs := by
  obtain ⟨hl, m, hf⟩ := trod_fields Tryz.underlying88 h
  rw [cellsNote] at hl
  match cs, hl with
  | [c0, c1, c2, c3], _ =>
    simp only [List.toList_toArray, List.mem_cons, List.not_mem_nil, or_false, forall_eq_or_imp, forall_eq, cellsInt, List.drop, List.take] at hf
    obtain ⟨⟨y0, h0⟩, ⟨y1, h1⟩, ⟨y2, h2⟩, ⟨y3, h3⟩⟩ := hf
    obtain ⟨a, e0, _⟩ := rd_int h0
    obtain ⟨b, e1, _⟩ := rd_int h1
    obtain ⟨c, e2, _⟩ := rd_int h2
    obtain ⟨d, e3, _⟩ := rd_int h3
    simp at e0 e1 e2 e3
    subst e0 e1 e2 e3
    exact ⟨⟨a, b, c, d⟩, .cons (.int ..) <| .cons (.int ..) <| .cons (.int ..) <| .cons (.int ..) .nil⟩
theorem rd_sights (h : DataW.trod enc Tryz.prog w 0 sp held n 24 cs = some x) (hs : ∀ a len cap, cs = [.slice (some a) len cap] → a.spot = none) : ∃ (s : Sl Sight) (v : Value), cs = [v] ∧ Rep (InW w) w (s.pv Sight.cells 9) v :=
  rd_slice Tryz.underlying24 cellsSight (fun _ => rfl) (fun n cs x h => by
    obtain ⟨s, rfl⟩ := rd_sight h
    exact ⟨s, rep_sight s⟩) h hs
theorem rd_notes (h : DataW.trod enc Tryz.prog w 0 sp held n 25 cs = some x) (hs : ∀ a len cap, cs = [.slice (some a) len cap] → a.spot = none) : ∃ (s : Sl Note) (v : Value), cs = [v] ∧ Rep (InW w) w (s.pv Note.cells 4) v :=
  rd_slice Tryz.underlying25 cellsNote (fun _ => rfl) (fun n cs x h => rd_note h) h hs
theorem rd_ints (h : DataW.trod enc Tryz.prog w 0 sp held n 55 cs = some x) (hs : ∀ a len cap, cs = [.slice (some a) len cap] → a.spot = none) : ∃ (s : Sl Int) (v : Value), cs = [v] ∧ Rep (InW w) w (s.pv intF 1) v :=
  rd_slice Tryz.underlying55 cellsInt (fun _ => rfl) (fun n cs x h => by
    obtain ⟨a, rfl, _⟩ := rd_int h
    exact ⟨a, .cons (.int ..) .nil⟩) h hs
/-- A cell that may be a slice lies at no place without cells. -/
theorem spot_of {r : Reach} {base : Nat} {t e : TypeId} {a : Addr} {len cap : Nat} (ht : Tryz.prog.underlying t = some (.slice e)) (h : Cell.okWide Tryz.prog w r base t (.slice (some a) len cap)) : a.spot = none := by
  unfold Cell.okWide at h
  rw [ht] at h
  unfold Cell.ok at h
  rw [ht] at h
  exact h.2.2.2.1
theorem typesLife : Tryz.prog.cellTypes Tryz.prog.depth 27 = some [3, 3, 3, 24, 25] := by kernel_rfl
theorem rd_life {r : Reach} {base : Nat} {v : Value} {d : DataW H} {ps : List MemPlace} (hok : Value.okWide Tryz.prog w r base 27 v) (h : DataW.Trod enc Tryz.prog w 0 sp held 27 v d ps) : ∃ l : Life, Rep (InW w) w (.agg l.cells) v := by
  unfold Value.okWide at hok
  simp only [Tryz.underlying27] at hok
  obtain ⟨cs, rfl, _, ts, hts, _, hcell⟩ := hok
  rw [typesLife] at hts
  obtain rfl := Option.some.inj hts
  obtain ⟨fuel, hf⟩ := h
  obtain ⟨hl, m, hf⟩ := trod_fields Tryz.underlying27 hf
  rw [cellsLife] at hl
  simp only [Value.cells] at hl hf
  obtain ⟨cs⟩ := cs
  match cs, hl with
  | [c0, c1, c2, c3, c4], _ =>
    simp only [List.toList_toArray, List.mem_cons, List.not_mem_nil, or_false, forall_eq_or_imp, forall_eq, cellsHabit, cellsSights, cellsNotes, List.drop, List.take] at hf
    obtain ⟨⟨y0, h0⟩, ⟨y1, h1⟩, ⟨y2, h2⟩⟩ := hf
    obtain ⟨_, m2, hh⟩ := trod_fields Tryz.underlying23 h0
    simp only [List.toList_toArray, List.mem_cons, List.not_mem_nil, or_false, forall_eq_or_imp, forall_eq, cellsInt, List.drop, List.take] at hh
    obtain ⟨⟨z0, g0⟩, ⟨z1, g1⟩, ⟨z2, g2⟩⟩ := hh
    obtain ⟨a, e0, _⟩ := rd_int g0
    obtain ⟨b, e1, _⟩ := rd_int g1
    obtain ⟨c, e2, _⟩ := rd_int g2
    simp at e0 e1 e2
    subst e0 e1 e2
    obtain ⟨s, v3, e3, r3⟩ := rd_sights h1 (fun a len cap e => by
      simp at e; subst e
      obtain ⟨u, hu, hc⟩ := hcell 3 _ rfl
      simp at hu; subst hu
      exact spot_of Tryz.underlying24 hc)
    obtain ⟨q, v4, e4, r4⟩ := rd_notes h2 (fun a len cap e => by
      simp at e; subst e
      obtain ⟨u, hu, hc⟩ := hcell 4 _ rfl
      simp at hu; subst hu
      exact spot_of Tryz.underlying25 hc)
    simp at e3 e4
    subst e3 e4
    exact ⟨⟨⟨a, b, c⟩, s, q⟩, rep_agg (.cons (.int ..) <| .cons (.int ..) <| .cons (.int ..) <| .cons r3 <| .cons r4 .nil)⟩
theorem rd_course {r : Reach} {base : Nat} {v : Value} {d : DataW H} {ps : List MemPlace} (hok : Value.okWide Tryz.prog w r base 55 v) (h : DataW.Trod enc Tryz.prog w 0 sp held 55 v d ps) : ∃ c : Sl Int, Rep (InW w) w (c.pv intF 1) v := by
  obtain ⟨a0, len, cap, rfl⟩ := Go.WideShapes.okWide_slice Tryz.underlying55 hok
  obtain ⟨fuel, hf⟩ := h
  obtain ⟨s, v, e, hr⟩ := rd_ints hf (fun a len cap e => by
    simp [Value.cells] at e
    obtain ⟨rfl, rfl, rfl⟩ := e
    unfold Value.okWide at hok
    simp only [Tryz.underlying55] at hok
    exact spot_of Tryz.underlying55 hok)
  simp [Value.cells] at e
  subst e
  exact ⟨s, hr⟩
end
end Go.Proofs.YtnomliioadjdgaaGreat.Vm

namespace Go.Proofs.YtnomliioadjdgaaGreat.Vm
open Go
set_option linter.unusedVariables false
set_option linter.unusedSimpArgs false
set_option maxRecDepth 100000
section
variable {H : Type} {enc : TypeId × Value → H} {w : World} {sp : Nat → Bool} {held : Bool} {n : Nat} {cs : List Value} {x : DataW H × List MemPlace}
theorem cellsPair : Tryz.prog.cellsOf 116 = 2 := by kernel_rfl
theorem rd_pair (h : DataW.trod enc Tryz.prog w 0 sp held n 116 cs = some x) : ∃ s : Pair, PReps (InW w) w s.cells cs := by
  obtain ⟨hl, m, hf⟩ := trod_fields Tryz.underlying116 h
  rw [cellsPair] at hl
  match cs, hl with
  | [c0, c1], _ =>
    simp only [List.toList_toArray, List.mem_cons, List.not_mem_nil, or_false, forall_eq_or_imp, forall_eq, cellsInt, List.drop, List.take] at hf
    obtain ⟨⟨y0, h0⟩, ⟨y1, h1⟩⟩ := hf
    obtain ⟨a, e0, _⟩ := rd_int h0
    obtain ⟨b, e1, _⟩ := rd_int h1
    simp at e0 e1
    subst e0 e1
    exact ⟨⟨a, b⟩, .cons (.int ..) <| .cons (.int ..) .nil⟩
theorem rd_pairs {r : Reach} {base : Nat} {v : Value} {d : DataW H} {ps : List MemPlace} (hok : Value.okWide Tryz.prog w r base 80 v) (h : DataW.Trod enc Tryz.prog w 0 sp held 80 v d ps) : ∃ c : Sl Pair, Rep (InW w) w (c.pv Pair.cells 2) v := by
  obtain ⟨a0, len, cap, rfl⟩ := Go.WideShapes.okWide_slice Tryz.underlying80 hok
  obtain ⟨fuel, hf⟩ := h
  obtain ⟨s, v, e, hr⟩ := rd_slice (f := Pair.cells) Tryz.underlying80 cellsPair (fun _ => rfl) (fun n cs x h => rd_pair h) hf (fun a len cap e => by
    simp [Value.cells] at e
    obtain ⟨rfl, rfl, rfl⟩ := e
    unfold Value.okWide at hok
    simp only [Tryz.underlying80] at hok
    exact spot_of Tryz.underlying80 hok)
  simp [Value.cells] at e
  subst e
  exact ⟨s, hr⟩
theorem rd_sightsV {r : Reach} {base : Nat} {v : Value} {d : DataW H} {ps : List MemPlace} (hok : Value.okWide Tryz.prog w r base 24 v) (h : DataW.Trod enc Tryz.prog w 0 sp held 24 v d ps) : ∃ c : Sl Sight, Rep (InW w) w (c.pv Sight.cells 9) v := by
  obtain ⟨a0, len, cap, rfl⟩ := Go.WideShapes.okWide_slice Tryz.underlying24 hok
  obtain ⟨fuel, hf⟩ := h
  obtain ⟨s, v, e, hr⟩ := rd_sights hf (fun a len cap e => by
    simp [Value.cells] at e
    obtain ⟨rfl, rfl, rfl⟩ := e
    unfold Value.okWide at hok
    simp only [Tryz.underlying24] at hok
    exact spot_of Tryz.underlying24 hok)
  simp [Value.cells] at e
  subst e
  exact ⟨s, hr⟩
theorem rd_habit {r : Reach} {base : Nat} {v : Value} {d : DataW H} {ps : List MemPlace} (hok : Value.okWide Tryz.prog w r base 23 v) (h : DataW.Trod enc Tryz.prog w 0 sp held 23 v d ps) : ∃ c : Habit, Rep (InW w) w (.agg c.cells) v := by
  unfold Value.okWide at hok
  simp only [Tryz.underlying23] at hok
  obtain ⟨cs, rfl, _⟩ := hok
  obtain ⟨fuel, hf⟩ := h
  obtain ⟨hl, m, hh⟩ := trod_fields Tryz.underlying23 hf
  rw [cellsHabit] at hl
  simp only [Value.cells] at hl hh
  obtain ⟨cs⟩ := cs
  match cs, hl with
  | [c0, c1, c2], _ =>
    simp only [List.toList_toArray, List.mem_cons, List.not_mem_nil, or_false, forall_eq_or_imp, forall_eq, cellsInt, List.drop, List.take] at hh
    obtain ⟨⟨z0, g0⟩, ⟨z1, g1⟩, ⟨z2, g2⟩⟩ := hh
    obtain ⟨a, e0, _⟩ := rd_int g0
    obtain ⟨b, e1, _⟩ := rd_int g1
    obtain ⟨c, e2, _⟩ := rd_int g2
    simp at e0 e1 e2
    subst e0 e1 e2
    exact ⟨⟨a, b, c⟩, rep_agg (.cons (.int ..) <| .cons (.int ..) <| .cons (.int ..) .nil)⟩
end
end Go.Proofs.YtnomliioadjdgaaGreat.Vm

namespace Go.Proofs.YtnomliioadjdgaaGreat
open Go Go.ChangeShapes Go.WideShapes Go.ChangeAt Go.RowKit Go.Proofs.YtnomliioadjdgaaGreat.Vm
set_option linter.unusedVariables false

theorem own : ownKnob Tryz.prog.godebug = none := by kernel_rfl
theorem laidOut : laidOutB Tryz.prog = true := by kernel_rfl

theorem matchWalk (h : Habit) (l : Sl Sight) (m : Sl Sight) (sm : Sl Pair) (one : Sl Int) (two : Sl Int) (v0 v1 v2 v3 v4 v5 : Value) (w : World) (h0 : Rep (InW w) w (.agg h.cells) v0) (h1 : Rep (InW w) w (l.pv Sight.cells 9) v1) (h2 : Rep (InW w) w (m.pv Sight.cells 9) v2) (h3 : Rep (InW w) w (sm.pv Pair.cells 2) v3) (h4 : Rep (InW w) w (one.pv intF 1) v4) (h5 : Rep (InW w) w (two.pv intF 1) v5) : Calls Tryz.prog 7 #[v0, v1, v2, v3, v4, v5] w
    fun e w' => e = .returned (.bool true) ∧ Below w.heap.size w w' := by
  have h := (callP_sound gOk (match_law h l m sm one two)).2 0 (InW w) w [v0, v1, v2, v3, v4, v5] (fun _ _ h => h) (.cons h0 (.cons h1 (.cons h2 (.cons h3 (.cons h4 (.cons h5 .nil))))))
  refine (callsIn_wide.1 h).mono fun e w' ⟨v, he, hb, hv⟩ => ?_
  rw [hv.bool_inv] at he
  exact ⟨he, hb⟩

set_option maxRecDepth 100000 in
theorem matchLifted (os : Os) (started : os.Started) (H : Type) (enc : TypeId × Value → H) :
    ReturnsInHanded {} Tryz.checked os 7 .any (Rows.stoneMatchesAsSpecifiedSpec.pre6 enc Tryz.prog Tryz.f7 Rows.stoneMatchesAsSpecifiedRow.domain false) (Rows.stoneMatchesAsSpecifiedSpec.post enc Tryz.prog Tryz.f7 false true false false) := by
  refine returnsInHanded_of_change (C := Tryz.checked) own started (by kernel_rfl) Tryz.func7
    (ChangeSpec.witness6 (enc := enc) (C := Tryz.checked) false ⟨#[], #[.agg #[.int .i64 0, .int .i64 0, .int .i64 0], .slice none 0 0, .slice none 0 0, .slice none 0 0, .slice none 0 0, .slice none 0 0], []⟩ 8 (by kernel_rfl) (by kernel_rfl) (by kernel_rfl) (by kernel_rfl)) ?_
  intro W base args ds gs before hval0 hW hcnd _
  have hval : ∀ (j : Nat) t v, Tryz.f7.params[j]? = some t → args[j]? = some v → Value.okWide Tryz.prog W .any base t v := hval0
  have hW' := hW
  obtain ⟨p, q, hA0, hV, rfl, hfz, hnd⟩ := hW
  have hA : DataW.TrodAll enc Tryz.prog W 0 (fun _ => true) true Tryz.f7.params.toList args.toList ds p := hA0
  rw [Tryz.params7] at hA hval
  obtain ⟨v0, vs0, d0, ds0, p0, q0, hargs, rfl, rfl, h0, r0⟩ := trodAll_cons hA
  obtain ⟨v1, vs1, d1, ds1, p1, q1, rfl, rfl, rfl, h1, r1⟩ := trodAll_cons r0
  obtain ⟨v2, vs2, d2, ds2, p2, q2, rfl, rfl, rfl, h2, r2⟩ := trodAll_cons r1
  obtain ⟨v3, vs3, d3, ds3, p3, q3, rfl, rfl, rfl, h3, r3⟩ := trodAll_cons r2
  obtain ⟨v4, vs4, d4, ds4, p4, q4, rfl, rfl, rfl, h4, r4⟩ := trodAll_cons r3
  obtain ⟨v5, vs5, d5, ds5, p5, q5, rfl, rfl, rfl, h5, r5⟩ := trodAll_cons r4
  obtain ⟨rfl, rfl, rfl⟩ := trodAll_nil r5
  obtain rfl : args = #[v0, v1, v2, v3, v4, v5] := by cases args; simp_all
  obtain ⟨rfl, rfl⟩ := trodVars_none hV
  have lt0 : ∀ x ∈ p0, x.block < W.heap.size := by obtain ⟨m, hm⟩ := h0; exact DataW.trod_lt m _ _ _ hm
  have lt1 : ∀ x ∈ p1, x.block < W.heap.size := by obtain ⟨m, hm⟩ := h1; exact DataW.trod_lt m _ _ _ hm
  have lt2 : ∀ x ∈ p2, x.block < W.heap.size := by obtain ⟨m, hm⟩ := h2; exact DataW.trod_lt m _ _ _ hm
  have lt3 : ∀ x ∈ p3, x.block < W.heap.size := by obtain ⟨m, hm⟩ := h3; exact DataW.trod_lt m _ _ _ hm
  have lt4 : ∀ x ∈ p4, x.block < W.heap.size := by obtain ⟨m, hm⟩ := h4; exact DataW.trod_lt m _ _ _ hm
  have lt5 : ∀ x ∈ p5, x.block < W.heap.size := by obtain ⟨m, hm⟩ := h5; exact DataW.trod_lt m _ _ _ hm
  obtain ⟨h, g0⟩ := rd_habit (hval 0 23 v0 rfl rfl) h0
  obtain ⟨l, g1⟩ := rd_sightsV (hval 1 24 v1 rfl rfl) h1
  obtain ⟨m, g2⟩ := rd_sightsV (hval 2 24 v2 rfl rfl) h2
  obtain ⟨sm, g3⟩ := rd_pairs (hval 3 80 v3 rfl rfl) h3
  obtain ⟨one, g4⟩ := rd_course (hval 4 55 v4 rfl rfl) h4
  obtain ⟨two, g5⟩ := rd_course (hval 5 55 v5 rfl rfl) h5
  clear hA0 hval0
  refine (matchWalk h l m sm one two v0 v1 v2 v3 v4 v5 W g0 g1 g2 g3 g4 g5).mono fun e W' ⟨he, bel⟩ => ?_
  subst he
  exact ⟨_, rfl, _, _, _, [], _, [], hW', trodAll_mk1 (shut_bool Tryz.underlying4 _), (trodAll_cons_mk (Below.trod laidOut (by kernel_rfl) (of_decide_eq_true (by kernel_rfl)) h0 bel lt0) (trodAll_cons_mk (Below.trod laidOut (by kernel_rfl) (of_decide_eq_true (by kernel_rfl)) h1 bel lt1) (trodAll_cons_mk (Below.trod laidOut (by kernel_rfl) (of_decide_eq_true (by kernel_rfl)) h2 bel lt2) (trodAll_cons_mk (Below.trod laidOut (by kernel_rfl) (of_decide_eq_true (by kernel_rfl)) h3 bel lt3) (trodAll_cons_mk (Below.trod laidOut (by kernel_rfl) (of_decide_eq_true (by kernel_rfl)) h4 bel lt4) (trodAll_cons_mk (Below.trod laidOut (by kernel_rfl) (of_decide_eq_true (by kernel_rfl)) h5 bel lt5) trodAll_mk0)))))), rfl, bel.frame _, fun h => by cases h⟩

theorem match_over : Rows.stoneMatchesAsSpecifiedRow.holds Tryz.pinned (OpenSpec.ofChange Rows.stoneMatchesAsSpecifiedSpec) :=
  OpenClaim.holds_of_wide 7 Tryz.f7 rfl rfl rfl rfl rfl rfl rfl ⟨rfl, rfl, rfl, rfl, rfl⟩ rfl rfl rfl rfl rfl (by kernel_rfl) Tryz.func7 (by kernel_rfl)
    (of_decide_eq_true (by kernel_rfl)) (by unfold Func.isWrapper; first | (rw [if_pos (by decide +kernel)]; kernel_rfl) | (rw [if_neg (by decide +kernel)]; exact ⟨rfl, rfl⟩))
    (fun os started H enc _ => matchLifted os started H enc)

theorem match_proved : Rows.StoneMatchesAsSpecifiedSaid := match_over
#print axioms match_proved
end Go.Proofs.YtnomliioadjdgaaGreat
