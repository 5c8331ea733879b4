/- From what a life reads as, to the data of the machine of values. From what was with a stone reads as, to the data of the machine of values. 'boundstonelaw05.StoneTruthsFit': whatever the input, the call returns true, and each argument reads afterwards as it read before.
   No conditions. -/
import Derived.Test.YtnomliioadjdgaaGreatPk21
import Derived.Test.YtnomliioadjdgaaGreatPk17
import Derived.Deep.Slices
import Derived.Test.YtnomliioadjdgaaGreatPk18
import Derived.Test.YtnomliioadjdgaaGreatPk20
namespace Go.Proofs.YtnomliioadjdgaaGreat.Vm
open Go
set_option linter.unusedVariables false
set_option linter.unusedSimpArgs false
set_option maxRecDepth 100000
theorem choose_list {α : Type} {n : Nat} {Q : Nat → α → Prop} (h : ∀ i, i < n → ∃ a, Q i a) : ∃ xs : List α, xs.length = n ∧ ∀ (i : Nat) (hi : i < xs.length), Q i xs[i] := by
  induction n with
  | zero => exact ⟨[], rfl, fun i hi => by simp at hi⟩
  | succ n ih =>
    obtain ⟨xs, hl, hx⟩ := ih (fun i hi => h i (by omega))
    obtain ⟨a, ha⟩ := h n (by omega)
    refine ⟨xs ++ [a], by simp [hl], fun i hi => ?_⟩
    by_cases hc : i < xs.length
    · rw [List.getElem_append_left hc]; exact hx i hc
    · have : i = n := by simp at hi; omega
      subst this
      rw [List.getElem_append_right (by omega)]
      simpa [hl] using ha
section
variable {H : Type} {enc : TypeId × Value → H} {P : Program} {w : World} {sp : Nat → Bool} {held : Bool}
theorem cell_lt {w : World} {a : Addr} {v : Value} (h : w.cell? a = some v) : a.block < w.heap.size := by
  unfold World.cell? at h
  by_cases hb : a.block < w.heap.size
  · exact hb
  · rw [Array.getElem?_eq_none (by omega)] at h; simp at h
abbrev InW (w : World) : Bool → Nat → Prop := fun _ b => b < w.heap.size
/-- A slice opened as data. -/
theorem rd_sliceB {α : Type} {f : α → List PV} {sz : Nat} {t e : TypeId} (ht : P.underlying t = some (.slice e)) (hc : P.cellsOf e = sz) (hf : ∀ a, (f a).length = sz)
    (he : ∀ (n : Nat) (cs : List Value) (x : DataW H × List MemPlace), DataW.trod enc P w 0 sp held n e cs = some x → ∃ a : α, PReps (InW w) w (f a) cs)
    {n : Nat} {cs : List Value} {x : DataW H × List MemPlace} (h : DataW.trod enc P w 0 sp held n t cs = some x) (hs : ∀ a len cap, cs = [.slice (some a) len cap] → a.spot = none) :
    ∃ (s : Sl α) (v : Value), cs = [v] ∧ Rep (InW w) w (s.pv f sz) v ∧ s.xs.length ≤ 9223372036854775807 := by
  rcases Go.Deep.open_slice ht h with ⟨rfl, _⟩ | ⟨a, len, cap, m, k, D, Pl, rfl, _, hl, hm, hmm, _, hel⟩
  · exact ⟨.nil, _, rfl, .nils, by simp⟩
  · obtain ⟨b, o, spot⟩ := a
    have hspot : spot = none := hs _ _ _ rfl
    subst hspot
    have hlm : len ≤ m := by rw [hmm]; split <;> omega
    obtain ⟨xs, hxl, hx⟩ := choose_list (n := len) (Q := fun i (a : α) => ∃ cs', (∀ j, j < sz → w.cell? ⟨b, o + i * sz + j, none⟩ = cs'[j]?) ∧ PReps (InW w) w (f a) cs') (fun i hi => by
      obtain ⟨cs', h1, h2⟩ := hel i (by omega)
      obtain ⟨a, ha⟩ := he _ _ _ h2
      refine ⟨a, cs', fun j hj => ?_, ha⟩
      unfold World.cells? at h1
      split at h1
      · rw [hc] at h1
        have := mapM_some_get h1 j j (by simp [hj])
        rw [Go.Deep.add_add] at this
        rw [← this]
        congr 1
        unfold Addr.add
        split
        · rename_i h0
          have : i * sz = 0 ∧ j = 0 := by omega
          simp [this.1, this.2]
        · simp; omega
      · simp at h1)
    have main : ∀ (i : Nat) (e : List PV) (j : Nat) (p : PV), (xs.map f)[i]? = some e → e[j]? = some p → ∃ v, w.cell? ⟨b, o + i * sz + j, none⟩ = some v ∧ Rep (InW w) w p v := by
      intro i e j p h1 h2
      rw [List.getElem?_map, Option.map_eq_some_iff] at h1
      obtain ⟨a, h3, rfl⟩ := h1
      obtain ⟨hi, rfl⟩ := List.getElem?_eq_some_iff.1 h3
      obtain ⟨cs', h4, h5⟩ := hx i hi
      have hj : j < sz := by
        have := (List.getElem?_eq_some_iff.1 h2).1
        rw [hf] at this; exact this
      have hlc : cs'.length = sz := by rw [← h5.1, hf]
      have h6 := h4 j hj
      rw [List.getElem?_eq_getElem (by omega)] at h6
      exact ⟨_, h6, h5.2 j p _ h2 (List.getElem?_eq_getElem (by omega))⟩
    refine ⟨.mk false xs, _, rfl, ?_, by have hmx : maxLen = 9223372036854775807 := rfl; show xs.length ≤ _; omega⟩
    refine Rep.slice false sz (xs.map f) b o len cap (fun i j => (w.cell? ⟨b, o + i * sz + j, none⟩).getD .nilFunc) (by simp [hxl]) hl ?_ ?_ ?_
    · intro i e h1
      rw [List.getElem?_map, Option.map_eq_some_iff] at h1
      obtain ⟨a, _, rfl⟩ := h1
      exact hf a
    · intro i e j p h1 h2
      obtain ⟨v, h3, _⟩ := main i e j p h1 h2
      exact ⟨cell_lt h3, by rw [h3]; rfl⟩
    · intro i e j p h1 h2
      obtain ⟨v, h3, h4⟩ := main i e j p h1 h2
      rw [h3]; exact h4
theorem rd_slice {α : Type} {f : α → List PV} {sz : Nat} {t e : TypeId} (ht : P.underlying t = some (.slice e)) (hc : P.cellsOf e = sz) (hf : ∀ a, (f a).length = sz)
    (he : ∀ (n : Nat) (cs : List Value) (x : DataW H × List MemPlace), DataW.trod enc P w 0 sp held n e cs = some x → ∃ a : α, PReps (InW w) w (f a) cs)
    {n : Nat} {cs : List Value} {x : DataW H × List MemPlace} (h : DataW.trod enc P w 0 sp held n t cs = some x) (hs : ∀ a len cap, cs = [.slice (some a) len cap] → a.spot = none) :
    ∃ (s : Sl α) (v : Value), cs = [v] ∧ Rep (InW w) w (s.pv f sz) v := by
  obtain ⟨s, v, h1, h2, _⟩ := rd_sliceB ht hc hf he h hs
  exact ⟨s, v, h1, h2⟩
end
section
variable {H : Type} {enc : TypeId × Value → H} {w : World} {sp : Nat → Bool} {held : Bool} {n : Nat} {cs : List Value} {x : DataW H × List MemPlace}
theorem cellsNote : Tryz.prog.cellsOf 88 = 4 := by kernel_rfl
theorem cellsHabit : Tryz.prog.cellsOf 23 = 3 := by kernel_rfl
theorem cellsSights : Tryz.prog.cellsOf 24 = 1 := by kernel_rfl
theorem cellsNotes : Tryz.prog.cellsOf 25 = 1 := by kernel_rfl
theorem cellsLife : Tryz.prog.cellsOf 27 = 5 := by kernel_rfl
theorem rd_note (h : DataW.trod enc Tryz.prog w 0 sp held n 88 cs = some x) : ∃ s : Note, PReps (InW w) w s.cells cs := by
  obtain ⟨hl, m, hf⟩ := trod_fields Tryz.underlying88 h
  rw [cellsNote] at hl
  match cs, hl with
  | [c0, c1, c2, c3], _ =>
    simp only [List.toList_toArray, List.mem_cons, List.not_mem_nil, or_false, forall_eq_or_imp, forall_eq, cellsInt, List.drop, List.take] at hf
    obtain ⟨⟨y0, h0⟩, ⟨y1, h1⟩, ⟨y2, h2⟩, ⟨y3, h3⟩⟩ := hf
    obtain ⟨a, e0, _⟩ := rd_int h0
    obtain ⟨b, e1, _⟩ := rd_int h1
    obtain ⟨c, e2, _⟩ := rd_int h2
    obtain ⟨d, e3, _⟩ := rd_int h3
    simp at e0 e1 e2 e3
    subst e0 e1 e2 e3
    exact ⟨⟨a, b, c, d⟩, .cons (.int ..) <| .cons (.int ..) <| .cons (.int ..) <| .cons (.int ..) .nil⟩
theorem rd_sights (h : DataW.trod enc Tryz.prog w 0 sp held n 24 cs = some x) (hs : ∀ a len cap, cs = [.slice (some a) len cap] → a.spot = none) : ∃ (s : Sl Sight) (v : Value), cs = [v] ∧ Rep (InW w) w (s.pv Sight.cells 9) v :=
  rd_slice Tryz.underlying24 cellsSight (fun _ => rfl) (fun n cs x h => by
    obtain ⟨s, rfl⟩ := rd_sight h
    exact ⟨s, rep_sight s⟩) h hs
theorem rd_notes (h : DataW.trod enc Tryz.prog w 0 sp held n 25 cs = some x) (hs : ∀ a len cap, cs = [.slice (some a) len cap] → a.spot = none) : ∃ (s : Sl Note) (v : Value), cs = [v] ∧ Rep (InW w) w (s.pv Note.cells 4) v :=
  rd_slice Tryz.underlying25 cellsNote (fun _ => rfl) (fun n cs x h => rd_note h) h hs
theorem rd_ints (h : DataW.trod enc Tryz.prog w 0 sp held n 55 cs = some x) (hs : ∀ a len cap, cs = [.slice (some a) len cap] → a.spot = none) : ∃ (s : Sl Int) (v : Value), cs = [v] ∧ Rep (InW w) w (s.pv intF 1) v :=
  rd_slice Tryz.underlying55 cellsInt (fun _ => rfl) (fun n cs x h => by
    obtain ⟨a, rfl, _⟩ := rd_int h
    exact ⟨a, .cons (.int ..) .nil⟩) h hs
/-- A cell that may be a slice lies at no place without cells. -/
theorem spot_of {r : Reach} {base : Nat} {t e : TypeId} {a : Addr} {len cap : Nat} (ht : Tryz.prog.underlying t = some (.slice e)) (h : Cell.okWide Tryz.prog w r base t (.slice (some a) len cap)) : a.spot = none := by
  unfold Cell.okWide at h
  rw [ht] at h
  unfold Cell.ok at h
  rw [ht] at h
  exact h.2.2.2.1
theorem typesLife : Tryz.prog.cellTypes Tryz.prog.depth 27 = some [3, 3, 3, 24, 25] := by kernel_rfl
theorem rd_life {r : Reach} {base : Nat} {v : Value} {d : DataW H} {ps : List MemPlace} (hok : Value.okWide Tryz.prog w r base 27 v) (h : DataW.Trod enc Tryz.prog w 0 sp held 27 v d ps) : ∃ l : Life, Rep (InW w) w (.agg l.cells) v := by
  unfold Value.okWide at hok
  simp only [Tryz.underlying27] at hok
  obtain ⟨cs, rfl, _, ts, hts, _, hcell⟩ := hok
  rw [typesLife] at hts
  obtain rfl := Option.some.inj hts
  obtain ⟨fuel, hf⟩ := h
  obtain ⟨hl, m, hf⟩ := trod_fields Tryz.underlying27 hf
  rw [cellsLife] at hl
  simp only [Value.cells] at hl hf
  obtain ⟨cs⟩ := cs
  match cs, hl with
  | [c0, c1, c2, c3, c4], _ =>
    simp only [List.toList_toArray, List.mem_cons, List.not_mem_nil, or_false, forall_eq_or_imp, forall_eq, cellsHabit, cellsSights, cellsNotes, List.drop, List.take] at hf
    obtain ⟨⟨y0, h0⟩, ⟨y1, h1⟩, ⟨y2, h2⟩⟩ := hf
    obtain ⟨_, m2, hh⟩ := trod_fields Tryz.underlying23 h0
    simp only [List.toList_toArray, List.mem_cons, List.not_mem_nil, or_false, forall_eq_or_imp, forall_eq, cellsInt, List.drop, List.take] at hh
    obtain ⟨⟨z0, g0⟩, ⟨z1, g1⟩, ⟨z2, g2⟩⟩ := hh
    obtain ⟨a, e0, _⟩ := rd_int g0
    obtain ⟨b, e1, _⟩ := rd_int g1
    obtain ⟨c, e2, _⟩ := rd_int g2
    simp at e0 e1 e2
    subst e0 e1 e2
    obtain ⟨s, v3, e3, r3⟩ := rd_sights h1 (fun a len cap e => by
      simp at e; subst e
      obtain ⟨u, hu, hc⟩ := hcell 3 _ rfl
      simp at hu; subst hu
      exact spot_of Tryz.underlying24 hc)
    obtain ⟨q, v4, e4, r4⟩ := rd_notes h2 (fun a len cap e => by
      simp at e; subst e
      obtain ⟨u, hu, hc⟩ := hcell 4 _ rfl
      simp at hu; subst hu
      exact spot_of Tryz.underlying25 hc)
    simp at e3 e4
    subst e3 e4
    exact ⟨⟨⟨a, b, c⟩, s, q⟩, rep_agg (.cons (.int ..) <| .cons (.int ..) <| .cons (.int ..) <| .cons r3 <| .cons r4 .nil)⟩
theorem rd_course {r : Reach} {base : Nat} {v : Value} {d : DataW H} {ps : List MemPlace} (hok : Value.okWide Tryz.prog w r base 55 v) (h : DataW.Trod enc Tryz.prog w 0 sp held 55 v d ps) : ∃ c : Sl Int, Rep (InW w) w (c.pv intF 1) v := by
  obtain ⟨a0, len, cap, rfl⟩ := Go.WideShapes.okWide_slice Tryz.underlying55 hok
  obtain ⟨fuel, hf⟩ := h
  obtain ⟨s, v, e, hr⟩ := rd_ints hf (fun a len cap e => by
    simp [Value.cells] at e
    obtain ⟨rfl, rfl, rfl⟩ := e
    unfold Value.okWide at hok
    simp only [Tryz.underlying55] at hok
    exact spot_of Tryz.underlying55 hok)
  simp [Value.cells] at e
  subst e
  exact ⟨s, hr⟩
end
end Go.Proofs.YtnomliioadjdgaaGreat.Vm

namespace Go.Proofs.YtnomliioadjdgaaGreat.Vm
open Go
set_option linter.unusedVariables false
set_option linter.unusedSimpArgs false
set_option maxRecDepth 100000
section
variable {H : Type} {enc : TypeId × Value → H} {w : World} {sp : Nat → Bool} {held : Bool} {n : Nat} {cs : List Value} {x : DataW H × List MemPlace}
theorem cellsPoint : Tryz.prog.cellsOf 78 = 2 := by kernel_rfl
theorem cellsPoints : Tryz.prog.cellsOf 53 = 1 := by kernel_rfl
theorem cellsStrings : Tryz.prog.cellsOf 54 = 1 := by kernel_rfl
theorem cellsInts : Tryz.prog.cellsOf 55 = 1 := by kernel_rfl
theorem cellsLived : Tryz.prog.cellsOf 57 = 4 := by kernel_rfl
theorem rd_point (h : DataW.trod enc Tryz.prog w 0 sp held n 78 cs = some x) : ∃ s : Pt, PReps (InW w) w s.cells cs := by
  obtain ⟨hl, m, hf⟩ := trod_fields Tryz.underlying78 h
  rw [cellsPoint] at hl
  match cs, hl with
  | [c0, c1], _ =>
    simp only [List.toList_toArray, List.mem_cons, List.not_mem_nil, or_false, forall_eq_or_imp, forall_eq, cellsInt, List.drop, List.take] at hf
    obtain ⟨⟨y0, h0⟩, ⟨y1, h1⟩⟩ := hf
    obtain ⟨a, e0, _⟩ := rd_int h0
    obtain ⟨b, e1, _⟩ := rd_int h1
    simp at e0 e1
    subst e0 e1
    exact ⟨⟨a, b⟩, .cons (.int ..) <| .cons (.int ..) .nil⟩
theorem rd_points (h : DataW.trod enc Tryz.prog w 0 sp held n 53 cs = some x) (hs : ∀ a len cap, cs = [.slice (some a) len cap] → a.spot = none) : ∃ (s : Sl Pt) (v : Value), cs = [v] ∧ Rep (InW w) w (s.pv Pt.cells 2) v :=
  rd_slice Tryz.underlying53 cellsPoint (fun _ => rfl) (fun n cs x h => rd_point h) h hs
theorem rd_strings (h : DataW.trod enc Tryz.prog w 0 sp held n 54 cs = some x) (hs : ∀ a len cap, cs = [.slice (some a) len cap] → a.spot = none) : ∃ (s : Sl (List UInt8)) (v : Value), cs = [v] ∧ Rep (InW w) w (s.pv strF 1) v ∧ s.xs.length ≤ 9223372036854775807 :=
  rd_sliceB Tryz.underlying54 cellsString (fun _ => rfl) (fun n cs x h => by
    obtain ⟨l, rfl⟩ := rd_string h
    exact ⟨l, .cons (.str ..) .nil⟩) h hs
theorem typesLived : Tryz.prog.cellTypes Tryz.prog.depth 57 = some [53, 54, 55, 55] := by kernel_rfl
theorem rd_lived {r : Reach} {base : Nat} {v : Value} {d : DataW H} {ps : List MemPlace} (hok : Value.okWide Tryz.prog w r base 57 v) (h : DataW.Trod enc Tryz.prog w 0 sp held 57 v d ps) : ∃ x : Lived, Rep (InW w) w (.agg x.cells) v ∧ x.letters.xs.length ≤ 9223372036854775807 := by
  unfold Value.okWide at hok
  simp only [Tryz.underlying57] at hok
  obtain ⟨cs, rfl, _, ts, hts, _, hcell⟩ := hok
  rw [typesLived] at hts
  obtain rfl := Option.some.inj hts
  obtain ⟨fuel, hf⟩ := h
  obtain ⟨hl, m, hf⟩ := trod_fields Tryz.underlying57 hf
  rw [cellsLived] at hl
  simp only [Value.cells] at hl hf
  obtain ⟨cs⟩ := cs
  match cs, hl with
  | [c0, c1, c2, c3], _ =>
    simp only [List.toList_toArray, List.mem_cons, List.not_mem_nil, or_false, forall_eq_or_imp, forall_eq, cellsPoints, cellsStrings, cellsInts, List.drop, List.take] at hf
    obtain ⟨⟨y0, h0⟩, ⟨y1, h1⟩, ⟨y2, h2⟩, ⟨y3, h3⟩⟩ := hf
    obtain ⟨a, v0, e0, r0⟩ := rd_points h0 (fun a len cap e => by
      simp at e; subst e
      obtain ⟨u, hu, hc⟩ := hcell 0 _ rfl
      simp at hu; subst hu
      exact spot_of Tryz.underlying53 hc)
    obtain ⟨b, v1, e1, r1, hb⟩ := rd_strings h1 (fun a len cap e => by
      simp at e; subst e
      obtain ⟨u, hu, hc⟩ := hcell 1 _ rfl
      simp at hu; subst hu
      exact spot_of Tryz.underlying54 hc)
    obtain ⟨c, v2, e2, r2⟩ := rd_ints h2 (fun a len cap e => by
      simp at e; subst e
      obtain ⟨u, hu, hc⟩ := hcell 2 _ rfl
      simp at hu; subst hu
      exact spot_of Tryz.underlying55 hc)
    obtain ⟨d, v3, e3, r3⟩ := rd_ints h3 (fun a len cap e => by
      simp at e; subst e
      obtain ⟨u, hu, hc⟩ := hcell 3 _ rfl
      simp at hu; subst hu
      exact spot_of Tryz.underlying55 hc)
    simp at e0 e1 e2 e3
    subst e0 e1 e2 e3
    exact ⟨⟨a, b, c, d⟩, rep_agg (.cons r0 <| .cons r1 <| .cons r2 <| .cons r3 .nil), hb⟩
end
end Go.Proofs.YtnomliioadjdgaaGreat.Vm

namespace Go.Proofs.YtnomliioadjdgaaGreat
open Go Go.ChangeShapes Go.WideShapes Go.ChangeAt Go.RowKit Go.Proofs.YtnomliioadjdgaaGreat.Vm
set_option linter.unusedVariables false

theorem own : ownKnob Tryz.prog.godebug = none := by kernel_rfl
theorem laidOut : laidOutB Tryz.prog = true := by kernel_rfl

theorem fitWalk (l : Life) (x : Lived) (hx : x.letters.xs.length ≤ 9223372036854775807) (v0 v1 : Value) (w : World) (h0 : Rep (InW w) w (.agg l.cells) v0) (h1 : Rep (InW w) w (.agg x.cells) v1) : Calls Tryz.prog 6 #[v0, v1] w
    fun e w' => e = .returned (.bool true) ∧ Below w.heap.size w w' := by
  have h := (callP_sound gOk (fit_law l x hx)).2 0 (InW w) w [v0, v1] (fun _ _ h => h) (.cons h0 (.cons h1 .nil))
  refine (callsIn_wide.1 h).mono fun e w' ⟨v, he, hb, hv⟩ => ?_
  rw [hv.bool_inv] at he
  exact ⟨he, hb⟩

set_option maxRecDepth 100000 in
theorem fitLifted (os : Os) (started : os.Started) (H : Type) (enc : TypeId × Value → H) :
    ReturnsInHanded {} Tryz.checked os 6 .any (Rows.stoneTruthsFitSpec.pre6 enc Tryz.prog Tryz.f6 Rows.stoneTruthsFitRow.domain false) (Rows.stoneTruthsFitSpec.post enc Tryz.prog Tryz.f6 false true false false) := by
  refine returnsInHanded_of_change (C := Tryz.checked) own started (by kernel_rfl) Tryz.func6
    (ChangeSpec.witness6 (enc := enc) (C := Tryz.checked) false ⟨#[], #[.agg #[.int .i64 0, .int .i64 0, .int .i64 0, .slice none 0 0, .slice none 0 0], .agg #[.slice none 0 0, .slice none 0 0, .slice none 0 0, .slice none 0 0]], []⟩ 8 (by kernel_rfl) (by kernel_rfl) (by kernel_rfl) (by kernel_rfl)) ?_
  intro W base args ds gs before hval0 hW hcnd _
  have hval : ∀ (j : Nat) t v, Tryz.f6.params[j]? = some t → args[j]? = some v → Value.okWide Tryz.prog W .any base t v := hval0
  have hW' := hW
  obtain ⟨p, q, hA0, hV, rfl, hfz, hnd⟩ := hW
  have hA : DataW.TrodAll enc Tryz.prog W 0 (fun _ => true) true Tryz.f6.params.toList args.toList ds p := hA0
  rw [Tryz.params6] at hA hval
  obtain ⟨v0, vs0, d0, ds0, p0, q0, hargs, rfl, rfl, h0, r0⟩ := trodAll_cons hA
  obtain ⟨v1, vs1, d1, ds1, p1, q1, rfl, rfl, rfl, h1, r1⟩ := trodAll_cons r0
  obtain ⟨rfl, rfl, rfl⟩ := trodAll_nil r1
  obtain rfl : args = #[v0, v1] := by cases args; simp_all
  obtain ⟨rfl, rfl⟩ := trodVars_none hV
  have lt0 : ∀ x ∈ p0, x.block < W.heap.size := by obtain ⟨m, hm⟩ := h0; exact DataW.trod_lt m _ _ _ hm
  have lt1 : ∀ x ∈ p1, x.block < W.heap.size := by obtain ⟨m, hm⟩ := h1; exact DataW.trod_lt m _ _ _ hm
  obtain ⟨l, g0⟩ := rd_life (hval 0 27 v0 rfl rfl) h0
  obtain ⟨x, g1, hx⟩ := rd_lived (hval 1 57 v1 rfl rfl) h1
  clear hA0 hval0
  refine (fitWalk l x hx v0 v1 W g0 g1).mono fun e W' ⟨he, bel⟩ => ?_
  subst he
  exact ⟨_, rfl, _, _, _, [], _, [], hW', trodAll_mk1 (shut_bool Tryz.underlying4 _), (trodAll_cons_mk (Below.trod laidOut (by kernel_rfl) (of_decide_eq_true (by kernel_rfl)) h0 bel lt0) (trodAll_cons_mk (Below.trod laidOut (by kernel_rfl) (of_decide_eq_true (by kernel_rfl)) h1 bel lt1) trodAll_mk0)), rfl, bel.frame _, fun h => by cases h⟩

theorem fit_over : Rows.stoneTruthsFitRow.holds Tryz.pinned (OpenSpec.ofChange Rows.stoneTruthsFitSpec) :=
  OpenClaim.holds_of_wide 6 Tryz.f6 rfl rfl rfl rfl rfl rfl rfl ⟨rfl, rfl, rfl, rfl, rfl⟩ rfl rfl rfl rfl rfl (by kernel_rfl) Tryz.func6 (by kernel_rfl)
    (of_decide_eq_true (by kernel_rfl)) (by unfold Func.isWrapper; first | (rw [if_pos (by decide +kernel)]; kernel_rfl) | (rw [if_neg (by decide +kernel)]; exact ⟨rfl, rfl⟩))
    (fun os started H enc _ => fitLifted os started H enc)

theorem fit_proved : Rows.StoneTruthsFitSaid := fit_over
#print axioms fit_proved
end Go.Proofs.YtnomliioadjdgaaGreat
