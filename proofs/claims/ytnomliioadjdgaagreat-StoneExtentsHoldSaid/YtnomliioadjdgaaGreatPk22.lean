/- StoneExtentsHold answers true on all data, for the machine of values. -/
import Derived.Test.YtnomliioadjdgaaGreatPk19
import Derived.Test.YtnomliioadjdgaaGreatPk20
import Derived.Test.YtnomliioadjdgaaGreatPk21
namespace Go.Proofs.YtnomliioadjdgaaGreat.Vm
open Go
set_option linter.unusedSimpArgs false
set_option linter.unusedVariables false
set_option maxHeartbeats 8000000
theorem sh_sanityH : G.shared 9 = false := by decide
@[simp] theorem d_sanityH (H : Heap) : doCall (calleeOf G 60) H (.pure (.func 9 [])) [] = some (.val (.pure (.bool true))) := call_pure (ps := []) sh_sanityH sanity_run

/-- A part of an element of a row is written. -/
theorem putIn_rowP {α : Type} {f : α → List PV} {sz : Nat} {l : List α} {i off size : Nat} {vs : List PV} {b : α} (hf : ∀ a, (f a).length = sz) (hone : vs.all PV.one = true) (h0 : size ≠ 0) (h : i < l.length) (ho : off + size ≤ sz) (hl : vs.length = size)
    (hb : f b = (f l[i]).take off ++ vs ++ (f l[i]).drop (off + size)) : putIn (.cells true (rowOf f l)) size (i * sz + off) (vs.map .pure) = some (.cells true (rowOf f (l.set i b))) := by
  simp only [putIn]
  have hle : i * sz + sz ≤ (rowOf f l).length := by
    rw [rowOf_length hf, ← Nat.succ_mul]
    exact Nat.mul_le_mul_right sz h
  rw [if_pos ⟨by rw [List.length_map, hl], h0, all_one_pures _ hone, by omega⟩, ← rowOf_set hf h b, hb]
  obtain ⟨p, q, h1, h2⟩ := rowOf_part hf h
  have hX : ((f l[i]).map AV.pure).length = sz := by rw [List.length_map, hf]
  rw [h1, ← h2, List.append_assoc, List.append_assoc]
  have e1 : (p ++ ((f l[i]).map AV.pure ++ q)).take (p.length + off) = p ++ ((f l[i]).map AV.pure).take off := by
    rw [List.take_length_add_append, List.take_append_of_le_length (by omega)]
  have e2 : (p ++ ((f l[i]).map AV.pure ++ q)).drop (p.length + off + size) = ((f l[i]).map AV.pure).drop (off + size) ++ q := by
    rw [Nat.add_assoc, List.drop_length_add_append, List.drop_append_of_le_length (by omega)]
  have e3 : (p ++ ((f l[i]).map AV.pure ++ q)).take p.length = p := by
    simp
  have e4 : (p ++ ((f l[i]).map AV.pure ++ q)).drop (p.length + sz) = q := by
    rw [List.drop_length_add_append, ← hX, List.drop_left]
  rw [e1, e2, e3, e4]
  simp [List.map_append, List.map_take, List.map_drop, List.append_assoc]
theorem putIn_sightBox {l : List Sight} {k : Nat} {b : Box} (h : k < l.length) : putIn (.cells true (rowOf Sight.cells l)) 4 (k * 9 + 2) [.pure (.int .i64 b.x.lo), .pure (.int .i64 b.x.hi), .pure (.int .i64 b.y.lo), .pure (.int .i64 b.y.hi)] = some (.cells true (rowOf Sight.cells (l.set k { l[k] with box := b }))) :=
  putIn_rowP (f := Sight.cells) (sz := 9) (vs := [.int .i64 b.x.lo, .int .i64 b.x.hi, .int .i64 b.y.lo, .int .i64 b.y.hi]) (b := { l[k] with box := b }) (fun _ => rfl) rfl (by decide) h (by decide) rfl rfl

/-- A life with another box at k, as its own memory. -/
def seenL (l : Life) (k : Nat) (h : k < l.sights.xs.length) (B : Box) : Life := { l with sights := Sl.mk true (l.sights.xs.set k { l.sights.xs[k] with box := B }) }
theorem seen_box {l : Life} {k : Nat} {h : k < l.sights.xs.length} {B : Box} : BoxAt l (seenL l k h B) k B := ⟨rfl, rfl, h, by rw [getElem!_pos l.sights.xs k h]; rfl⟩
theorem seen_short {l : Life} {k : Nat} {h : k < l.sights.xs.length} {B : Box} (hs : shortS l) : shortS (seenL l k h B) := by
  intro h1 h2 s hs'
  have e : (seenL l k h B).sights.xs.length = l.sights.xs.length := (seen_box (h := h) (B := B)).len
  have : (seenL l k h B).sights.xs = l.sights.xs.set k { l.sights.xs[k] with box := B } := rfl
  rw [this] at hs'
  rcases List.mem_or_eq_of_mem_set hs' with h3 | rfl
  · exact hs (by omega) h2 s h3
  · exact (hs (by omega) h2 l.sights.xs[k] (List.getElem_mem h) : l.sights.xs[k].letters.length ≤ 20)
theorem ext_cases (l : Life) (m : Nat) : ∃ (A : Sl Box) (e : Int), extE l m = .tup [A.pv Box.cells 4, .int .i64 e] ∧ ((e ≠ 0 ∧ possS l m = false) ∨ (e = 0 ∧ Right l ∧ ∃ B, A = Sl.mk false B ∧ extL l m = some B)) := by
  unfold extE
  by_cases hck : checkS l = 0
  · rw [if_pos hck, if_neg (by omega)]
    have hr := (right_iff l).1 hck
    cases ho : extL l m with
    | none =>
      refine ⟨.nil, 9, rfl, .inl ⟨by omega, ?_⟩⟩
      rw [Bool.eq_false_iff]
      intro h
      exact ext_none_poss hr ho (poss_iff.1 h).2
    | some B => exact ⟨.mk false B, 0, rfl, .inr ⟨rfl, hr, B, rfl, rfl⟩⟩
  · rw [if_neg hck]
    refine ⟨.nil, _, rfl, .inl ⟨hck, ?_⟩⟩
    unfold possS; simp [hck]
theorem hold_law (l : Life) (c a k : Nat) (hc : c < 256) (ha : a < 256) (hk : k < 256) : callP G 61 4 [.agg l.cells, .int .u8 c, .int .u8 a, .int .u8 k] = some (.bool true) := by
  refine callP_of (n := 60) (ext_none _) rfl g4 rfl ?_
  have hfew : ∀ H, doCall (calleeOf G 60) H (.pure (.func 8 [])) [.pure (.agg l.cells)] = some (.val (.pure (.bool (fewS l)))) := fun H => d8 59 H l.habit.step l.habit.place l.habit.sink l.sights l.notes
  simp only [Life.cells] at hfew
  by_cases hf : fewS l = true
  case neg =>
    simp only [Bool.not_eq_true] at hf
    rw [hf] at hfew
    (repeat' first | simp [*, initEnv, c4] | (refine wpIf_two (fun _ h => ?_) (fun _ h => ?_) <;> try simp [-Nat.le_zero_eq] at h))
  have hs := few_short hf
  rw [hf] at hfew
  clear hf
  by_cases hn0 : l.sights.xs.length = 0
  · clear hs
    (repeat' first | simp [*, initEnv, c4] | (refine wpIf_two (fun _ h => ?_) (fun _ h => ?_) <;> try simp [-Nat.le_zero_eq] at h))
  obtain ⟨m, hm⟩ : ∃ m, m = c % 7 := ⟨_, rfl⟩
  have hm7 : m < 7 := by omega
  have hmf : m < 9223372036854775807 := by omega
  have wc : IntKind.i64.wrap (c : Int) = c := wrap64 (by omega) (by omega)
  have wa : IntKind.i64.wrap (a : Int) = a := wrap64 (by omega) (by omega)
  have wk : IntKind.i64.wrap (k : Int) = k := wrap64 (by omega) (by omega)
  have tc : (c : Int).tmod 7 = m := by rw [Int.tmod_eq_emod_of_nonneg (by omega)]; omega
  clear hm
  obtain ⟨A, e, hE, hAe⟩ := ext_cases l m
  have h1 : ∀ H, doCall (calleeOf G 60) H (.pure (.func 10 [])) [.pure (.agg l.cells), .pure (.int .i64 (m : Nat))] = some (.val (.pure (.tup [A.pv Box.cells 4, .int .i64 e]))) := fun H => by rw [← hE]; exact d10 49 H l.habit.step l.habit.place l.habit.sink l.sights l.notes m hs
  simp only [Life.cells] at h1
  clear hE
  rcases hAe with ⟨he, hp⟩ | ⟨he, hr, B, rfl, hB⟩
  · have h2 : ∀ H, doCall (calleeOf G 60) H (.pure (.func 15 [])) [.pure (.agg l.cells), .pure (.int .i64 (m : Nat))] = some (.val (.pure (.bool false))) := fun H => by
      rw [← hp]; exact d15 49 H l.habit.step l.habit.place l.habit.sink l.sights l.notes m hs (by omega)
    simp only [Life.cells] at h2
    clear hs hp
    (repeat' first | simp [*, initEnv, c4] | (refine wpIf_two (fun _ h => ?_) (fun _ h => ?_) <;> try simp [-Nat.le_zero_eq] at h))
  subst he
  obtain ⟨B2, hB2, hl2, hcov⟩ := ext_more hr hB
  have hBk := extL_ok hr hB
  have hB2k := extL_ok hr hB2
  obtain ⟨N, hN⟩ : ∃ N, N = l.sights.xs.length := ⟨_, rfl⟩
  have hN9 : N ≤ 9 := by have := hr.nine; omega
  have h2 : ∀ H, doCall (calleeOf G 60) H (.pure (.func 10 [])) [.pure (.agg l.cells), .pure (.int .i64 ((m : Int) + 1))] = some (.val (.pure (.tup [(Sl.mk false B2).pv Box.cells 4, .int .i64 0]))) := fun H => by
    have : extE l ((m : Int) + 1) = .tup [(Sl.mk false B2).pv Box.cells 4, .int .i64 0] := by
      unfold extE
      rw [if_pos ((right_iff l).2 hr), if_neg (by omega), hB2]
    rw [← this]; exact d10 49 H l.habit.step l.habit.place l.habit.sink l.sights l.notes ((m : Int) + 1) hs
  simp only [Life.cells] at h2
  have hcov' : Hide (∀ i, i < N → coverB B[i]! B2[i]! = B2[i]!) := ⟨by rw [hN]; exact hcov⟩
  have hBl : B.length = N := by rw [hN]; exact hBk.1
  have hB2l : B2.length = N := by rw [hN]; exact hl2
  have hlN : l.sights.xs.length = N := hN.symm
  have hpB : Hide _ := ⟨hBk.2⟩
  have hpB2 : Hide _ := ⟨hB2k.2⟩
  obtain ⟨K, hK⟩ : ∃ K, K = a % N := ⟨_, rfl⟩
  have hN0 : N ≠ 0 := by omega
  have hKN : K < N := by rw [hK]; exact Nat.mod_lt _ (by omega)
  have ta : (a : Int).tmod (N : Int) = K := by rw [Int.tmod_eq_emod_of_nonneg (by omega), hK]; omega
  obtain ⟨q, hq⟩ : ∃ q, q = k % 4 := ⟨_, rfl⟩
  have hq4 : q < 4 := by omega
  have tk : (k : Int).tmod 4 = q := by rw [Int.tmod_eq_emod_of_nonneg (by omega)]; omega
  have hKl : K < l.sights.xs.length := by omega
  have hKB : K < B.length := by omega
  have hgB : B[K]! = B[K] := getElem!_pos B K hKB
  -- the two lives
  have hp1 : possS (seenL l K hKl (sideS B[K] q)) m = true := by
    refine poss_iff.2 ⟨(right_iff _).2 (seen_box.right hr (side_proper (hBk.2 _ (List.getElem_mem hKB)) q)), ?_⟩
    exact ext_side hr hB (k := K) (n := q) (by rw [hgB]; exact seen_box)
  have hp2 : properS (outS l.sights.xs[K].box B[K] q) = true → possS (seenL l K hKl (outS l.sights.xs[K].box B[K] q)) m = false := fun hp => by
    rw [Bool.eq_false_iff]
    intro h
    have hg : l.sights.xs[K]! = l.sights.xs[K] := getElem!_pos l.sights.xs K hKl
    exact ext_out hr hB (k := K) (n := q) (by rw [hgB, hg]; exact seen_box) (by rw [hgB, hg]; exact hp) (poss_iff.1 h).2
  have hcall : ∀ (D : Box), callP G 60 15 [.agg (seenL l K hKl D).cells, .int .i64 (m : Nat)] = some (.bool (possS (seenL l K hKl D) m)) := fun D => e15 49 (seenL l K hKl D) m (seen_short hs) (by omega)
  have hsl : ∀ H, sliceCells H 9 (.pure (l.sights.pv Sight.cells 9)) = some (rowOf Sight.cells l.sights.xs, l.sights.xs.length) := fun H => sliceCells_sl' (f := Sight.cells) (sz := 9) (fun _ => rfl) l.sights
  have hBKp := proper_iff.1 (hBk.2 _ (List.getElem_mem hKB))
  have q1 : Hide _ := ⟨hp1⟩
  have q2 : Hide _ := ⟨hp2⟩
  have q3 : Hide _ := ⟨hcall⟩
  have q4 : Hide _ := ⟨hsl⟩
  have q5 : Hide _ := ⟨hBKp⟩
  have q6 : Hide _ := ⟨hN⟩
  clear hp1 hp2 hcall hsl hBKp hs hr hB hB2 hcov hBk hB2k hl2 hgB hK hq hN
  (repeat' first | simp [*, initEnv, c4] | (refine wpIf_two (fun _ h => ?_) (fun _ h => ?_) <;> try simp [-Nat.le_zero_eq] at h))
  refine wp_loopF [(8, 8), (14, 16), (76, 103)] (fun (i : Nat) env H => env 14 = .pure (.int .i64 i) ∧ i ≤ N) (fun i => N - i) 0 ?_ ?_ ?_ ?_
  · decide
  · exact ⟨by simp, by omega⟩
  · simp only [loopFuel]; omega
  rintro i env H ⟨g0, hi⟩
  have hfit : i < 9223372036854775807 := by omega
  by_cases hlt : i < N
  · have p1 : i < B.length := by omega
    have p2 : i < B2.length := by omega
    have w := hcov'.h i hlt
    rw [getElem!_pos B i p1, getElem!_pos B2 i p2] at w
    have r1 : ∀ H, doCall (calleeOf G 60) H (.pure (.func 16 [])) [.pure (.agg B[i].cells), .pure (.agg B2[i].cells)] = some (.val (.pure (.tup [.agg B2[i].cells, .bool true]))) := fun H => by
      have := d16 56 H B[i].x.lo B[i].x.hi B[i].y.lo B[i].y.hi B2[i].x.lo B2[i].x.hi B2[i].y.lo B2[i].y.hi (hpB.h _ (List.getElem_mem _)) (hpB2.h _ (List.getElem_mem _))
      simp only [Box.eta, Span.eta] at this
      rw [w] at this
      exact this
    simp only [Box.cells] at r1
    clear w h1 h2 hfew
    (repeat' first | simp [*, initEnv, st_aggEq, cellsEq, isAggV] | (refine wpIf_two (fun _ h => ?_) (fun _ h => ?_) <;> try simp [-Nat.le_zero_eq] at h))
    exact ⟨i + 1, by omega, by omega, by omega⟩
  · have hn : i = N := by omega
    subst hn
    clear h1 h2 hfew hpB hpB2 hcov' hB2l tc wc
    (repeat' first | simp [*, initEnv] | (refine wpIf_two (fun _ h => ?_) (fun _ h => ?_) <;> try simp [-Nat.le_zero_eq] at h))
    refine wpE_appendL (f := Sight.cells) (l := []) (m := l.sights.xs) (.inr ⟨H.nx + 1, rfl, by simp [rowOf_nil]⟩) (fun _ => rfl) (by decide) (fun _ => rfl) (q4.h _) (by simp [maxCells]; omega) ?_
    rintro v' H' hov hnx hsame hnames
    rw [List.nil_append] at hov
    rcases hov with ⟨h0, _⟩ | ⟨id, rfl, hg⟩
    · exfalso; rw [h0] at hlN; simp at hlN; omega
    have hidn : H.nx < id := by
      rcases hnames id ⟨_, _, _, rfl⟩ with ⟨_, _, _, h⟩ | h
      · simp at h; omega
      · have : H.nx + 2 ≤ id := h
        omega
    have hbox := hsame H.nx (by show H.nx < H.nx + 2; omega) (by rintro ⟨_, _, _, h⟩; simp at h)
    rw [get_alloc_lt (by show H.nx < H.nx + 1; omega), get_set_same (by show H.nx < H.nx + 1; omega)] at hbox
    have hidlt := nx_of_get hg
    have hbxlt := nx_of_get hbox
    clear hsame hnames hnx q4
    generalize H.nx = bx at *
    obtain ⟨D, hD⟩ : ∃ D, D = sideS B[K] q := ⟨_, rfl⟩
    obtain ⟨L1, hL1⟩ : ∃ L1, L1 = l.sights.xs.set K { l.sights.xs[K] with box := D } := ⟨_, rfl⟩
    have hL1l : L1.length = i := by rw [hL1, List.length_set]; exact hlN
    have put1 : putIn (.cells true (rowOf Sight.cells l.sights.xs)) 4 (K * 9 + 2) [.pure (.int .i64 D.x.lo), .pure (.int .i64 D.x.hi), .pure (.int .i64 D.y.lo), .pure (.int .i64 D.y.hi)] = some (.cells true (rowOf Sight.cells L1)) := by
      rw [hL1]; exact putIn_sightBox hKl
    have hside : ∀ H, doCall (calleeOf G 60) H (.pure (.func 17 [])) [.pure (.agg B[K].cells), .pure (.int .i64 (q : Nat))] = some (.val (.pure (.agg D.cells))) := fun H => by
      rw [hD]; exact d17 59 H B[K].x.lo B[K].x.hi B[K].y.lo B[K].y.hi q hq4
    have c1 : callP G 60 15 [.agg [.int .i64 l.habit.step, .int .i64 l.habit.place, .int .i64 l.habit.sink, (Sl.mk true L1).pv Sight.cells 9, l.notes.pv Note.cells 4], .int .i64 (m : Nat)] = some (.bool true) := by
      have := q3.h (sideS B[K] q)
      rw [q1.h] at this
      rw [hL1, hD]; exact this
    have hL1' : Hide _ := ⟨hL1⟩
    simp only [Box.cells] at hside
    have hnid : ¬ (bx = id) := by omega
    have hnid2 : ¬ (id = bx) := by omega
    have hb1 : ¬ (bx = H'.nx) := by omega
    have hb2 : ¬ (id = H'.nx) := by omega
    have hb3 : ¬ (H'.nx = bx) := by omega
    have hb4 : ¬ (H'.nx = id) := by omega
    clear hL1 hD q1
    (repeat' first | simp [*, initEnv] | (refine wpIf_two (fun _ h => ?_) (fun _ h => ?_) <;> try simp [-Nat.le_zero_eq] at h))
    have w1 : IntKind.i64.wrap (B[K].x.lo - 1) = B[K].x.lo - 1 := by have := q5.h; exact wrap64 (by omega) (by omega)
    have w2 : IntKind.i64.wrap (B[K].x.hi + 1) = B[K].x.hi + 1 := by have := q5.h; exact wrap64 (by omega) (by omega)
    have w3 : IntKind.i64.wrap (B[K].y.lo - 1) = B[K].y.lo - 1 := by have := q5.h; exact wrap64 (by omega) (by omega)
    have w4 : IntKind.i64.wrap (B[K].y.hi + 1) = B[K].y.hi + 1 := by have := q5.h; exact wrap64 (by omega) (by omega)
    refine wpE_own (ps := [.agg [.int .i64 l.habit.step, .int .i64 l.habit.place, .int .i64 l.habit.sink, (Sl.mk true L1).pv Sight.cells 9, l.notes.pv Note.cells 4], .int .i64 (m : Nat)]) (caps := []) (by decide) (.cons (FrzK.aggV (n := 11) (.cons (.pure (n := 10) _) (.cons (.pure (n := 10) _) (.cons (.pure (n := 10) _) (.cons (HeadV.frz (n := 9) (f := Sight.cells) (fun _ => rfl) ⟨id, [], by simp [*], by simp [*]⟩) (.cons (.pure (n := 10) _) .nil)))))) (.cons (.pure (n := 11) _) .nil)) c1 rfl ?_
    have hK1 : K < L1.length := by omega
    obtain ⟨O, hO⟩ : ∃ O, O = outS l.sights.xs[K].box B[K] q := ⟨_, rfl⟩
    obtain ⟨L2, hL2⟩ : ∃ L2, L2 = l.sights.xs.set K { l.sights.xs[K] with box := O } := ⟨_, rfl⟩
    have hL2l : L2.length = i := by rw [hL2, List.length_set]; exact hlN
    have put2 : putIn (.cells true (rowOf Sight.cells L1)) 4 (K * 9 + 2) [.pure (.int .i64 O.x.lo), .pure (.int .i64 O.x.hi), .pure (.int .i64 O.y.lo), .pure (.int .i64 O.y.hi)] = some (.cells true (rowOf Sight.cells L2)) := by
      have e : L1.set K { L1[K] with box := O } = L2 := by
        have := hL1'.h
        subst this
        rw [hL2, List.set_set]
        simp
      have := putIn_sightBox (b := O) hK1
      rw [e] at this
      exact this
    have c2 : properS O = true → callP G 60 15 [.agg [.int .i64 l.habit.step, .int .i64 l.habit.place, .int .i64 l.habit.sink, (Sl.mk true L2).pv Sight.cells 9, l.notes.pv Note.cells 4], .int .i64 (m : Nat)] = some (.bool false) := fun hp => by
      have := q3.h O
      rw [hO] at hp this
      rw [q2.h hp] at this
      rw [hL2, hO]; exact this
    have hq : q = 0 ∨ q = 1 ∨ q = 2 ∨ q = 3 := by omega
    clear put1 hside c1 ta wa q3 q2 hL2 hL1' q5 hq4
    by_cases hp : properS O = true
    · have c3 := c2 hp
      clear c2
      have c4 : Hide _ := ⟨c3⟩
      clear c3
      rcases hq with rfl | rfl | rfl | rfl
      all_goals
        simp only [outS] at hO
        subst hO
        simp only at put2 hp
        (repeat' first | simp [*, initEnv] | (refine wpIf_two (fun _ h => ?_) (fun _ h => ?_) <;> try simp [-Nat.le_zero_eq] at h))
        refine wpE_own (ps := [.agg [.int .i64 l.habit.step, .int .i64 l.habit.place, .int .i64 l.habit.sink, (Sl.mk true L2).pv Sight.cells 9, l.notes.pv Note.cells 4], .int .i64 (m : Nat)]) (caps := []) (by decide) (.cons (FrzK.aggV (n := 11) (.cons (.pure (n := 10) _) (.cons (.pure (n := 10) _) (.cons (.pure (n := 10) _) (.cons (HeadV.frz (n := 9) (f := Sight.cells) (fun _ => rfl) ⟨id, [], by simp [*], by rw [get_set_same (by show id < H'.nx + 1; omega)]; simp⟩) (.cons (.pure (n := 10) _) .nil)))))) (.cons (.pure (n := 11) _) .nil)) c4.h rfl ?_
        (repeat' first | simp [*, initEnv] | (refine wpIf_two (fun _ h => ?_) (fun _ h => ?_) <;> try simp [-Nat.le_zero_eq] at h))
    · simp only [Bool.not_eq_true] at hp
      clear c2
      rcases hq with rfl | rfl | rfl | rfl
      all_goals
        simp only [outS] at hO
        subst hO
        simp only at put2 hp
        (repeat' first | simp [*, initEnv] | (refine wpIf_two (fun _ h => ?_) (fun _ h => ?_) <;> try simp [-Nat.le_zero_eq] at h))
end Go.Proofs.YtnomliioadjdgaaGreat.Vm
