/- The chapter's examples: sanity() returns true, by the machine's own run in the kernel. CheckMatch of the program; StoneMatchesAsSpecified answers true on all data, for the machine of values. -/
import Derived.Test.YtnomliioadjdgaaGreatPk15
import Derived.KernelRfl
import Derived.Test.YtnomliioadjdgaaGreatPk20
namespace Go.Proofs.YtnomliioadjdgaaGreat.Vm
open Go
theorem sanity_run : callP G 60 9 [] = some (.bool true) := by kernel_rfl
end Go.Proofs.YtnomliioadjdgaaGreat.Vm

namespace Go.Proofs.YtnomliioadjdgaaGreat.Vm
open Go
set_option linter.unusedSimpArgs false
set_option linter.unusedVariables false
set_option maxHeartbeats 4000000

/-- The first i of the pairs are good, and these are their ends. -/
def doneM (l all : List Pair) (i : Nat) (O T : List Int) : Prop := (∀ x, x ∈ O ↔ ∃ j, ∃ h : j < l.length, j < i ∧ l[j].one = x) ∧ (∀ x, x ∈ T ↔ ∃ j, ∃ h : j < l.length, j < i ∧ l[j].two = x) ∧ ∀ j, j < i → okM l all j
theorem sh31 : G.shared 31 = false := by decide
theorem e31 (n : Nat) (h : Habit) (l m : Sl Sight) (sm : Sl Pair) (one two : Sl Int) (hs : sm.xs.length < 1000) (ho : one.xs.length < 1000) (ht : two.xs.length < 1000) (P : Int) (hP : ansM h l.xs m.xs sm.xs one.xs two.xs P) : callP G (n + 7) 31 [.agg h.cells, l.pv Sight.cells 9, m.pv Sight.cells 9, sm.pv Pair.cells 2, one.pv intF 1, two.pv intF 1] = some (.int .i64 P) := by
  refine callP_of (ext_none _) rfl g31 rfl ?_
  have hck : ∀ H, doCall (calleeOf G (n + 6)) H (.pure (.func 66 [])) [.pure (.agg h.cells), .pure (l.pv Sight.cells 9), .pure (m.pv Sight.cells 9)] = .some (.val (.pure (.int .i64 (listE h l.xs m.xs)))) := fun H => d66 (n + 1) H _ _ _ l m
  simp only [Habit.cells] at hck
  by_cases hz : listE h l.xs m.xs = 0
  case neg =>
    have hPe := hP.1 hz
    rw [← hPe] at hck hz
    clear hP hPe
    (repeat' first | simp [*, initEnv, c31] | (refine wpIf_two (fun _ h => ?_) (fun _ h => ?_) <;> try simp [-Nat.le_zero_eq] at h))
  have hL := listed_of hz
  have hPg := (hP.2 hz).1
  have hPb := (hP.2 hz).2
  rw [hz] at hck
  clear hz hP
  have hall := pairsS_length hL
  have hpr : ∀ H, doCall (calleeOf G (n + 6)) H (.pure (.func 67 [])) [.pure (.agg h.cells), .pure (l.pv Sight.cells 9), .pure (m.pv Sight.cells 9)] = .some (.val (.pure ((Sl.of (pairsS h l.xs m.xs)).pv Pair.cells 2))) := fun H => d67 n H _ _ _ l m hL
  simp only [Habit.cells] at hpr
  obtain ⟨all, hal⟩ : ∃ all : Sl Pair, all = Sl.of (pairsS h l.xs m.xs) := ⟨_, rfl⟩
  have hax : all.xs = pairsS h l.xs m.xs := by rw [hal, Sl.xs_of]
  rw [← hal] at hpr
  have hal' : all.xs.length < 2000 := by rw [hax]; omega
  have hl40 := hL.l40
  have hm40 := hL.m40
  obtain ⟨A, hA⟩ := boolOf (insS' one.xs l.xs.length)
  obtain ⟨B, hB⟩ := boolOf (insS' two.xs m.xs.length)
  have h1 : ∀ H, doCall (calleeOf G (n + 6)) H (.pure (.func 70 [])) [.pure (one.pv intF 1), .pure (.int .i64 (l.xs.length : Nat))] = .some (.val (.pure (.bool A))) := fun H => d70 (n + 4) H one _ ho A hA
  have h2 : ∀ H, doCall (calleeOf G (n + 6)) H (.pure (.func 70 [])) [.pure (two.pv intF 1), .pure (.int .i64 (m.xs.length : Nat))] = .some (.val (.pure (.bool B))) := fun H => d70 (n + 4) H two _ ht B hB
  have hgood : Hide (A = true → B = true → matS sm.xs all.xs → sm.xs.length = one.xs.length + two.xs.length → (∀ p ∈ all.xs, p.one ∈ one.xs ∨ p.two ∈ two.xs) → P = 0) := ⟨fun a b c e f => hPg ⟨hax ▸ c, hax ▸ f, hA.1 a, hB.1 b, e⟩⟩
  have hbad : Hide (¬ (A = true ∧ B = true ∧ matS sm.xs all.xs ∧ sm.xs.length = one.xs.length + two.xs.length ∧ (∀ p ∈ all.xs, p.one ∈ one.xs ∨ p.two ∈ two.xs)) → P = 8) := ⟨fun hn => hPb fun g => hn ⟨hA.2 g.io, hB.2 g.it, hax ▸ g.mat, g.len, hax ▸ g.cov⟩⟩
  have w1 : IntKind.i64.wrap ((one.xs.length : Int) + (two.xs.length : Int)) = (one.xs.length : Int) + two.xs.length := wrap64 (by omega) (by omega)
  clear hPg hPb hA hB hL hal hax hall
  (repeat' first | simp [*, initEnv, c31] | (refine wpIf_two (fun _ h => ?_) (fun _ h => ?_) <;> try simp [-Nat.le_zero_eq] at h))
  clear hck hpr
  refine wp_loopF [(12, 12), (18, 18), (37, 63)] (fun (i : Nat) env H => env 37 = .pure (.int .i64 i) ∧ i ≤ sm.xs.length ∧ ∃ O T : List Int, H.get 0 = setO O ∧ H.get 1 = setO T ∧ doneM sm.xs all.xs i O T) (fun i => sm.xs.length - i) 0 ?_ ?_ ?_ ?_
  · decide
  · exact ⟨by simp, by omega, [], [], by simp, by simp, by simp, by simp, fun j hj => by omega⟩
  · simp only [loopFuel]; omega
  rintro i env H ⟨g0, hi, O, T, gO, gT, hn⟩
  have hfit : i < 9223372036854775807 := by omega
  by_cases hlt : i < sm.xs.length
  · have a1 := addrV_sl (f := Pair.cells) (sz := 2) (k := .i64) (s := sm) (n := i) hlt
    simp only [Pair.cells] at a1
    obtain ⟨C, hC⟩ := boolOf (sm.xs[i] ∈ all.xs)
    have hc := fun H => d68 (n + 4) H all sm.xs[i].one sm.xs[i].two hal' C hC
    obtain ⟨n1, n2, n3⟩ := id hn
    have hst : Hide (okM sm.xs all.xs i ↔ (¬ sm.xs[i].one ∈ O ∧ ¬ sm.xs[i].two ∈ T ∧ C = true)) := ⟨by
      rw [n1, n2, hC]
      constructor
      · intro ho
        obtain ⟨o1, o2⟩ := ho hlt
        refine ⟨?_, ?_, o1⟩
        · rintro ⟨j, hj, hji, he⟩; exact (o2 j hji).1 he
        · rintro ⟨j, hj, hji, he⟩; exact (o2 j hji).2 he
      · rintro ⟨o1, o2, o3⟩ h
        exact ⟨o3, fun k hk => ⟨fun e => o1 ⟨k, by omega, hk, e⟩, fun e => o2 ⟨k, by omega, hk, e⟩⟩⟩⟩
    have hno : Hide (¬ okM sm.xs all.xs i → P = 8) := ⟨fun e => hbad.h fun h => e (h.2.2.1 i)⟩
    have hyes : Hide (okM sm.xs all.xs i → doneM sm.xs all.xs (i + 1) (insS O sm.xs[i].one) (insS T sm.xs[i].two)) := ⟨fun ho => by
      refine ⟨fun x => ?_, fun x => ?_, fun j hj => ?_⟩
      · rw [mem_insS, n1]
        constructor
        · rintro (⟨j, h, h1, h2⟩ | rfl)
          · exact ⟨j, h, by omega, h2⟩
          · exact ⟨i, hlt, by omega, rfl⟩
        · rintro ⟨j, h, h1, h2⟩
          by_cases e : j = i
          · subst e; exact .inr h2.symm
          · exact .inl ⟨j, h, by omega, h2⟩
      · rw [mem_insS, n2]
        constructor
        · rintro (⟨j, h, h1, h2⟩ | rfl)
          · exact ⟨j, h, by omega, h2⟩
          · exact ⟨i, hlt, by omega, rfl⟩
        · rintro ⟨j, h, h1, h2⟩
          by_cases e : j = i
          · subst e; exact .inr h2.symm
          · exact .inl ⟨j, h, by omega, h2⟩
      · by_cases e : j = i
        · subst e; exact ho
        · exact n3 j (by omega)⟩
    generalize sm.xs[i] = x at *
    have lO := lt_of_get (H := H) (i := 0) (by rw [gO]; simp [setO])
    have lT := lt_of_get (H := H) (i := 1) (by rw [gT]; simp [setO])
    have z0 : ¬ (H.nx = 0) := by omega
    have z1 : ¬ (H.nx = 1) := by omega
    have z2 : ¬ (0 = H.nx) := by omega
    have z3 : ¬ (1 = H.nx) := by omega
    clear n1 n2 n3 hn hC hbad hgood h1 h2
    by_cases e1 : x.one ∈ O
    · have hP8 := hno.h fun h => (hst.h.1 h).1 e1
      have d1 : decide (x.one ∈ O) = true := by simpa using e1
      clear hst hno hyes e1
      (repeat' first | simp [*, initEnv] | (refine wpIf_two (fun _ h => ?_) (fun _ h => ?_) <;> try simp [-Nat.le_zero_eq] at h))
    · have d1 : decide (x.one ∈ O) = false := by simpa using e1
      by_cases e2 : x.two ∈ T
      · have hP8 := hno.h fun h => (hst.h.1 h).2.1 e2
        have d2 : decide (x.two ∈ T) = true := by simpa using e2
        clear hst hno hyes e1 e2
        (repeat' first | simp [*, initEnv] | (refine wpIf_two (fun _ h => ?_) (fun _ h => ?_) <;> try simp [-Nat.le_zero_eq] at h))
      · have d2 : decide (x.two ∈ T) = false := by simpa using e2
        cases C with
        | false =>
          have hP8 := hno.h fun h => by have := (hst.h.1 h).2.2; simp at this
          clear hst hno hyes e1 e2
          (repeat' first | simp [*, initEnv] | (refine wpIf_two (fun _ h => ?_) (fun _ h => ?_) <;> try simp [-Nat.le_zero_eq] at h))
        | true =>
          have t := hyes.h (hst.h.2 ⟨e1, e2, rfl⟩)
          clear hst hno hyes e1 e2
          (repeat' first | simp [*, initEnv] | (refine wpIf_two (fun _ h => ?_) (fun _ h => ?_) <;> try simp [-Nat.le_zero_eq] at h))
          exact ⟨i + 1, by omega, by omega, by omega, insS O x.one, rfl, insS T x.two, rfl, t⟩
  · have hmat : Hide (matS sm.xs all.xs) := ⟨fun j h => hn.2.2 j (by omega) h⟩
    clear hn
    (repeat' first | simp [*, initEnv] | (refine wpIf_two (fun _ h => ?_) (fun _ h => ?_) <;> try simp [-Nat.le_zero_eq] at h))
    refine wp_loopF [(12, 12), (20, 20), (66, 82)] (fun (i : Nat) env H => env 66 = .pure (.int .i64 i) ∧ i ≤ all.xs.length ∧ Hide (∀ j (h : j < all.xs.length), j < i → all.xs[j].one ∈ one.xs ∨ all.xs[j].two ∈ two.xs)) (fun i => all.xs.length - i) 0 ?_ ?_ ?_ ?_
    · decide
    · exact ⟨by simp, by omega, ⟨fun _ _ h => by omega⟩⟩
    · simp only [loopFuel]; omega
    clear g0 hi hfit hlt gO gT
    rintro i env2 H2 ⟨g0, hi, hn⟩
    have hfit : i < 9223372036854775807 := by omega
    by_cases hlt : i < all.xs.length
    · have a1 := addrV_sl (f := Pair.cells) (sz := 2) (k := .i64) (s := all) (n := i) hlt
      simp only [Pair.cells] at a1
      have f1 : ∀ H, doCall (calleeOf G (n + 6)) H (.pure (.func 69 [])) [.pure (one.pv intF 1), .pure (.int .i64 all.xs[i].one)] = .some (.val (.pure (.bool (decide (all.xs[i].one ∈ one.xs))))) := fun H => d69 (n + 4) H one _ ho
      have f2 : ∀ H, doCall (calleeOf G (n + 6)) H (.pure (.func 69 [])) [.pure (two.pv intF 1), .pure (.int .i64 all.xs[i].two)] = .some (.val (.pure (.bool (decide (all.xs[i].two ∈ two.xs))))) := fun H => d69 (n + 4) H two _ ht
      have hy : Hide ((all.xs[i].one ∈ one.xs ∨ all.xs[i].two ∈ two.xs) → ∀ j (h : j < all.xs.length), j < i + 1 → all.xs[j].one ∈ one.xs ∨ all.xs[j].two ∈ two.xs) := ⟨fun e j h hj => by
        by_cases e' : j = i
        · subst e'; exact e
        · exact hn.h j h (by omega)⟩
      have hno : Hide (¬ (all.xs[i].one ∈ one.xs ∨ all.xs[i].two ∈ two.xs) → P = 8) := ⟨fun e => hbad.h fun h => e (h.2.2.2.2 _ (List.getElem_mem hlt))⟩
      generalize all.xs[i] = x at *
      clear hn hbad hgood h1 h2 hmat
      by_cases e1 : x.one ∈ one.xs
      · have t : Hide _ := ⟨hy.h (.inl e1)⟩
        have d1 : decide (x.one ∈ one.xs) = true := by simpa using e1
        rw [d1] at f1
        clear hy hno e1 d1 f2
        (repeat' first | simp [*, initEnv] | (refine wpIf_two (fun _ h => ?_) (fun _ h => ?_) <;> try simp [-Nat.le_zero_eq] at h))
        all_goals exact ⟨i + 1, by omega, by omega, by omega, t⟩
      · have d1 : decide (x.one ∈ one.xs) = false := by simpa using e1
        by_cases e2 : x.two ∈ two.xs
        · have t : Hide _ := ⟨hy.h (.inr e2)⟩
          have d2 : decide (x.two ∈ two.xs) = true := by simpa using e2
          rw [d1] at f1
          rw [d2] at f2
          clear hy hno e1 d1 e2 d2
          (repeat' first | simp [*, initEnv] | (refine wpIf_two (fun _ h => ?_) (fun _ h => ?_) <;> try simp [-Nat.le_zero_eq] at h))
          all_goals exact ⟨i + 1, by omega, by omega, by omega, t⟩
        · have d2 : decide (x.two ∈ two.xs) = false := by simpa using e2
          have hP8 := hno.h (fun h => by rcases h with h | h; exact e1 h; exact e2 h)
          rw [d1] at f1
          rw [d2] at f2
          clear hy hno e1 d1 e2 d2
          (repeat' first | simp [*, initEnv] | (refine wpIf_two (fun _ h => ?_) (fun _ h => ?_) <;> try simp [-Nat.le_zero_eq] at h))
    · have hcov : Hide (∀ p ∈ all.xs, p.one ∈ one.xs ∨ p.two ∈ two.xs) := ⟨fun p hp => by
        obtain ⟨j, hj, rfl⟩ := List.mem_iff_getElem.1 hp
        exact hn.h j hj (by omega)⟩
      clear hn
      cases A with
      | false =>
        have hP8 := hbad.h (fun h => by have := h.1; simp at this)
        clear hbad hgood hmat hcov
        (repeat' first | simp [*, initEnv] | (refine wpIf_two (fun _ h => ?_) (fun _ h => ?_) <;> try simp [-Nat.le_zero_eq] at h))
      | true =>
        cases B with
        | false =>
          have hP8 := hbad.h (fun h => by have := h.2.1; simp at this)
          clear hbad hgood hmat hcov
          (repeat' first | simp [*, initEnv] | (refine wpIf_two (fun _ h => ?_) (fun _ h => ?_) <;> try simp [-Nat.le_zero_eq] at h))
        | true =>
          by_cases hlen : sm.xs.length = one.xs.length + two.xs.length
          · have hP0 := hgood.h rfl rfl hmat.h hlen hcov.h
            have hlenI : (sm.xs.length : Int) = (one.xs.length : Int) + two.xs.length := by omega
            clear hbad hgood hmat hcov hlen
            (repeat' first | simp [*, initEnv] | (refine wpIf_two (fun _ h => ?_) (fun _ h => ?_) <;> try simp [-Nat.le_zero_eq] at h))
          · have hP8 := hbad.h (fun h => hlen h.2.2.2.1)
            have hlenI : ¬ ((sm.xs.length : Int) = (one.xs.length : Int) + two.xs.length) := by omega
            clear hbad hgood hmat hcov hlen
            (repeat' first | simp [*, initEnv] | (refine wpIf_two (fun _ h => ?_) (fun _ h => ?_) <;> try simp [-Nat.le_zero_eq] at h))
@[simp] theorem d31 (n : Nat) (H : Heap) (h_step : Int) (h_place : Int) (h_sink : Int) (l : Sl Sight) (m : Sl Sight) (sm : Sl Pair) (one : Sl Int) (two : Sl Int) (hs : sm.xs.length < 1000) (ho : one.xs.length < 1000) (ht : two.xs.length < 1000) (P : Int) (hP : (fun (h : Habit) => ansM h l.xs m.xs sm.xs one.xs two.xs P) (⟨h_step, h_place, h_sink⟩ : Habit)) : doCall (calleeOf G (n + 7)) H (.pure (.func 31 [])) [.pure (.agg [.int .i64 h_step, .int .i64 h_place, .int .i64 h_sink]), .pure (l.pv Sight.cells 9), .pure (m.pv Sight.cells 9), .pure (sm.pv Pair.cells 2), .pure (one.pv intF 1), .pure (two.pv intF 1)] = some (.val (.pure (.int .i64 P))) :=
  call_pureC (ps := [_, _, _, _, _, _]) (caps := []) sh31 (e31 n (⟨h_step, h_place, h_sink⟩ : Habit) l m sm one two hs ho ht P hP)

/-! ### The law -/
def briefB (l : List Sight) : Bool := if 40 < l.length then true else allL (fun s => decide (s.letters.length ≤ 20)) l && decide (l.length ≤ 12)
theorem brief_of {l : List Sight} (h : briefB l = true) : briefS l := by
  unfold briefB at h
  intro h1 s hs
  rw [if_neg (by omega)] at h
  simp only [Bool.and_eq_true] at h
  simpa using allL_iff.1 h.1 s hs
theorem sh30 : G.shared 30 = false := by decide
theorem e30 (n : Nat) (l : Sl Sight) : callP G (n + 1) 30 [l.pv Sight.cells 9] = some (.bool (briefB l.xs)) := by
  refine callP_of (ext_none _) rfl g30 rfl ?_
  by_cases h40 : 40 < l.xs.length
  · have hP : briefB l.xs = true := by unfold briefB; rw [if_pos h40]
    have i1 : (40 : Int) < l.xs.length := by omega
    rw [hP]
    clear hP
    (repeat' first | simp [*, initEnv, c30] | (refine wpIf_two (fun _ h => ?_) (fun _ h => ?_) <;> try simp [-Nat.le_zero_eq] at h))
  have hP : Hide (briefB l.xs = (allL (fun s => decide (s.letters.length ≤ 20)) l.xs && decide (l.xs.length ≤ 12))) := ⟨by unfold briefB; rw [if_neg h40]⟩
  generalize briefB l.xs = P at *
  have i1 : ¬ (40 : Int) < l.xs.length := by omega
  (repeat' first | simp [*, initEnv, c30] | (refine wpIf_two (fun _ h => ?_) (fun _ h => ?_) <;> try simp [-Nat.le_zero_eq] at h))
  refine wp_loopF [(2, 3), (7, 19)] (fun (i : Nat) env H => env 3 = .pure (.int .i64 i) ∧ i ≤ l.xs.length ∧ Hide (∀ j (h : j < l.xs.length), j < i → l.xs[j].letters.length ≤ 20)) (fun i => l.xs.length - i) 0 ?_ ?_ ?_ ?_
  · decide
  · exact ⟨by simp, by omega, ⟨fun _ _ h => by omega⟩⟩
  · simp only [loopFuel]; omega
  rintro i env H ⟨g0, hi, hn⟩
  have hfit : i < 9223372036854775807 := by omega
  by_cases hlt : i < l.xs.length
  · have a1 := addrV_sl (f := Sight.cells) (sz := 9) (k := .i64) (s := l) (n := i) hlt
    simp only [Sight.cells] at a1
    by_cases he : l.xs[i].letters.length ≤ 20
    · have hn' : Hide (∀ j (h : j < l.xs.length), j < i + 1 → l.xs[j].letters.length ≤ 20) := ⟨fun j h hj => by
        by_cases e : j = i
        · subst e; exact he
        · exact hn.h j h (by omega)⟩
      have he' : ¬ (20 : Int) < l.xs[i].letters.length := by omega
      clear hn hP he
      (repeat' first | simp [*, initEnv] | (refine wpIf_two (fun _ h => ?_) (fun _ h => ?_) <;> try simp [-Nat.le_zero_eq] at h))
      all_goals exact ⟨i + 1, by omega, by omega, by omega, hn'⟩
    · have hPf : P = false := by
        rw [hP.h, allL_false hlt (by simpa using he)]; rfl
      have he' : (20 : Int) < l.xs[i].letters.length := by omega
      clear hn hP he
      (repeat' first | simp [*, initEnv] | (refine wpIf_two (fun _ h => ?_) (fun _ h => ?_) <;> try simp [-Nat.le_zero_eq] at h))
  · have hPt : P = decide (l.xs.length ≤ 12) := by
      rw [hP.h, allL_iff.2 fun s hs => by
        obtain ⟨j, hj, rfl⟩ := List.mem_iff_getElem.1 hs
        simpa using hn.h j hj (by omega)]
      rfl
    clear hn hP
    by_cases h12 : l.xs.length ≤ 12
    · have d : decide (l.xs.length ≤ 12) = true := by simpa using h12
      have i2 : (l.xs.length : Int) ≤ 12 := by omega
      (repeat' first | simp [*, initEnv] | (refine wpIf_two (fun _ h => ?_) (fun _ h => ?_) <;> try simp [-Nat.le_zero_eq] at h))
    · have d : decide (l.xs.length ≤ 12) = false := by simpa using h12
      have i2 : ¬ (l.xs.length : Int) ≤ 12 := by omega
      (repeat' first | simp [*, initEnv] | (refine wpIf_two (fun _ h => ?_) (fun _ h => ?_) <;> try simp [-Nat.le_zero_eq] at h))
@[simp] theorem d30 (n : Nat) (H : Heap) (l : Sl Sight) : doCall (calleeOf G (n + 1)) H (.pure (.func 30 [])) [.pure (l.pv Sight.cells 9)] = some (.val (.pure (.bool (briefB l.xs)))) :=
  call_pureC (ps := [_]) (caps := []) sh30 (e30 n l)
theorem sh_sanityM : G.shared 9 = false := by decide
@[simp] theorem d_sanityM (H : Heap) : doCall (calleeOf G 60) H (.pure (.func 9 [])) [] = some (.val (.pure (.bool true))) := call_pure (ps := []) sh_sanityM sanity_run
theorem match_law (h : Habit) (l m : Sl Sight) (sm : Sl Pair) (one two : Sl Int) : callP G 61 7 [.agg h.cells, l.pv Sight.cells 9, m.pv Sight.cells 9, sm.pv Pair.cells 2, one.pv intF 1, two.pv intF 1] = .some (.bool true) := by
  refine callP_of (n := 60) (ext_none _) rfl g7 rfl ?_
  have b1 : ∀ H, doCall (calleeOf G 60) H (.pure (.func 30 [])) [.pure (l.pv Sight.cells 9)] = .some (.val (.pure (.bool (briefB l.xs)))) := fun H => d30 59 H l
  have b2 : ∀ H, doCall (calleeOf G 60) H (.pure (.func 30 [])) [.pure (m.pv Sight.cells 9)] = .some (.val (.pure (.bool (briefB m.xs)))) := fun H => d30 59 H m
  by_cases hok : briefB l.xs = true ∧ briefB m.xs = true ∧ sm.xs.length ≤ 60 ∧ one.xs.length ≤ 60 ∧ two.xs.length ≤ 60
  · obtain ⟨k1, k2, k3, k4, k5⟩ := hok
    have s1 := brief_of k1
    have s2 := brief_of k2
    rw [k1] at b1
    rw [k2] at b2
    obtain ⟨P, hP⟩ := ansM_ex h l.xs m.xs sm.xs one.xs two.xs
    have c1 : ∀ H, doCall (calleeOf G 60) H (.pure (.func 31 [])) [.pure (.agg h.cells), .pure (l.pv Sight.cells 9), .pure (m.pv Sight.cells 9), .pure (sm.pv Pair.cells 2), .pure (one.pv intF 1), .pure (two.pv intF 1)] = .some (.val (.pure (.int .i64 P))) := fun H =>
      d31 53 H _ _ _ l m sm one two (by omega) (by omega) (by omega) P hP
    have c2 : ∀ H, doCall (calleeOf G 60) H (.pure (.func 32 [])) [.pure (.agg h.cells), .pure (l.pv Sight.cells 9), .pure (m.pv Sight.cells 9), .pure (sm.pv Pair.cells 2), .pure (one.pv intF 1), .pure (two.pv intF 1)] = .some (.val (.pure (.int .i64 P))) := fun H =>
      d32 53 H _ _ _ l m sm one two s1 s2 (by omega) (by omega) (by omega) P hP
    simp only [Habit.cells] at c1 c2
    have k3' : ¬ (60 : Int) < sm.xs.length := by omega
    have k4' : ¬ (60 : Int) < one.xs.length := by omega
    have k5' : ¬ (60 : Int) < two.xs.length := by omega
    clear s1 s2 hP k1 k2
    (repeat' first | simp [*, initEnv, c7] | (refine wpIf_two (fun _ h => ?_) (fun _ h => ?_) <;> try simp [-Nat.le_zero_eq] at h))
  · generalize briefB l.xs = B1 at *
    generalize briefB m.xs = B2 at *
    cases B1 with
    | false => clear hok; (repeat' first | simp [*, initEnv, c7] | (refine wpIf_two (fun _ h => ?_) (fun _ h => ?_) <;> try simp [-Nat.le_zero_eq] at h))
    | true =>
      cases B2 with
      | false => clear hok; (repeat' first | simp [*, initEnv, c7] | (refine wpIf_two (fun _ h => ?_) (fun _ h => ?_) <;> try simp [-Nat.le_zero_eq] at h))
      | true =>
        by_cases k3 : (60 : Int) < sm.xs.length
        · clear hok; (repeat' first | simp [*, initEnv, c7] | (refine wpIf_two (fun _ h => ?_) (fun _ h => ?_) <;> try simp [-Nat.le_zero_eq] at h))
        · by_cases k4 : (60 : Int) < one.xs.length
          · clear hok; (repeat' first | simp [*, initEnv, c7] | (refine wpIf_two (fun _ h => ?_) (fun _ h => ?_) <;> try simp [-Nat.le_zero_eq] at h))
          · by_cases k5 : (60 : Int) < two.xs.length
            · clear hok; (repeat' first | simp [*, initEnv, c7] | (refine wpIf_two (fun _ h => ?_) (fun _ h => ?_) <;> try simp [-Nat.le_zero_eq] at h))
            · exact absurd ⟨rfl, rfl, by omega, by omega, by omega⟩ hok
end Go.Proofs.YtnomliioadjdgaaGreat.Vm
