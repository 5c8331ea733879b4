/- The chapter's examples: sanity() returns true, by the machine's own run in the kernel. StoneTruthsAsSpecified answers true on all data, for the machine of values. StoneTruthsFit answers true on all data, for the machine of values. -/
import Derived.Test.YtnomliioadjdgaaGreatPk15
import Derived.KernelRfl
import Derived.Test.YtnomliioadjdgaaGreatPk18
import Derived.Test.YtnomliioadjdgaaGreatPk17
import Derived.Test.YtnomliioadjdgaaGreatPk19
namespace Go.Proofs.YtnomliioadjdgaaGreat.Vm
open Go
theorem sanity_run : callP G 60 9 [] = some (.bool true) := by kernel_rfl
end Go.Proofs.YtnomliioadjdgaaGreat.Vm

namespace Go.Proofs.YtnomliioadjdgaaGreat.Vm
open Go
set_option linter.unusedSimpArgs false
set_option linter.unusedVariables false
set_option maxHeartbeats 4000000
theorem sh_sanity : G.shared 9 = false := by decide
@[simp] theorem d_sanity (H : Heap) : doCall (calleeOf G 60) H (.pure (.func 9 [])) [] = some (.val (.pure (.bool true))) := call_pure (ps := []) sh_sanity sanity_run

def lightS (x : Lived) : Bool := allL (fun t => decide (t.length ≤ 20)) x.letters.xs && (decide (x.points.xs.length ≤ 20) && decide (x.letters.xs.length ≤ 20) && decide (x.heights.xs.length ≤ 20) && decide (x.course.xs.length ≤ 20))
theorem sh19 : G.shared 19 = false := by decide
theorem e19 (n : Nat) (x : Lived) (hx : x.letters.xs.length ≤ 9223372036854775807) : callP G (n + 1) 19 [.agg x.cells] = some (.bool (lightS x)) := by
  refine callP_of (ext_none _) rfl g19 rfl ?_
  obtain ⟨P, hPe⟩ : ∃ P, P = lightS x := ⟨_, rfl⟩
  rw [← hPe]
  have hP : Hide _ := ⟨hPe⟩
  clear hPe
  (repeat' first | simp [*, initEnv, c19] | (refine wpIf_two (fun _ h => ?_) (fun _ h => ?_) <;> try simp [-Nat.le_zero_eq] at h))
  refine wp_loopF [(2, 17)] (fun (i : Nat) env H => env 3 = .pure (.int .i64 i) ∧ i ≤ x.letters.xs.length ∧ Hide (allL (fun t => decide (t.length ≤ 20)) x.letters.xs = allL (fun t => decide (t.length ≤ 20)) (x.letters.xs.drop i))) (fun i => x.letters.xs.length - i) 0 ?_ ?_ ?_ ?_
  · decide
  · exact ⟨by simp, by omega, ⟨rfl⟩⟩
  · simp only [loopFuel]; omega
  rintro i env H ⟨h3, hi, hn⟩
  by_cases hlt : i < x.letters.xs.length
  · have hfit : i < 9223372036854775807 := by omega
    (repeat' first | simp [*, initEnv] | (refine wpIf_two (fun _ h => ?_) (fun _ h => ?_) <;> try simp [-Nat.le_zero_eq] at h))
    · have hf : decide (x.letters.xs[i].length ≤ 20) = false := by simp; omega
      rw [hP.h, lightS, hn.h, allL_drop hlt, hf]; rfl
    · have hf : decide (x.letters.xs[i].length ≤ 20) = true := by simp; omega
      exact ⟨i + 1, by omega, by omega, by omega, ⟨by rw [hn.h, allL_drop hlt, hf]; rfl⟩⟩
  · have hP2 : P = (decide (x.points.xs.length ≤ 20) && decide (x.letters.xs.length ≤ 20) && decide (x.heights.xs.length ≤ 20) && decide (x.course.xs.length ≤ 20)) := by rw [hP.h, lightS, hn.h, allL_end (by omega)]; rfl
    have hn' : i = x.letters.xs.length := by omega
    clear hP hn
    subst hP2
    (repeat' first | simp [*, initEnv] | (refine wpIf_two (fun _ h => ?_) (fun _ h => ?_) <;> try simp [-Nat.le_zero_eq] at h))
    all_goals first
      | (intros; omega)
      | (rw [Bool.eq_iff_iff]; simp only [Bool.and_eq_true, decide_eq_true_eq]; omega)
@[simp] theorem d19 (n : Nat) (H : Heap) (x_points : Sl Pt) (x_letters : Sl (List UInt8)) (x_heights : Sl Int) (x_course : Sl Int) (hx : (fun (x : Lived) => x.letters.xs.length ≤ 9223372036854775807) (⟨x_points, x_letters, x_heights, x_course⟩ : Lived)) : doCall (calleeOf G (n + 1)) H (.pure (.func 19 [])) [.pure (.agg [(x_points).pv Pt.cells 2, (x_letters).pv strF 1, (x_heights).pv intF 1, (x_course).pv intF 1])] = some (.val (.pure ((fun (x : Lived) => .bool (lightS x)) (⟨x_points, x_letters, x_heights, x_course⟩ : Lived)))) :=
  call_pureC (ps := [_]) (caps := []) sh19 (e19 n (⟨x_points, x_letters, x_heights, x_course⟩ : Lived) hx)
theorem light_small {x : Lived} (h : lightS x = true) : (∀ t ∈ x.letters.xs, t.length ≤ 20) ∧ x.course.xs.length ≤ 20 := by
  simp only [lightS, Bool.and_eq_true, decide_eq_true_eq] at h
  exact ⟨fun t ht => by simpa using allL_iff.1 h.1 t ht, h.2.2⟩
theorem true_law (l : Life) (x : Lived) (hx : x.letters.xs.length ≤ 9223372036854775807) : callP G 61 5 [.agg l.cells, .agg x.cells] = some (.bool true) := by
  refine callP_of (n := 60) (ext_none _) rfl g5 rfl ?_
  have hfew : ∀ H, doCall (calleeOf G 60) H (.pure (.func 8 [])) [.pure (.agg l.cells)] = some (.val (.pure (.bool (fewS l)))) := fun H => d8 59 H l.habit.step l.habit.place l.habit.sink l.sights l.notes
  have hlight : ∀ H, doCall (calleeOf G 60) H (.pure (.func 19 [])) [.pure (.agg x.cells)] = some (.val (.pure (.bool (lightS x)))) := fun H => d19 59 H x.points x.letters x.heights x.course hx
  simp only [Life.cells] at hfew
  simp only [Lived.cells] at hlight
  by_cases hf : fewS l = true
  case neg =>
    simp only [Bool.not_eq_true] at hf
    rw [hf] at hfew
    (repeat' first | simp [*, initEnv, c5] | (refine wpIf_two (fun _ h => ?_) (fun _ h => ?_) <;> try simp [-Nat.le_zero_eq] at h))
  by_cases hg : lightS x = true
  case neg =>
    simp only [Bool.not_eq_true] at hg
    rw [hg] at hlight
    rw [hf] at hfew
    (repeat' first | simp [*, initEnv, c5] | (refine wpIf_two (fun _ h => ?_) (fun _ h => ?_) <;> try simp [-Nat.le_zero_eq] at h))
  have hs := few_short hf
  obtain ⟨hx1, hx2⟩ := light_small hg
  have hx3 : x.course.xs.length < 1000 := by omega
  rw [hf] at hfew
  rw [hg] at hlight
  clear hf hg
  have h1 : ∀ H, doCall (calleeOf G 60) H (.pure (.func 20 [])) [.pure (.agg l.cells), .pure (.agg x.cells)] = some (.val (.pure (trueP (trueR l x)))) := fun H => d20 53 H l.habit.step l.habit.place l.habit.sink l.sights l.notes x.points x.letters x.heights x.course hs hx3
  have h2 : ∀ H, doCall (calleeOf G 60) H (.pure (.func 21 [])) [.pure (.agg l.cells), .pure (.agg x.cells)] = some (.val (.pure (trueA (trueR l x)))) := fun H => d21 53 H l.habit.step l.habit.place l.habit.sink l.sights l.notes x.points x.letters x.heights x.course hs hx3 hx1
  simp only [Life.cells, Lived.cells] at h1 h2
  clear hs hx1 hx2 hx3
  generalize trueR l x = r at *
  obtain ⟨r1, r2, r3⟩ := r
  simp only [trueP, trueA] at h1 h2
  (repeat' first | simp [*, initEnv, c5] | (refine wpIf_two (fun _ h => ?_) (fun _ h => ?_) <;> try simp [-Nat.le_zero_eq] at h))
end Go.Proofs.YtnomliioadjdgaaGreat.Vm

namespace Go.Proofs.YtnomliioadjdgaaGreat.Vm
open Go
set_option linter.unusedSimpArgs false
set_option linter.unusedVariables false
set_option maxHeartbeats 4000000

theorem fieldE_some {g : TellR → PV} {l : Life} {c : List Int} {t : TellR} (hg : givenS l c = 0) (ht : tellS l c = some t) : PV.tup [g t, .int .i64 0] = fieldE g l c := by
  unfold fieldE; rw [if_pos hg, ht]
theorem fits_some {l : Life} {c : List Int} {t : TellR} (hg : givenS l c = 0) (ht : tellS l c = some t) : PV.tup [.bool true, .int .i64 0] = (if givenS l c = 0 then .tup [.bool (tellS l c).isSome, .int .i64 0] else .tup [.bool false, .int .i64 (givenS l c)]) := by
  rw [if_pos hg, ht]; rfl
theorem ext_some {l : Life} {m : Nat} {B : List Box} (hg : checkS l = 0) (ht : extL l m = some B) : PV.tup [(Sl.mk false B).pv Box.cells 4, .int .i64 0] = extE l m := by
  unfold extE; rw [if_pos hg, if_neg (by omega), ht]
theorem kinds_some {l : Life} (hg : checkS l = 0) (hk : (kindsTo (fitP l) (l.sights.xs.length - 1) (3 ^ (l.sights.xs.length - 1))).2 = true) : PV.tup [(Sl.mk false (kindsTo (fitP l) (l.sights.xs.length - 1) (3 ^ (l.sights.xs.length - 1))).1).pv intF 1, .int .i64 0] = (if checkS l = 0 then (if (kindsTo (fitP l) (l.sights.xs.length - 1) (3 ^ (l.sights.xs.length - 1))).2 = true then .tup [(Sl.mk false (kindsTo (fitP l) (l.sights.xs.length - 1) (3 ^ (l.sights.xs.length - 1))).1).pv intF 1, .int .i64 0] else .tup [.nils, .int .i64 9]) else .tup [.nils, .int .i64 (checkS l)]) := by
  rw [if_pos hg, if_pos hk]
set_option maxRecDepth 20000 in
theorem fit_law (l : Life) (x : Lived) (hx : x.letters.xs.length ≤ 9223372036854775807) : callP G 61 6 [.agg l.cells, .agg x.cells] = some (.bool true) := by
  refine callP_of (n := 60) (ext_none _) rfl g6 rfl ?_
  have hfew : ∀ H, doCall (calleeOf G 60) H (.pure (.func 8 [])) [.pure (.agg l.cells)] = some (.val (.pure (.bool (fewS l)))) := fun H => d8 59 H l.habit.step l.habit.place l.habit.sink l.sights l.notes
  have hlight : ∀ H, doCall (calleeOf G 60) H (.pure (.func 19 [])) [.pure (.agg x.cells)] = some (.val (.pure (.bool (lightS x)))) := fun H => d19 59 H x.points x.letters x.heights x.course hx
  simp only [Life.cells] at hfew
  simp only [Lived.cells] at hlight
  by_cases hf : fewS l = true
  case neg =>
    simp only [Bool.not_eq_true] at hf
    rw [hf] at hfew
    (repeat' first | simp [*, initEnv, c6] | (refine wpIf_two (fun _ h => ?_) (fun _ h => ?_) <;> try simp [-Nat.le_zero_eq] at h))
  by_cases hg : lightS x = true
  case neg =>
    simp only [Bool.not_eq_true] at hg
    rw [hg] at hlight
    rw [hf] at hfew
    (repeat' first | simp [*, initEnv, c6] | (refine wpIf_two (fun _ h => ?_) (fun _ h => ?_) <;> try simp [-Nat.le_zero_eq] at h))
  have hs := few_short hf
  obtain ⟨hx1, hx2⟩ := light_small hg
  have hx3 : x.course.xs.length < 1000 := by omega
  rw [hf] at hfew
  rw [hg] at hlight
  clear hf hg
  have h1 : ∀ H, doCall (calleeOf G 60) H (.pure (.func 20 [])) [.pure (.agg l.cells), .pure (.agg x.cells)] = some (.val (.pure (trueP (trueR l x)))) := fun H => d20 53 H l.habit.step l.habit.place l.habit.sink l.sights l.notes x.points x.letters x.heights x.course hs hx3
  simp only [Life.cells, Lived.cells] at h1
  cases hb : (trueR l x).2.1 with
  | false =>
    generalize trueR l x = r at *
    obtain ⟨r1, r2, r3⟩ := r
    simp only at hb
    subst hb
    simp only [trueP] at h1
    clear hx1 hx2 hx3 hs
    (repeat' first | simp [*, initEnv, c6] | (refine wpIf_two (fun _ h => ?_) (fun _ h => ?_) <;> try simp [-Nat.le_zero_eq] at h))
  | true =>
    have hr3 := (true_is hb).2.2.2.2
    have hgiv := (true_is hb).1
    have ht := trueOf hb
    have hn1 := ht.right.one
    have hn9 := ht.right.nine
    generalize trueR l x = r at *
    obtain ⟨r1, r2, r3⟩ := r
    simp only at hb hr3
    subst hb hr3
    simp only [trueP] at h1
    have hck := (right_iff l).2 ht.right
    obtain ⟨t, t1, t2, t3, t4, t5⟩ := ht.tell
    obtain ⟨⟨B, b1, b2, b3⟩, k1, k2⟩ := ht.wide
    have q1 : ∀ H, doCall (calleeOf G 60) H (.pure (.func 22 [])) [.pure (.agg l.cells), .pure (x.course.pv intF 1)] = some (.val (.pure (.tup [.bool true, .int .i64 0]))) := fun H => by
      rw [fits_some hgiv t1]
      exact d22 52 H l.habit.step l.habit.place l.habit.sink l.sights l.notes x.course hs hx3
    have q2 : ∀ H, doCall (calleeOf G 60) H (.pure (.func 23 [])) [.pure (.agg l.cells), .pure (x.course.pv intF 1)] = some (.val (.pure (.tup [(Sl.of t.boxes).pv Box.cells 4, .int .i64 0]))) := fun H => by
      rw [fieldE_some (g := fun t => (Sl.of t.boxes).pv Box.cells 4) hgiv t1]
      exact d23 51 H l.habit.step l.habit.place l.habit.sink l.sights l.notes x.course hs hx3
    have q3 : ∀ H, doCall (calleeOf G 60) H (.pure (.func 24 [])) [.pure (.agg l.cells), .pure (x.course.pv intF 1)] = some (.val (.pure (.tup [(Sl.of t.heights).pv Span.cells 2, .int .i64 0]))) := fun H => by
      rw [fieldE_some (g := fun t => (Sl.of t.heights).pv Span.cells 2) hgiv t1]
      exact d24 51 H l.habit.step l.habit.place l.habit.sink l.sights l.notes x.course hs hx3
    have q4 : ∀ H, doCall (calleeOf G 60) H (.pure (.func 25 [])) [.pure (.agg l.cells), .pure (x.course.pv intF 1)] = some (.val (.pure (.tup [(Sl.of t.letters).pv strF 1, .int .i64 0]))) := fun H => by
      rw [fieldE_some (g := fun t => (Sl.of t.letters).pv strF 1) hgiv t1]
      exact d25 51 H l.habit.step l.habit.place l.habit.sink l.sights l.notes x.course hs hx3
    have q5 : ∀ H, doCall (calleeOf G 60) H (.pure (.func 10 [])) [.pure (.agg l.cells), .pure (.int .i64 (chg x.course.xs))] = some (.val (.pure (.tup [(Sl.mk false B).pv Box.cells 4, .int .i64 0]))) := fun H => by
      rw [ext_some hck b1]
      exact d10 49 H l.habit.step l.habit.place l.habit.sink l.sights l.notes (chg x.course.xs) hs
    have q6 : ∀ H, doCall (calleeOf G 60) H (.pure (.func 27 [])) [.pure (.agg l.cells)] = some (.val (.pure (.tup [(Sl.mk false (kindsTo (fitP l) (l.sights.xs.length - 1) (3 ^ (l.sights.xs.length - 1))).1).pv intF 1, .int .i64 0]))) := fun H => by
      rw [kinds_some hck k1]
      exact d27 50 H l.habit.step l.habit.place l.habit.sink l.sights l.notes hs
    have kl := kindsTo_length (fitP l) (l.sights.xs.length - 1) (3 ^ (l.sights.xs.length - 1))
    have kb := kindsTo_le (fitP l) (l.sights.xs.length - 1) (3 ^ (l.sights.xs.length - 1))
    generalize (kindsTo (fitP l) (l.sights.xs.length - 1) (3 ^ (l.sights.xs.length - 1))).1 = K at *
    have z1 := ht.sizes.1
    have z2 := ht.sizes.2.1
    have z3 := ht.sizes.2.2
    have zc := ht.len
    have ck := ht.kinds
    clear k1 b1 t1 ht hck hs hgiv hx hx1 hx2
    obtain ⟨sB, e1⟩ : ∃ s, s = Sl.of t.boxes := ⟨_, rfl⟩
    obtain ⟨sH, e2⟩ : ∃ s, s = Sl.of t.heights := ⟨_, rfl⟩
    obtain ⟨sL, e3⟩ : ∃ s, s = Sl.of t.letters := ⟨_, rfl⟩
    obtain ⟨sE, e4⟩ : ∃ s, s = Sl.mk false B := ⟨_, rfl⟩
    obtain ⟨sK, e5⟩ : ∃ s, s = Sl.mk false K := ⟨_, rfl⟩
    have f1 : t.boxes = sB.xs := by rw [e1, Sl.xs_of]
    have f2 : t.heights = sH.xs := by rw [e2, Sl.xs_of]
    have f3 : t.letters = sL.xs := by rw [e3, Sl.xs_of]
    have f4 : B = sE.xs := by rw [e4]; rfl
    have f5 : K = sK.xs := by rw [e5]; rfl
    rw [← e1] at q2
    rw [← e2] at q3
    rw [← e3] at q4
    rw [← e4] at q5
    rw [← e5] at q6
    rw [f1] at t2 t5
    rw [f2] at t3 t5
    rw [f3] at t4 t5
    rw [f4] at b2 b3
    rw [f5] at kl kb k2
    clear e1 e2 e3 e4 e5 f1 f2 f3 f4 f5
    have kl' : sK.xs.length = x.course.xs.length := by omega
    have u5 : Hide _ := ⟨t5⟩
    have u3 : Hide _ := ⟨b3⟩
    have u2 : Hide _ := ⟨k2⟩
    have ub : Hide _ := ⟨kb⟩
    have uk : Hide _ := ⟨ck⟩
    have uz : Hide (x.course.xs.length + 1 = l.sights.xs.length) := ⟨zc⟩
    have hN : l.sights.xs.length < 1000 := by omega
    clear t5 b3 k2 kb ck kl zc
    simp only [Life.cells] at q1 q2 q3 q4 q5 q6
    (repeat' first | simp [*, initEnv, c6] | (refine wpIf_two (fun _ h => ?_) (fun _ h => ?_) <;> try simp [-Nat.le_zero_eq] at h))
    refine wp_loopF [(4, 4), (20, 20), (149, 217)] (fun (i : Nat) env H => env 20 = .pure (.int .i64 i) ∧ i ≤ l.sights.xs.length) (fun i => l.sights.xs.length - i) 0 ?_ ?_ ?_ ?_
    · decide
    · exact ⟨by simp, by omega⟩
    · simp only [loopFuel]; omega
    rintro i env H ⟨g0, hi⟩
    have hfit : i < 9223372036854775807 := by omega
    by_cases hlt : i < l.sights.xs.length
    · have w := u5.h i hlt
      have w3 := u3.h i hlt
      have p1 : i < sB.xs.length := by omega
      have p2 : i < sH.xs.length := by omega
      have p3 : i < sL.xs.length := by omega
      have p4 : i < sE.xs.length := by omega
      have p5 : i < x.points.xs.length := by omega
      have p6 : i < x.letters.xs.length := by omega
      have p7 : i < x.heights.xs.length := by omega
      rw [getElem!_pos sB.xs i p1, getElem!_pos sH.xs i p2, getElem!_pos sL.xs i p3, getElem!_pos x.points.xs i p5, getElem!_pos x.letters.xs i p6, getElem!_pos x.heights.xs i p7] at w
      rw [getElem!_pos sE.xs i p4, getElem!_pos x.points.xs i p5] at w3
      obtain ⟨w1, w4, w5, w6, w7⟩ := w
      have a1 := addrV_sl (f := Box.cells) (sz := 4) (k := .i64) (s := sB) (n := i) p1
      have a2 := addrV_sl (f := Span.cells) (sz := 2) (k := .i64) (s := sH) (n := i) p2
      have a3 := addrV_sl (f := strF) (sz := 1) (k := .i64) (s := sL) (n := i) p3
      have a4 := addrV_sl (f := Box.cells) (sz := 4) (k := .i64) (s := sE) (n := i) p4
      have a5 := addrV_sl (f := Pt.cells) (sz := 2) (k := .i64) (s := x.points) (n := i) p5
      have a6 := addrV_sl (f := strF) (sz := 1) (k := .i64) (s := x.letters) (n := i) p6
      have a7 := addrV_sl (f := intF) (sz := 1) (k := .i64) (s := x.heights) (n := i) p7
      generalize sB.xs[i] = b at *
      generalize sH.xs[i] = s at *
      generalize sL.xs[i] = q at *
      generalize sE.xs[i] = d at *
      generalize x.points.xs[i] = p at *
      generalize x.letters.xs[i] = u at *
      generalize x.heights.xs[i] = y at *
      have r1 : ∀ H, doCall (calleeOf G 60) H (.pure (.func 28 [])) [.pure (.agg b.cells), .pure (.agg p.cells)] = some (.val (.pure (.bool true))) := fun H => by rw [← w1]; exact d28 56 H _ _ _ _ _ _
      have r2 : ∀ H, doCall (calleeOf G 60) H (.pure (.func 28 [])) [.pure (.agg d.cells), .pure (.agg p.cells)] = some (.val (.pure (.bool true))) := fun H => by rw [← w3]; exact d28 56 H _ _ _ _ _ _
      have r3 : ∀ H, doCall (calleeOf G 60) H (.pure (.func 29 [])) [.pure (.str ⟨u.toArray⟩), .pure (.str ⟨q.toArray⟩)] = some (.val (.pure (.bool true))) := fun H => by
        rw [show true = (noDot u && agreeR u q) by rw [w6, w7]; rfl, ← reads_same]; exact d29 55 H u q
      have w4' : ¬ y < s.lo := by omega
      have w5' : ¬ s.hi < y := by omega
      simp only [Box.cells] at r1 r2 a1 a4
      simp only [Pt.cells] at r1 r2 a5
      simp only [Span.cells] at a2
      clear w1 w3 w6 w7 q1 q2 q3 q4 q5 q6
      (repeat' first | simp [*, initEnv] | (refine wpIf_two (fun _ h => ?_) (fun _ h => ?_) <;> try simp [-Nat.le_zero_eq] at h))
      all_goals exact ⟨i + 1, by omega, by omega, by omega⟩
    · have hn : i = l.sights.xs.length := by omega
      subst hn
      (repeat' first | simp [*, initEnv] | (refine wpIf_two (fun _ h => ?_) (fun _ h => ?_) <;> try simp [-Nat.le_zero_eq] at h))
      refine wp_loopF [(4, 4), (21, 21), (218, 270)] (fun (i : Nat) env H => env 21 = .pure (.int .i64 i) ∧ i ≤ x.course.xs.length) (fun i => x.course.xs.length - i) 0 ?_ ?_ ?_ ?_
      · decide
      · exact ⟨by simp, by omega⟩
      · simp only [loopFuel]; omega
      clear g0 hi hfit hlt
      rintro i env H ⟨g0, hi⟩
      have hfit : i < 9223372036854775807 := by omega
      by_cases hlt : i < x.course.xs.length
      · have p1 : i < sK.xs.length := by omega
        have w := u2.h i (by have := uz.h; omega)
        rw [getElem!_pos sK.xs i p1, getElem!_pos x.course.xs i hlt] at w
        have wa := ub.h _ (List.getElem_mem p1)
        have wc := uk.h _ (List.getElem_mem hlt)
        have a1 := addrV_sl (f := intF) (sz := 1) (k := .i64) (s := sK) (n := i) p1
        have a2 := addrV_sl (f := intF) (sz := 1) (k := .i64) (s := x.course) (n := i) hlt
        generalize sK.xs[i] = b at *
        generalize x.course.xs[i] = c at *
        have v1 : IntKind.i64.wrap (b.tdiv 2) = b.tdiv 2 := by rw [Int.tdiv_eq_ediv_of_nonneg wa.1]; exact wrap64 (by omega) (by omega)
        have v2 : IntKind.i64.wrap (b.tdiv 4) = b.tdiv 4 := by rw [Int.tdiv_eq_ediv_of_nonneg wa.1]; exact wrap64 (by omega) (by omega)
        unfold hasBit at w
        have hc3 : c = 0 ∨ c = 1 ∨ c = 2 := by omega
        clear q1 q2 q3 q4 q5 q6
        rcases hc3 with rfl | rfl | rfl
        · have w' : ¬ b.tmod 2 = 0 := by simpa [bitOf] using w
          clear w
          (repeat' first | simp [*, initEnv] | (refine wpIf_two (fun _ h => ?_) (fun _ h => ?_) <;> try simp [-Nat.le_zero_eq] at h))
          all_goals exact ⟨i + 1, by omega, by omega, by omega⟩
        · have w' : ¬ (b.tdiv 2).tmod 2 = 0 := by simpa [bitOf] using w
          clear w
          (repeat' first | simp [*, initEnv] | (refine wpIf_two (fun _ h => ?_) (fun _ h => ?_) <;> try simp [-Nat.le_zero_eq] at h))
          all_goals exact ⟨i + 1, by omega, by omega, by omega⟩
        · have w' : ¬ b.tdiv 4 = 0 := fun h => by simp [bitOf, h] at w
          clear w
          (repeat' first | simp [*, initEnv] | (refine wpIf_two (fun _ h => ?_) (fun _ h => ?_) <;> try simp [-Nat.le_zero_eq] at h))
          all_goals exact ⟨i + 1, by omega, by omega, by omega⟩
      · have hn : i = x.course.xs.length := by omega
        subst hn
        (repeat' first | simp [*, initEnv] | (refine wpIf_two (fun _ h => ?_) (fun _ h => ?_) <;> try simp [-Nat.le_zero_eq] at h))
end Go.Proofs.YtnomliioadjdgaaGreat.Vm
