/- What facts say of boxes, as the specification computes it. Parts in the specification: the labels fall, round by round. Plain Lean, then the walk. Parts in the specification: classes, walked. -/
import Derived.Test.YtmghcpdpilgplaaGreatPk17
import Derived.Test.YtmghcpdpilgplaaGreatPk18
import Derived.Test.YtmghcpdpilgplaaGreatPk22
namespace Go.Proofs.YtmghcpdpilgplaaGreat.Vm
open Go
set_option linter.unusedSimpArgs false
set_option linter.unusedVariables false
set_option maxHeartbeats 1000000
theorem tmod_2 (a : Nat) : Int.tmod (a : Int) 2 = ((a % 2 : Nat) : Int) := rfl
theorem tdiv_2 (a : Nat) : Int.tdiv (a : Int) 2 = ((a / 2 : Nat) : Int) := rfl
theorem tdiv_4 (a : Nat) : Int.tdiv (a : Int) 4 = ((a / 4 : Nat) : Int) := rfl
theorem tdiv_8 (a : Nat) : Int.tdiv (a : Int) 8 = ((a / 8 : Nat) : Int) := rfl
theorem tdiv_16 (a : Nat) : Int.tdiv (a : Int) 16 = ((a / 16 : Nat) : Int) := rfl
theorem tdiv_32 (a : Nat) : Int.tdiv (a : Int) 32 = ((a / 32 : Nat) : Int) := rfl
theorem sh139 : G.shared 139 = false := by decide
theorem e139 (n : Nat) (s : Span) (k : Nat) : callP G (n + 1) 139 [.agg s.cells, .int .i64 k] = some (.int .i64 (endS s k)) := by
  refine callP_of (ext_none _) rfl g139 rfl ?_
  have h2 : k % 2 = 0 ∨ k % 2 = 1 := by omega
  unfold endS
  rcases h2 with h2 | h2
  · have h : Int.tmod (k : Int) 2 = 0 := by rw [tmod_2, h2]; rfl
    rw [if_pos h2]
    (repeat' first | simp [*, initEnv, c139, Span.cells] | (refine wpIf_two (fun _ h => ?_) (fun _ h => ?_) <;> try simp [-Nat.le_zero_eq] at h))
  · have h : Int.tmod (k : Int) 2 = 1 := by rw [tmod_2, h2]; rfl
    rw [if_neg (by omega)]
    (repeat' first | simp [*, initEnv, c139, Span.cells] | (refine wpIf_two (fun _ h => ?_) (fun _ h => ?_) <;> try simp [-Nat.le_zero_eq] at h))
theorem endS_in {s : Span} {M : Int} (h : inS s M) (k : Nat) : -M ≤ endS s k ∧ endS s k ≤ M := by
  unfold endS inS at *
  split <;> omega
theorem turnTo_more {a b c : Box} {k : Nat} {v : Span} (h : turnTo a b c (max k 1) v) : turnTo a b c (max (k + 1) 1) ⟨min v.lo (turnK a b c k), max v.hi (turnK a b c k)⟩ := by
  by_cases hk : k = 0
  · subst hk
    have h0 := turnTo_start a b c
    have e : v = ⟨turnK a b c 0, turnK a b c 0⟩ := SpanOf.unique h h0
    subst e
    simpa using h0
  · rw [show max (k + 1) 1 = max k 1 + 1 by omega, show max k 1 = k by omega]
    rw [show max k 1 = k by omega] at h
    exact turnTo_step h
theorem sh133 : G.shared 133 = false := by decide
theorem e133 (n : Nat) (a b c : Box) (ha : validB a = true) (hb : validB b = true) (hc : validB c = true) : callP G (n + 3) 133 [.agg a.cells, .agg b.cells, .agg c.cells] = some (.agg (turnS a b c).cells) := by
  refine callP_of (ext_none _) rfl g133 rfl ?_
  have va := valid_iff.1 ha
  have vb := valid_iff.1 hb
  have vc := valid_iff.1 hc
  have sax : inS a.x 1048576 := by unfold inS; omega
  have say : inS a.y 1048576 := by unfold inS; omega
  have sbx : inS b.x 1048576 := by unfold inS; omega
  have sby : inS b.y 1048576 := by unfold inS; omega
  have scx : inS c.x 1048576 := by unfold inS; omega
  have scy : inS c.y 1048576 := by unfold inS; omega
  clear va vb vc ha hb hc
  have hT : ∀ i j x y z w H, doCall (calleeOf G (n + 2)) H (.pure (.func 153 [])) [.pure (.int .i64 (endS a.x i)), .pure (.int .i64 (endS a.y j)), .pure (.int .i64 (endS b.x x)), .pure (.int .i64 (endS b.y y)), .pure (.int .i64 (endS c.x z)), .pure (.int .i64 (endS c.y w))] = some (.val (.pure (.int .i64 (turnV ⟨endS a.x i, endS a.y j⟩ ⟨endS b.x x, endS b.y y⟩ ⟨endS c.x z, endS c.y w⟩)))) := fun i j x y z w H =>
    call_pureC (caps := []) (ps := [_, _, _, _, _, _]) sh153 (e153 (n + 1) _ _ _ _ _ _ ⟨endS_in sax i, endS_in say j⟩ ⟨endS_in sbx x, endS_in sby y⟩ ⟨endS_in scx z, endS_in scy w⟩)
  have hE : ∀ (s : Span) (k : Nat) H, doCall (calleeOf G (n + 2)) H (.pure (.func 139 [])) [.pure (.agg s.cells), .pure (.int .i64 k)] = some (.val (.pure (.int .i64 (endS s k)))) := fun s k H => call_pureC (caps := []) (ps := [_, _]) sh139 (e139 (n + 1) s k)
  clear sax say sbx sby scx scy
  have hT0 := hT 0 0 0 0 0 0
  have k0 : turnV ⟨endS a.x 0, endS a.y 0⟩ ⟨endS b.x 0, endS b.y 0⟩ ⟨endS c.x 0, endS c.y 0⟩ = turnK a b c 0 := rfl
  rw [k0] at hT0
  simp only [endS, Nat.zero_mod, if_true] at hT0
  have hT := Hide.mk hT
  have hE := Hide.mk hE
  have hs := turnTo_start a b c
  generalize hk0 : turnK a b c 0 = t0 at *
  clear k0 hk0
  have hs := Hide.mk hs
  (repeat' first | simp [*, initEnv, c133, Box.cells, Span.cells] | (refine wpIf_two (fun _ h => ?_) (fun _ h => ?_) <;> try simp [-Nat.le_zero_eq] at h))
  refine wp_loopF [(9, 10), (33, 76)] (fun (k : Nat) env H => env 9 = .pure (.int .i64 k) ∧ k ≤ 64 ∧ H.nx = 2 ∧ H.get 0 = .cells true [.pure (.int .i64 0), .pure (.int .i64 0)] ∧ ∃ v : Span, H.get 1 = .cells true [.pure (.int .i64 v.lo), .pure (.int .i64 v.hi)] ∧ Hide (turnTo a b c (max k 1) v)) (fun k => 64 - k) 0 ?_ ?_ ?_ ?_
  · decide
  · exact ⟨by simp, by omega, by simp, by simp, ⟨t0, t0⟩, by simp, hs⟩
  · simp only [loopFuel]; omega
  clear hs hT0
  rintro k env H ⟨g9, hk, hnx, g0, v, gv, hv⟩
  by_cases hlt : k < 64
  · have hlI : (k : Int) < 64 := by omega
    have w1 : IntKind.i64.wrap ((k : Int) + 1) = (k + 1 : Nat) := by rw [wrap64 (by omega) (by omega)]; omega
    have q1 := tdiv_2 k
    have q2 := tdiv_4 k
    have q3 := tdiv_8 k
    have q4 := tdiv_16 k
    have q5 := tdiv_32 k
    have u1 : IntKind.i64.wrap ((k / 2 : Nat) : Int) = (k / 2 : Nat) := wrap64 (by omega) (by omega)
    have u2 : IntKind.i64.wrap ((k / 4 : Nat) : Int) = (k / 4 : Nat) := wrap64 (by omega) (by omega)
    have u3 : IntKind.i64.wrap ((k / 8 : Nat) : Int) = (k / 8 : Nat) := wrap64 (by omega) (by omega)
    have u4 : IntKind.i64.wrap ((k / 16 : Nat) : Int) = (k / 16 : Nat) := wrap64 (by omega) (by omega)
    have u5 : IntKind.i64.wrap ((k / 32 : Nat) : Int) = (k / 32 : Nat) := wrap64 (by omega) (by omega)
    have e1 := hE.h a.x k
    have e2 := hE.h a.y (k / 2)
    have e3 := hE.h b.x (k / 4)
    have e4 := hE.h b.y (k / 8)
    have e5 := hE.h c.x (k / 16)
    have e6 := hE.h c.y (k / 32)
    have hTk := hT.h k (k / 2) (k / 4) (k / 8) (k / 16) (k / 32)
    have k0 : turnV ⟨endS a.x k, endS a.y (k / 2)⟩ ⟨endS b.x (k / 4), endS b.y (k / 8)⟩ ⟨endS c.x (k / 16), endS c.y (k / 32)⟩ = turnK a b c k := rfl
    rw [k0] at hTk
    have hm := Hide.mk (turnTo_more hv.h)
    clear hE hT k0 hv
    generalize turnK a b c k = tk at *
    generalize endS a.x k = x1 at *
    generalize endS a.y (k / 2) = x2 at *
    generalize endS b.x (k / 4) = x3 at *
    generalize endS b.y (k / 8) = x4 at *
    generalize endS c.x (k / 16) = x5 at *
    generalize endS c.y (k / 32) = x6 at *
    generalize k / 2 = y2 at *
    generalize k / 4 = y3 at *
    generalize k / 8 = y4 at *
    generalize k / 16 = y5 at *
    generalize k / 32 = y6 at *
    simp only [Span.cells] at e1 e2 e3 e4 e5 e6
    (repeat' first | simp [*, initEnv] | (refine wpIf_two (fun _ h => ?_) (fun _ h => ?_) <;> try simp [-Nat.le_zero_eq] at h))
    exact ⟨k + 1, by omega, by omega, by omega, ⟨min v.lo tk, max v.hi tk⟩, ⟨rfl, rfl⟩, hm⟩
  · have hk64 : k = 64 := by omega
    subst hk64
    have := turnTo_end hv.h
    subst this
    clear hE hT hv
    (repeat' first | simp [*, initEnv] | (refine wpIf_two (fun _ h => ?_) (fun _ h => ?_) <;> try simp [-Nat.le_zero_eq] at h))
theorem ROk.vec {f : Fact} {l : List Box} (h : ROk f l) (n : Nat) : ∃ (i j : Nat) (hi : i < l.length) (hj : j < l.length), f.a = i ∧ f.b = j ∧ vecS f l = (lessS l[j].x l[i].x, lessS l[j].y l[i].y) ∧
    (∀ H, doCall (calleeOf G (n + 1)) H (.pure (.func 104 [])) [.pure (.agg (l[j]).x.cells), .pure (.agg (l[i]).x.cells)] = some (.val (.pure (.agg (vecS f l).1.cells)))) ∧
    (∀ H, doCall (calleeOf G (n + 1)) H (.pure (.func 104 [])) [.pure (.agg (l[j]).y.cells), .pure (.agg (l[i]).y.cells)] = some (.val (.pure (.agg (vecS f l).2.cells)))) := by
  obtain ⟨i, hi, ea, ga⟩ := getB h.a.1 h.a.2
  obtain ⟨j, hj, eb, gb⟩ := getB h.b.1 h.b.2
  obtain ⟨h1, h2⟩ := h.box hi
  obtain ⟨h3, h4⟩ := h.box hj
  have hv : vecS f l = (lessS l[j].x l[i].x, lessS l[j].y l[i].y) := by unfold vecS; rw [ga, gb]
  refine ⟨i, j, hi, hj, ea, eb, hv, fun H => ?_, fun H => ?_⟩
  · rw [hv]; exact call_pureC (caps := []) (ps := [_, _]) sh104 (e104 n _ _ h3 h1)
  · rw [hv]; exact call_pureC (caps := []) (ps := [_, _]) sh104 (e104 n _ _ h4 h2)
theorem ROk.amt {f : Fact} {l : List Box} (h : ROk f l) (n : Nat) : (∀ H, doCall (calleeOf G (n + 1)) H (.pure (.func 103 [])) [.pure (.agg (vecS f l).1.cells)] = some (.val (.pure (.agg (amountS (vecS f l).1).cells)))) ∧
    (∀ H, doCall (calleeOf G (n + 1)) H (.pure (.func 103 [])) [.pure (.agg (vecS f l).2.cells)] = some (.val (.pure (.agg (amountS (vecS f l).2).cells)))) := by
  obtain ⟨v1, v2⟩ := vec_inS h
  exact ⟨fun H => call_pureC (caps := []) (ps := [_]) sh103 (e103 n _ (inS_mono v1 (by omega))), fun H => call_pureC (caps := []) (ps := [_]) sh103 (e103 n _ (inS_mono v2 (by omega)))⟩
def valuesS (f : Fact) (l : List Box) : Span := if f.kind = 2 then turnS l[f.a.toNat]! l[f.b.toNat]! l[f.c.toNat]! else if f.kind = 5 then (vecS f l).1 else if f.kind = 6 then (vecS f l).2 else distS (amountS (vecS f l).1) (amountS (vecS f l).2)
theorem sh105 : G.shared 105 = false := by decide
theorem e105 (n : Nat) (f : Fact) (l : Sl Box) (hr : ROk f l.xs) : callP G (n + 4) 105 [.agg f.cells, l.pv Box.cells 4] = some (.agg (valuesS f l.xs).cells) := by
  refine callP_of (ext_none _) rfl g105 rfl ?_
  obtain ⟨i, j, hi, hj, ea, eb, hv, hx, hy⟩ := hr.vec (n + 2)
  obtain ⟨sx, sy⟩ := hr.amt (n + 2)
  have ga : l.xs[f.a.toNat]! = l.xs[i] := by rw [ea]; simp [hi]
  have gb : l.xs[f.b.toNat]! = l.xs[j] := by rw [eb]; simp [hj]
  have va : validB l.xs[i] = true := hr.v _ (List.getElem_mem hi)
  have vb : validB l.xs[j] = true := hr.v _ (List.getElem_mem hj)
  obtain ⟨v1, v2⟩ := vec_inS hr
  obtain ⟨a1, a2, a3⟩ := amount_inS v1
  obtain ⟨b1, b2, b3⟩ := amount_inS v2
  have hc := hr.c
  have hvv := hr.v
  clear v1 v2 hr
  unfold valuesS
  rw [ga, gb]
  clear hv ga gb
  generalize (vecS f l.xs).1 = x at *
  generalize (vecS f l.xs).2 = y at *
  generalize amountS x = ax at *
  generalize amountS y = ay at *
  have s1 := sq_bd a1 (by omega)
  have s2 := sq_bd (a := ax.hi) (by omega) a3
  have s3 := sq_bd b1 (by omega)
  have s4 := sq_bd (a := ay.hi) (by omega) b3
  have w1 : IntKind.i64.wrap (ax.lo * ax.lo) = ax.lo * ax.lo := wrap64 (by omega) (by omega)
  have w2 : IntKind.i64.wrap (ax.hi * ax.hi) = ax.hi * ax.hi := wrap64 (by omega) (by omega)
  have w3 : IntKind.i64.wrap (ay.lo * ay.lo) = ay.lo * ay.lo := wrap64 (by omega) (by omega)
  have w4 : IntKind.i64.wrap (ay.hi * ay.hi) = ay.hi * ay.hi := wrap64 (by omega) (by omega)
  have w5 : IntKind.i64.wrap (ax.lo * ax.lo + ay.lo * ay.lo) = ax.lo * ax.lo + ay.lo * ay.lo := wrap64 (by omega) (by omega)
  have w6 : IntKind.i64.wrap (ax.hi * ax.hi + ay.hi * ay.hi) = ax.hi * ax.hi + ay.hi * ay.hi := wrap64 (by omega) (by omega)
  clear a1 a2 a3 b1 b2 b3 s1 s2 s3 s4
  simp only [Span.cells] at hx hy sx sy
  by_cases k2 : f.kind = 2
  · rw [if_pos k2]
    obtain ⟨k, hk, ec, gc⟩ := getB (hc k2).1 (hc k2).2
    have vc : validB l.xs[k] = true := hvv _ (List.getElem_mem hk)
    have ht := fun H => call_pureC (G := G) (n := n + 3) (H := H) (caps := []) (ps := [.agg (l.xs[i]).cells, .agg (l.xs[j]).cells, .agg (l.xs[k]).cells]) sh133 (e133 n _ _ _ va vb vc)
    rw [gc]
    simp only [Box.cells, Span.cells, List.map_cons, List.map_nil] at ht
    clear va vb vc hvv hc gc
    generalize turnS l.xs[i] l.xs[j] l.xs[k] = T at *
    (repeat' first | simp [*, initEnv, c105, Fact.cells, Box.cells, Span.cells] | (refine wpIf_two (fun _ h => ?_) (fun _ h => ?_) <;> try simp [-Nat.le_zero_eq] at h))
  rw [if_neg k2]
  clear va vb hvv hc
  by_cases k5 : f.kind = 5
  · rw [if_pos k5]
    (repeat' first | simp [*, initEnv, c105, Fact.cells, Box.cells, Span.cells] | (refine wpIf_two (fun _ h => ?_) (fun _ h => ?_) <;> try simp [-Nat.le_zero_eq] at h))
  rw [if_neg k5]
  by_cases k6 : f.kind = 6
  · rw [if_pos k6]
    (repeat' first | simp [*, initEnv, c105, Fact.cells, Box.cells, Span.cells] | (refine wpIf_two (fun _ h => ?_) (fun _ h => ?_) <;> try simp [-Nat.le_zero_eq] at h))
  rw [if_neg k6]
  (repeat' first | simp [*, initEnv, c105, Fact.cells, Box.cells, Span.cells, distS] | (refine wpIf_two (fun _ h => ?_) (fun _ h => ?_) <;> try simp [-Nat.le_zero_eq] at h))
theorem vec_neg {s : Span} (h : inS s 2097152) : IntKind.i64.wrap (0 - s.lo) = - s.lo ∧ IntKind.i64.wrap (0 - s.hi) = - s.hi ∧ IntKind.i64.wrap (- s.lo) = - s.lo ∧ IntKind.i64.wrap (- s.hi) = - s.hi := by
  unfold inS at h
  exact ⟨by rw [wrap64 (by omega) (by omega)]; omega, by rw [wrap64 (by omega) (by omega)]; omega, wrap64 (by omega) (by omega), wrap64 (by omega) (by omega)⟩
theorem sh102 : G.shared 102 = false := by decide
theorem e102 (n : Nat) (f : Fact) (l : Sl Box) (hr : ROk f l.xs) (hq : 0 ≤ f.quarter ∧ f.quarter ≤ 3) : callP G (n + 2) 102 [.agg f.cells, l.pv Box.cells 4] = some (.tup [.agg (aheadS f.quarter (vecS f l.xs).1 (vecS f l.xs).2).1.cells, .agg (aheadS f.quarter (vecS f l.xs).1 (vecS f l.xs).2).2.cells]) := by
  refine callP_of (ext_none _) rfl g102 rfl ?_
  obtain ⟨i, j, hi, hj, ea, eb, hv, hx, hy⟩ := hr.vec n
  obtain ⟨v1, v2⟩ := vec_inS hr
  have n1 := vec_neg v1
  have n2 := vec_neg v2
  clear hr hv v1 v2
  generalize (vecS f l.xs).1 = x at *
  generalize (vecS f l.xs).2 = y at *
  obtain ⟨w1, w2, w3, w4⟩ := n1
  obtain ⟨w5, w6, w7, w8⟩ := n2
  simp only [Span.cells] at hx hy
  have hq : f.quarter = 0 ∨ f.quarter = 1 ∨ f.quarter = 2 ∨ f.quarter = 3 := by omega
  rcases hq with q | q | q | q
  · rw [q]; (repeat' first | simp [*, initEnv, c102, Fact.cells, Box.cells, Span.cells, aheadS, beside] | (refine wpIf_two (fun _ h => ?_) (fun _ h => ?_) <;> try simp [-Nat.le_zero_eq] at h))
  · rw [q]; (repeat' first | simp [*, initEnv, c102, Fact.cells, Box.cells, Span.cells, aheadS, beside] | (refine wpIf_two (fun _ h => ?_) (fun _ h => ?_) <;> try simp [-Nat.le_zero_eq] at h))
  · rw [q]; (repeat' first | simp [*, initEnv, c102, Fact.cells, Box.cells, Span.cells, aheadS, beside] | (refine wpIf_two (fun _ h => ?_) (fun _ h => ?_) <;> try simp [-Nat.le_zero_eq] at h))
  · rw [q]; (repeat' first | simp [*, initEnv, c102, Fact.cells, Box.cells, Span.cells, aheadS, beside] | (refine wpIf_two (fun _ h => ?_) (fun _ h => ?_) <;> try simp [-Nat.le_zero_eq] at h))
theorem sh58 : G.shared 58 = false := by decide
theorem e58 (n : Nat) (f : Fact) (l : Sl Box) (hr : ROk f l.xs) (hq : f.kind = 3 → 0 ≤ f.quarter ∧ f.quarter ≤ 3) : callP G (n + 6) 58 [.agg f.cells, l.pv Box.cells 4] = some (.bool (bareS f l.xs).1) := by
  refine callP_of (ext_none _) rfl g58 rfl ?_
  obtain ⟨i, j, hi, hj, ea, eb, hv, hx, hy⟩ := hr.vec (n + 4)
  obtain ⟨sx, sy⟩ := hr.amt (n + 4)
  have hval := fun H => call_pureC (G := G) (n := n + 5) (H := H) (caps := []) (ps := [.agg f.cells, l.pv Box.cells 4]) sh105 (e105 (n + 1) f l hr)
  have hah := fun hq H => call_pureC (G := G) (n := n + 5) (H := H) (caps := []) (ps := [.agg f.cells, l.pv Box.cells 4]) sh102 (e102 (n + 3) f l hr hq)
  have hsz := fun (s : Span) (hs : inS s 4194304) H => call_pureC (G := G) (n := n + 5) (H := H) (caps := []) (ps := [.agg s.cells]) sh103 (e103 (n + 4) s hs)
  obtain ⟨v1, v2⟩ := vec_inS hr
  clear hr hv
  rw [bareS_vec]
  unfold valuesS at hval
  simp only [Fact.cells, List.map_cons, List.map_nil] at hval hah
  by_cases k3 : f.kind = 3
  · have hah := hah (hq k3)
    have hw : inS (aheadS f.quarter (vecS f l.xs).1 (vecS f l.xs).2).2 4194304 := by
      unfold aheadS
      (repeat' split) <;> first | exact inS_mono v1 (by omega) | exact inS_mono v2 (by omega)
    have hsz := hsz _ hw
    simp only [k3, ea, eb] at hah
    rw [if_neg (by rw [k3]; omega), if_pos k3]
    simp only [Span.cells, List.map_cons, List.map_nil] at hsz hah
    clear hval hx hy sx sy v1 v2 hq hw
    generalize (aheadS f.quarter (vecS f l.xs).1 (vecS f l.xs).2).1 = u at *
    generalize (aheadS f.quarter (vecS f l.xs).1 (vecS f l.xs).2).2 = w at *
    generalize hA : amountS w = aw at *
    (repeat' first | simp [*, initEnv, c58, Fact.cells, Span.cells, quarterS] | (refine wpIf_two (fun _ h => ?_) (fun _ h => ?_) <;> try simp [-Nat.le_zero_eq] at h))
  clear hah hsz v1 v2 hq
  by_cases k4 : f.kind = 4
  · rw [if_neg (by omega), if_neg k3, if_pos k4]
    simp only [Span.cells] at hx hy sx sy
    clear hval
    generalize (vecS f l.xs).1 = x at *
    generalize (vecS f l.xs).2 = y at *
    generalize amountS x = ax at *
    generalize amountS y = ay at *
    (repeat' first | simp [*, initEnv, c58, Fact.cells, Box.cells, Span.cells, nearS'] | (refine wpIf_two (fun _ h => ?_) (fun _ h => ?_) <;> try simp [-Nat.le_zero_eq] at h))
    all_goals omega
  clear hx hy sx sy
  have hb : (if f.kind = 2 then valuedS f.span (turnS l.xs[f.a.toNat]! l.xs[f.b.toNat]! l.xs[f.c.toNat]!) else if f.kind = 3 then quarterS (aheadS f.quarter (vecS f l.xs).1 (vecS f l.xs).2).1 (aheadS f.quarter (vecS f l.xs).1 (vecS f l.xs).2).2
      else if f.kind = 4 then nearS' f.span (amountS (vecS f l.xs).1) (amountS (vecS f l.xs).2) else if f.kind = 5 then valuedS f.span (vecS f l.xs).1 else if f.kind = 6 then valuedS f.span (vecS f l.xs).2 else valuedS f.span (distS (amountS (vecS f l.xs).1) (amountS (vecS f l.xs).2))) = valuedS f.span (valuesS f l.xs) := by
    unfold valuesS
    rw [if_neg k3, if_neg k4]
    (repeat' split) <;> rfl
  rw [hb]
  clear hb
  have hv : valuesS f l.xs = if f.kind = 2 then turnS l.xs[f.a.toNat]! l.xs[f.b.toNat]! l.xs[f.c.toNat]! else if f.kind = 5 then (vecS f l.xs).1 else if f.kind = 6 then (vecS f l.xs).2 else distS (amountS (vecS f l.xs).1) (amountS (vecS f l.xs).2) := rfl
  rw [← hv] at hval
  clear hv
  generalize valuesS f l.xs = v at *
  simp only [Span.cells, ea, eb] at hval
  (repeat' first | simp [*, initEnv, c58, Fact.cells, Span.cells, valuedS] | (refine wpIf_two (fun _ h => ?_) (fun _ h => ?_) <;> try simp [-Nat.le_zero_eq] at h))
theorem sh60 : G.shared 60 = false := by decide
theorem e60 (n : Nat) (f : Fact) (l : Sl Box) (hr : ROk f l.xs) (hq : f.kind = 3 → 0 ≤ f.quarter ∧ f.quarter ≤ 3) : callP G (n + 6) 60 [.agg f.cells, l.pv Box.cells 4] = some (.bool (bareS f l.xs).2) := by
  refine callP_of (ext_none _) rfl g60 rfl ?_
  obtain ⟨i, j, hi, hj, ea, eb, hv, hx, hy⟩ := hr.vec (n + 4)
  obtain ⟨sx, sy⟩ := hr.amt (n + 4)
  have hval := fun H => call_pureC (G := G) (n := n + 5) (H := H) (caps := []) (ps := [.agg f.cells, l.pv Box.cells 4]) sh105 (e105 (n + 1) f l hr)
  have hah := fun hq H => call_pureC (G := G) (n := n + 5) (H := H) (caps := []) (ps := [.agg f.cells, l.pv Box.cells 4]) sh102 (e102 (n + 3) f l hr hq)
  have hsz := fun (s : Span) (hs : inS s 4194304) H => call_pureC (G := G) (n := n + 5) (H := H) (caps := []) (ps := [.agg s.cells]) sh103 (e103 (n + 4) s hs)
  obtain ⟨v1, v2⟩ := vec_inS hr
  clear hr hv
  rw [bareS_vec]
  unfold valuesS at hval
  simp only [Fact.cells, List.map_cons, List.map_nil] at hval hah
  by_cases k3 : f.kind = 3
  · have hah := hah (hq k3)
    have hw : inS (aheadS f.quarter (vecS f l.xs).1 (vecS f l.xs).2).2 4194304 := by
      unfold aheadS
      (repeat' split) <;> first | exact inS_mono v1 (by omega) | exact inS_mono v2 (by omega)
    have hsz := hsz _ hw
    simp only [k3, ea, eb] at hah
    rw [if_neg (by rw [k3]; omega), if_pos k3]
    simp only [Span.cells, List.map_cons, List.map_nil] at hsz hah
    clear hval hx hy sx sy v1 v2 hq hw
    generalize (aheadS f.quarter (vecS f l.xs).1 (vecS f l.xs).2).1 = u at *
    generalize (aheadS f.quarter (vecS f l.xs).1 (vecS f l.xs).2).2 = w at *
    generalize hA : amountS w = aw at *
    (repeat' first | simp [*, initEnv, c60, Fact.cells, Span.cells, quarterS] | (refine wpIf_two (fun _ h => ?_) (fun _ h => ?_) <;> try simp [-Nat.le_zero_eq] at h))
  clear hah hsz v1 v2 hq
  by_cases k4 : f.kind = 4
  · rw [if_neg (by omega), if_neg k3, if_pos k4]
    simp only [Span.cells] at hx hy sx sy
    clear hval
    generalize (vecS f l.xs).1 = x at *
    generalize (vecS f l.xs).2 = y at *
    generalize amountS x = ax at *
    generalize amountS y = ay at *
    (repeat' first | simp [*, initEnv, c60, Fact.cells, Box.cells, Span.cells, nearS'] | (refine wpIf_two (fun _ h => ?_) (fun _ h => ?_) <;> try simp [-Nat.le_zero_eq] at h))
    all_goals omega
  clear hx hy sx sy
  have hb : (if f.kind = 2 then valuedS f.span (turnS l.xs[f.a.toNat]! l.xs[f.b.toNat]! l.xs[f.c.toNat]!) else if f.kind = 3 then quarterS (aheadS f.quarter (vecS f l.xs).1 (vecS f l.xs).2).1 (aheadS f.quarter (vecS f l.xs).1 (vecS f l.xs).2).2
      else if f.kind = 4 then nearS' f.span (amountS (vecS f l.xs).1) (amountS (vecS f l.xs).2) else if f.kind = 5 then valuedS f.span (vecS f l.xs).1 else if f.kind = 6 then valuedS f.span (vecS f l.xs).2 else valuedS f.span (distS (amountS (vecS f l.xs).1) (amountS (vecS f l.xs).2))) = valuedS f.span (valuesS f l.xs) := by
    unfold valuesS
    rw [if_neg k3, if_neg k4]
    (repeat' split) <;> rfl
  rw [hb]
  clear hb
  have hv : valuesS f l.xs = if f.kind = 2 then turnS l.xs[f.a.toNat]! l.xs[f.b.toNat]! l.xs[f.c.toNat]! else if f.kind = 5 then (vecS f l.xs).1 else if f.kind = 6 then (vecS f l.xs).2 else distS (amountS (vecS f l.xs).1) (amountS (vecS f l.xs).2) := rfl
  rw [← hv] at hval
  clear hv
  generalize valuesS f l.xs = v at *
  simp only [Span.cells, ea, eb] at hval
  (repeat' first | simp [*, initEnv, c60, Fact.cells, Span.cells, valuedS] | (refine wpIf_two (fun _ h => ?_) (fun _ h => ?_) <;> try simp [-Nat.le_zero_eq] at h))
theorem fine_q {f : Fact} {l : List Box} (h : fineB f l = true) : f.kind = 3 → 0 ≤ f.quarter ∧ f.quarter ≤ 3 := fun hk => by
  unfold fineB at h
  rw [Bool.and_eq_true] at h
  have := (formedB_iff f l.length).1 h.2
  omega
theorem sh55 : G.shared 55 = false := by decide
theorem e55 (n : Nat) (f : Fact) (l : Sl Box) (hr : ROk f l.xs) (hq : f.kind = 3 → 0 ≤ f.quarter ∧ f.quarter ≤ 3) : callP G (n + 7) 55 [.agg f.cells, l.pv Box.cells 4] = some (.bool (failsS f l.xs)) := by
  refine callP_of (ext_none _) rfl g55 rfl ?_
  have h1 := fun H => call_pureC (G := G) (n := n + 6) (H := H) (caps := []) (ps := [.agg f.cells, l.pv Box.cells 4]) sh58 (e58 n f l hr hq)
  have h2 := fun H => call_pureC (G := G) (n := n + 6) (H := H) (caps := []) (ps := [.agg f.cells, l.pv Box.cells 4]) sh60 (e60 n f l hr hq)
  simp only [Fact.cells, List.map_cons, List.map_nil] at h1 h2
  clear hr hq
  unfold failsS
  generalize bareS f l.xs = b at *
  cases hn : f.nt
  · simp only [hn] at h1 h2; (repeat' first | simp [*, initEnv, c55, Fact.cells] | (refine wpIf_two (fun _ h => ?_) (fun _ h => ?_) <;> try simp [-Nat.le_zero_eq] at h))
  · simp only [hn] at h1 h2; (repeat' first | simp [*, initEnv, c55, Fact.cells] | (refine wpIf_two (fun _ h => ?_) (fun _ h => ?_) <;> try simp [-Nat.le_zero_eq] at h))
end Go.Proofs.YtmghcpdpilgplaaGreat.Vm

namespace Go.Proofs.YtmghcpdpilgplaaGreat.Vm
open Go
set_option linter.unusedSimpArgs false
set_option linter.unusedVariables false
set_option maxHeartbeats 4000000
set_option maxRecDepth 4000
def lowF (g : Nat → Nat) (f : Fact) : Nat := if f.kind = 2 then min (min (g f.a.toNat) (g f.b.toNat)) (g f.c.toNat) else min (g f.a.toNat) (g f.b.toNat)
def stepG (g : Nat → Nat) (f : Fact) : Nat → Nat := fun i => if i = f.a.toNat ∨ i = f.b.toNat ∨ (f.kind = 2 ∧ i = f.c.toNat) then lowF g f else g i
theorem lowF_a (g : Nat → Nat) (f : Fact) : lowF g f ≤ g f.a.toNat := by unfold lowF; split <;> omega
theorem lowF_b (g : Nat → Nat) (f : Fact) : lowF g f ≤ g f.b.toNat := by unfold lowF; split <;> omega
theorem lowF_c (g : Nat → Nat) (f : Fact) (h : f.kind = 2) : lowF g f ≤ g f.c.toNat := by unfold lowF; rw [if_pos h]; omega
theorem stepG_le (g : Nat → Nat) (f : Fact) (i : Nat) : stepG g f i ≤ g i := by
  unfold stepG
  split
  · rename_i h
    rcases h with rfl | rfl | ⟨h, rfl⟩
    · exact lowF_a g f
    · exact lowF_b g f
    · exact lowF_c g f h
  · exact Nat.le_refl _
theorem stepG_edge (g : Nat → Nat) (f : Fact) {e : Nat × Nat} (he : e ∈ edgesF f) : stepG g f e.1 ≤ g e.2 ∧ stepG g f e.2 ≤ g e.1 := by
  unfold edgesF at he
  rcases List.mem_cons.1 he with rfl | he
  · have h1 : stepG g f f.a.toNat = lowF g f := by simp [stepG]
    have h2 : stepG g f f.b.toNat = lowF g f := by simp [stepG]
    simp only [h1, h2]
    exact ⟨lowF_b g f, lowF_a g f⟩
  · by_cases hk : f.kind = 2
    · rw [if_pos hk] at he
      simp at he
      subst he
      have h1 : stepG g f f.a.toNat = lowF g f := by simp [stepG]
      have h2 : stepG g f f.c.toNat = lowF g f := by simp [stepG, hk]
      simp only [h1, h2]
      exact ⟨lowF_c g f hk, lowF_a g f⟩
    · rw [if_neg hk] at he
      simp at he
theorem lowF_conn {E : List (Nat × Nat)} {n : Nat} {g : Nat → Nat} {f : Fact} (h : OnWay E n g) (he : ∀ e ∈ edgesF f, e ∈ E) (ha : f.a.toNat < n) (hb : f.b.toNat < n) (hc : f.kind = 2 → f.c.toNat < n) : Conn E f.a.toNat (lowF g f) := by
  have eab : Conn E f.a.toNat f.b.toNat := .edge (he _ (by simp [edgesF]))
  have ca := h.conn _ ha
  have cb := eab.trans (h.conn _ hb)
  have cab : Conn E f.a.toNat (min (g f.a.toNat) (g f.b.toNat)) := by
    rcases Nat.le_total (g f.a.toNat) (g f.b.toNat) with hl | hl
    · rw [Nat.min_eq_left hl]; exact ca
    · rw [Nat.min_eq_right hl]; exact cb
  unfold lowF
  split
  · rename_i hk
    have eac : Conn E f.a.toNat f.c.toNat := .edge (he _ (by simp [edgesF, hk]))
    have cc := eac.trans (h.conn _ (hc hk))
    rcases Nat.le_total (min (g f.a.toNat) (g f.b.toNat)) (g f.c.toNat) with hl | hl
    · rw [Nat.min_eq_left hl]; exact cab
    · rw [Nat.min_eq_right hl]; exact cc
  · exact cab
theorem OnWay.step {E : List (Nat × Nat)} {n : Nat} {g : Nat → Nat} {f : Fact} (h : OnWay E n g) (he : ∀ e ∈ edgesF f, e ∈ E) (ha : f.a.toNat < n) (hb : f.b.toNat < n) (hc : f.kind = 2 → f.c.toNat < n) : OnWay E n (stepG g f) := by
  have hl := lowF_conn h he ha hb hc
  have eab : Conn E f.a.toNat f.b.toNat := .edge (he _ (by simp [edgesF]))
  refine ⟨fun i hi => Nat.le_trans (stepG_le g f i) (h.le i hi), fun i hi => ?_⟩
  unfold stepG
  split
  · rename_i hx
    rcases hx with rfl | rfl | ⟨hk, rfl⟩
    · exact hl
    · exact eab.symm.trans hl
    · have eac : Conn E f.a.toNat f.c.toNat := .edge (he _ (by simp [edgesF, hk]))
      exact eac.symm.trans hl
  · exact h.conn i hi
structure RD (fs : List Fact) (n : Nat) (g0 g : Nat → Nat) (k : Nat) : Prop where
  on : OnWay (edgesL fs) n g
  le : ∀ i, g i ≤ g0 i
  ed : ∀ e ∈ edgesL (fs.take k), g e.1 ≤ g0 e.2 ∧ g e.2 ≤ g0 e.1
theorem RD.start {fs : List Fact} {n : Nat} {g : Nat → Nat} (h : OnWay (edgesL fs) n g) : RD fs n g g 0 := ⟨h, fun _ => Nat.le_refl _, fun e he => by simp [edgesL] at he⟩
theorem RD.step {fs : List Fact} {n : Nat} {g0 g : Nat → Nat} {k : Nat} (h : RD fs n g0 g k) (hk : k < fs.length) (ha : fs[k].a.toNat < n) (hb : fs[k].b.toNat < n) (hc : fs[k].kind = 2 → fs[k].c.toNat < n) : RD fs n g0 (stepG g fs[k]) (k + 1) := by
  refine ⟨h.on.step (fun e he => List.mem_flatMap.2 ⟨_, List.getElem_mem hk, he⟩) ha hb hc, fun i => Nat.le_trans (stepG_le _ _ i) (h.le i), fun e he => ?_⟩
  rw [edges_next hk] at he
  rcases List.mem_append.1 he with he | he
  · have := h.ed e he
    have h1 := stepG_le g fs[k] e.1
    have h2 := stepG_le g fs[k] e.2
    omega
  · have := stepG_edge g fs[k] he
    have h1 := h.le e.1
    have h2 := h.le e.2
    omega
structure RR (fs : List Fact) (n : Nat) (m g : Nat → Nat) (r : Nat) : Prop where
  on : OnWay (edgesL fs) n g
  done : n ≤ doneN m g n ∨ r ≤ doneN m g n
theorem RR.start (fs : List Fact) (n : Nat) (m : Nat → Nat) : RR fs n m (fun i => i) 0 := ⟨OnWay.start _ _, .inr (Nat.zero_le _)⟩
theorem RD.next {fs : List Fact} {n : Nat} {m g0 g : Nat → Nat} {r : Nat} (hm : IsCls (edgesL fs) n m) (hE : ∀ e ∈ edgesL fs, e.1 < n ∧ e.2 < n) (h0 : RR fs n m g0 r) (h : RD fs n g0 g fs.length) : RR fs n m g (r + 1) := by
  have hed := h.ed
  rw [edges_all] at hed
  rcases round_done hm hE h0.on h.on (fun i _ => h.le i) hed with h1 | h1
  · exact ⟨h.on, .inl h1⟩
  · refine ⟨h.on, ?_⟩
    have := doneN_le m g n
    rcases h0.done with h2 | h2
    · left; omega
    · right; omega
theorem RR.all {fs : List Fact} {n : Nat} {m g : Nat → Nat} (h : RR fs n m g n) : ∀ i, i < n → g i = m i := doneN_all (by rcases h.done with h | h <;> exact h)
theorem grpL_congr {g g' : Nat → Nat} {n : Nat} (h : ∀ i, i < n → g i = g' i) : grpL g n = grpL g' n := by
  refine List.ext_getElem (by simp [grpL_length]) fun j h1 h2 => ?_
  rw [grpL_length] at h1
  rw [grpL_get, grpL_get, h j h1]
theorem edges_lt {fs : List Fact} {n : Nat} (h : ∀ f ∈ fs, formedB f n = true) : ∀ e ∈ edgesL fs, e.1 < n ∧ e.2 < n := fun e he => by
  obtain ⟨f, hf, he⟩ := List.mem_flatMap.1 he
  have h1 := (formedB_iff _ _).1 (h f hf)
  unfold edgesF at he
  rcases List.mem_cons.1 he with rfl | he
  · simp only; omega
  · by_cases hk : f.kind = 2
    · rw [if_pos hk] at he
      simp at he
      subst he
      have := h1.2.2.2.2.2.1 hk
      simp only; omega
    · rw [if_neg hk] at he
      simp at he
end Go.Proofs.YtmghcpdpilgplaaGreat.Vm

namespace Go.Proofs.YtmghcpdpilgplaaGreat.Vm
open Go
set_option linter.unusedSimpArgs false
set_option linter.unusedVariables false
set_option maxHeartbeats 4000000
set_option maxRecDepth 4000
theorem grpL_set2 {g : Nat → Nat} {f : Fact} {N a b lo : Nat} (ha : f.a = a) (hb : f.b = b) (hk : f.kind ≠ 2) (hl : lowF g f = lo) : ((grpL g N).set a lo).set b lo = grpL (stepG g f) N := by
  have ea : f.a.toNat = a := by omega
  have eb : f.b.toNat = b := by omega
  refine List.ext_getElem (by simp [grpL_length]) fun j h1 h2 => ?_
  rw [List.getElem_set, List.getElem_set, grpL_get, grpL_get]
  unfold stepG
  simp only [hk, false_and, or_false, hl, ea, eb]
  by_cases e1 : b = j
  · subst e1; simp
  · by_cases e2 : a = j
    · subst e2; simp
    · have h1 : ¬ (j = a ∨ j = b) := by omega
      simp only [e1, e2, h1, if_false]
theorem grpL_set3 {g : Nat → Nat} {f : Fact} {N a b c lo : Nat} (ha : f.a = a) (hb : f.b = b) (hc : f.c = c) (hk : f.kind = 2) (hl : lowF g f = lo) : (((grpL g N).set c lo).set a lo).set b lo = grpL (stepG g f) N := by
  have ea : f.a.toNat = a := by omega
  have eb : f.b.toNat = b := by omega
  have ec : f.c.toNat = c := by omega
  refine List.ext_getElem (by simp [grpL_length]) fun j h1 h2 => ?_
  rw [List.getElem_set, List.getElem_set, List.getElem_set, grpL_get, grpL_get]
  unfold stepG
  simp only [hk, true_and, hl, ea, eb, ec]
  by_cases e1 : b = j
  · subst e1; simp
  · by_cases e2 : a = j
    · subst e2; simp
    · by_cases e3 : c = j
      · subst e3; simp
      · have h1 : ¬ (j = a ∨ j = b ∨ j = c) := by omega
        simp only [e1, e2, e3, h1, if_false]
theorem grpL_next (i : Nat) : grpL (fun j => j) (i + 1) = grpL (fun j => j) i ++ [(i : Int)] := by
  unfold grpL
  rw [List.range_succ, List.map_append]
  rfl
theorem sh68 : G.shared 68 = false := by decide
theorem e68 (n : Nat) (p : Problem) (ok : CheckOk p) (m : Nat → Nat) (hm : IsCls (edgesL p.facts.xs) p.boxes.xs.length m) : callP G (n + 1) 68 [.agg p.cells] = some ((Sl.of (grpL m p.boxes.xs.length)).pv intF 1) := by
  refine callP_of (ext_none _) rfl g68 rfl ?_
  obtain ⟨bs, fs⟩ := p
  have nb : bs.xs.length ≤ 12 := ok.nb
  have nf : fs.xs.length ≤ 60 := ok.nf
  have hfm : Hide (∀ f ∈ fs.xs, formedB f bs.xs.length = true) := ⟨ok.fact⟩
  have hmH := Hide.mk hm
  clear hm ok
  simp only at hmH ⊢
  obtain ⟨N, hN⟩ : ∃ N, N = bs.xs.length := ⟨_, rfl⟩
  rw [← hN] at nb hfm hmH ⊢
  have hN' := hN.symm
  clear hN
  have hE := Hide.mk (edges_lt hfm.h)
  (repeat' first | simp [*, initEnv, c68, Problem.cells] | (refine wpIf_two (fun _ h => ?_) (fun _ h => ?_) <;> try simp [-Nat.le_zero_eq] at h) | (apply wpE_appendV; (focus (first | assumption | (repeat' first | assumption | with_reducible apply GrowV.setNew | with_reducible apply GrowV.alloc | with_reducible apply GrowV.set | (with_reducible show ¬ Names _ _; simp [*]; done)))); (focus (exact fun _ => rfl)); (focus decide); (focus (intro a; first | rfl | simp)); (focus (simp [maxCells] <;> omega))) | (refine after_intro fun v2 H2 hv2 hnx2 hget2 hnew2 hone2 hcel2 => ?_))
  refine wp_loopF [(3, 4), (9, 19)] (fun (i : Nat) env H => env 4 = .pure (.int .i64 i) ∧ i ≤ N ∧ ∃ v, env 3 = v ∧ Hide (GrowV intF 1 H v (grpL (fun j => j) i))) (fun i => N - i) 0 ?_ ?_ ?_ ?_
  · decide
  · exact ⟨by simp, by omega, _, by simp, ⟨GrowV.nil⟩⟩
  · simp only [loopFuel]; omega
  rintro i env H ⟨g28, hi, v, g3, hV⟩
  have hone := hV.h.1.one
  by_cases hlt : i < N
  · have w1 : IntKind.i64.wrap ((i : Int) + 1) = (i + 1 : Nat) := by rw [wrap64 (by omega) (by omega)]; omega
    have hltI : (i : Int) < N := by omega
    (repeat' first | simp [*, initEnv] | (refine wpIf_two (fun _ h => ?_) (fun _ h => ?_) <;> try simp [-Nat.le_zero_eq] at h) | (apply wpE_appendV; (focus (first | assumption | (repeat' first | assumption | with_reducible apply GrowV.setNew | with_reducible apply GrowV.alloc | with_reducible apply GrowV.set | (with_reducible show ¬ Names _ _; simp [*]; done)))); (focus (exact fun _ => rfl)); (focus decide); (focus (intro a; first | rfl | simp)); (focus (simp [maxCells] <;> omega))) | (refine after_intro fun v2 H2 hv2 hnx2 hget2 hnew2 hone2 hcel2 => ?_))
    refine wpE_appendV (hV.h.alloc _) (fun _ => rfl) (by decide) (fun _ => rfl) (by rw [grpL_length]; unfold maxCells; omega) ⟨(i : Int), by simp [intF], ?_⟩
    intro u4 H4 hg4 ha
    rw [← grpL_next] at hg4
    have hg5 := Hide.mk hg4
    clear hg4 ha hV hone
    (repeat' first | simp [*, initEnv] | (refine wpIf_two (fun _ h => ?_) (fun _ h => ?_) <;> try simp [-Nat.le_zero_eq] at h) | (apply wpE_appendV; (focus (first | assumption | (repeat' first | assumption | with_reducible apply GrowV.setNew | with_reducible apply GrowV.alloc | with_reducible apply GrowV.set | (with_reducible show ¬ Names _ _; simp [*]; done)))); (focus (exact fun _ => rfl)); (focus decide); (focus (intro a; first | rfl | simp)); (focus (simp [maxCells] <;> omega))) | (refine after_intro fun v2 H2 hv2 hnx2 hget2 hnew2 hone2 hcel2 => ?_))
    exact ⟨i + 1, by omega, by omega, by omega, hg5⟩
  · have hiN : i = N := by omega
    subst hiN
    by_cases hN0 : i = 0
    · subst hN0
      have hv : v = .pure .nils := hV.h.2 rfl
      have hr0 : (Sl.of (grpL m 0)).pv intF 1 = .nils := rfl
      subst hv
      clear hV hone
      (repeat' first | simp [*, initEnv] | (refine wpIf_two (fun _ h => ?_) (fun _ h => ?_) <;> try simp [-Nat.le_zero_eq] at h) | (apply wpE_appendV; (focus (first | assumption | (repeat' first | assumption | with_reducible apply GrowV.setNew | with_reducible apply GrowV.alloc | with_reducible apply GrowV.set | (with_reducible show ¬ Names _ _; simp [*]; done)))); (focus (exact fun _ => rfl)); (focus decide); (focus (intro a; first | rfl | simp)); (focus (simp [maxCells] <;> omega))) | (refine after_intro fun v2 H2 hv2 hnx2 hget2 hnew2 hone2 hcel2 => ?_))
      refine wp_loopF [(5, 8), (20, 74)] (fun (u : Unit) env H => env 5 = .pure (.int .i64 0)) (fun u => 0) () ?_ ?_ ?_ ?_
      · decide
      · simp
      · simp only [loopFuel]; omega
      rintro u env H g5
      (repeat' first | simp [*, initEnv] | (refine wpIf_two (fun _ h => ?_) (fun _ h => ?_) <;> try simp [-Nat.le_zero_eq] at h) | (apply wpE_appendV; (focus (first | assumption | (repeat' first | assumption | with_reducible apply GrowV.setNew | with_reducible apply GrowV.alloc | with_reducible apply GrowV.set | (with_reducible show ¬ Names _ _; simp [*]; done)))); (focus (exact fun _ => rfl)); (focus decide); (focus (intro a; first | rfl | simp)); (focus (simp [maxCells] <;> omega))) | (refine after_intro fun v2 H2 hv2 hnx2 hget2 hnew2 hone2 hcel2 => ?_))
    · obtain ⟨id, rfl, hg⟩ := hV.h.1.row (by intro h; have := congrArg List.length h; rw [grpL_length] at this; simp at this; omega)
      rw [grpL_length] at *
      have hid := nx_of_get hg
      have hR := Hide.mk (RR.start fs.xs i m)
      clear hV hone hlt
      (repeat' first | simp [*, initEnv] | (refine wpIf_two (fun _ h => ?_) (fun _ h => ?_) <;> try simp [-Nat.le_zero_eq] at h) | (apply wpE_appendV; (focus (first | assumption | (repeat' first | assumption | with_reducible apply GrowV.setNew | with_reducible apply GrowV.alloc | with_reducible apply GrowV.set | (with_reducible show ¬ Names _ _; simp [*]; done)))); (focus (exact fun _ => rfl)); (focus decide); (focus (intro a; first | rfl | simp)); (focus (simp [maxCells] <;> omega))) | (refine after_intro fun v2 H2 hv2 hnx2 hget2 hnew2 hone2 hcel2 => ?_))
      refine wp_loopF [(5, 8), (20, 74)] (fun (r : Nat) env H => env 5 = .pure (.int .i64 r) ∧ r ≤ i ∧ id < H.nx ∧ ∃ g, H.get id = .cells true (rowOf intF (grpL g i)) ∧ Hide (RR fs.xs i m g r)) (fun r => i - r) 0 ?_ ?_ ?_ ?_
      · decide
      · exact ⟨by simp, by omega, hid, _, hg, hR⟩
      · simp only [loopFuel]; omega
      clear hR hg hid
      rintro r env H ⟨g5, hr, hid, g0, hg, hR⟩
      by_cases hrl : r < i
      · have w1 : IntKind.i64.wrap ((r : Int) + 1) = (r + 1 : Nat) := by rw [wrap64 (by omega) (by omega)]; omega
        have hrI : (r : Int) < i := by omega
        have hD0 := Hide.mk (RD.start hR.h.on)
        (repeat' first | simp [*, initEnv] | (refine wpIf_two (fun _ h => ?_) (fun _ h => ?_) <;> try simp [-Nat.le_zero_eq] at h) | (apply wpE_appendV; (focus (first | assumption | (repeat' first | assumption | with_reducible apply GrowV.setNew | with_reducible apply GrowV.alloc | with_reducible apply GrowV.set | (with_reducible show ¬ Names _ _; simp [*]; done)))); (focus (exact fun _ => rfl)); (focus decide); (focus (intro a; first | rfl | simp)); (focus (simp [maxCells] <;> omega))) | (refine after_intro fun v2 H2 hv2 hnx2 hget2 hnew2 hone2 hcel2 => ?_))
        refine wp_loopF [(6, 8), (27, 74)] (fun (k : Nat) env H => env 6 = .pure (.int .i64 k) ∧ k ≤ fs.xs.length ∧ id < H.nx ∧ ∃ g, H.get id = .cells true (rowOf intF (grpL g i)) ∧ Hide (RD fs.xs i g0 g k)) (fun k => fs.xs.length - k) 0 ?_ ?_ ?_ ?_
        · decide
        · exact ⟨by simp, by omega, hid, _, hg, hD0⟩
        · simp only [loopFuel]; omega
        have g5' := g5
        clear hD0 hg hid g5
        rintro k env H ⟨g6, hk, hid, g, hg, hD⟩
        by_cases hkl : k < fs.xs.length
        · have w2 : IntKind.i64.wrap ((k : Int) + 1) = (k + 1 : Nat) := by rw [wrap64 (by omega) (by omega)]; omega
          have hkI : (k : Int) < fs.xs.length := by omega
          have hf := (formedB_iff _ _).1 (hfm.h fs.xs[k] (List.getElem_mem hkl))
          obtain ⟨a, ha⟩ : ∃ a : Nat, fs.xs[k].a = a := ⟨fs.xs[k].a.toNat, by omega⟩
          obtain ⟨b, hb⟩ : ∃ b : Nat, fs.xs[k].b = b := ⟨fs.xs[k].b.toNat, by omega⟩
          have haN : a < i := by omega
          have hbN : b < i := by omega
          have haI : (a : Int) < i := by omega
          have hbI : (b : Int) < i := by omega
          have hne : id ≠ H.nx := by omega
          have hne2 : H.nx ≠ id := by omega
          have hid1 : id < H.nx + 1 := by omega
          have hl := grpL_length g i
          have ga := grpL_get (g := g) (n := i) (i := a) (by rw [hl]; exact haN)
          have gb := grpL_get (g := g) (n := i) (i := b) (by rw [hl]; exact hbN)
          have ra := loadIn_row1 (own := true) (f := intF) (l := grpL g i) (i := a) (fun _ => rfl) (by rw [hl]; exact haN)
          have rb := loadIn_row1 (own := true) (f := intF) (l := grpL g i) (i := b) (fun _ => rfl) (by rw [hl]; exact hbN)
          rw [ga] at ra
          rw [gb] at rb
          obtain ⟨lo, hlo⟩ : ∃ lo : Nat, lowF g fs.xs[k] = lo := ⟨_, rfl⟩
          by_cases hk2 : fs.xs[k].kind = 2
          · have hf2 := hf.2.2.2.2.2.1 hk2
            obtain ⟨c, hc⟩ : ∃ c : Nat, fs.xs[k].c = c := ⟨fs.xs[k].c.toNat, by omega⟩
            have hcN : c < i := by omega
            have hcI : (c : Int) < i := by omega
            have gc := grpL_get (g := g) (n := i) (i := c) (by rw [hl]; exact hcN)
            have rc := loadIn_row1 (own := true) (f := intF) (l := grpL g i) (i := c) (fun _ => rfl) (by rw [hl]; exact hcN)
            rw [gc] at rc
            simp only [intF, List.map_cons, List.map_nil] at ra rb rc
            have p1 := putIn_rowI (l := grpL g i) (i := c) (x := lo) (by rw [hl]; exact hcN)
            have p2 := putIn_rowI (l := (grpL g i).set c lo) (i := a) (x := lo) (by rw [List.length_set, hl]; exact haN)
            have p3 := putIn_rowI (l := ((grpL g i).set c lo).set a lo) (i := b) (x := lo) (by rw [List.length_set, List.length_set, hl]; exact hbN)
            rw [grpL_set3 ha hb hc hk2 hlo] at p3
            have m1 : min (min (g a : Int) (g b : Int)) (g c : Int) = (lo : Int) := by
              unfold lowF at hlo
              rw [if_pos hk2, ha, hb, hc] at hlo
              simp only [Int.toNat_natCast] at hlo
              omega
            have hD2 := Hide.mk (hD.h.step hkl (by omega) (by omega) (fun _ => by omega))
            clear hf hf2 hl ga gb gc hD hlo hfm
            (repeat' first | simp [*, initEnv, Fact.cells] | (refine wpIf_two (fun _ h => ?_) (fun _ h => ?_) <;> try simp [-Nat.le_zero_eq] at h) | (apply wpE_appendV; (focus (first | assumption | (repeat' first | assumption | with_reducible apply GrowV.setNew | with_reducible apply GrowV.alloc | with_reducible apply GrowV.set | (with_reducible show ¬ Names _ _; simp [*]; done)))); (focus (exact fun _ => rfl)); (focus decide); (focus (intro a; first | rfl | simp)); (focus (simp [maxCells] <;> omega))) | (refine after_intro fun v2 H2 hv2 hnx2 hget2 hnew2 hone2 hcel2 => ?_))
            exact ⟨k + 1, by omega, by omega, by omega, _, rfl, hD2⟩
          · simp only [intF, List.map_cons, List.map_nil] at ra rb
            have p2 := putIn_rowI (l := grpL g i) (i := a) (x := lo) (by rw [hl]; exact haN)
            have p3 := putIn_rowI (l := (grpL g i).set a lo) (i := b) (x := lo) (by rw [List.length_set, hl]; exact hbN)
            rw [grpL_set2 ha hb hk2 hlo] at p3
            have m1 : min (g a : Int) (g b : Int) = (lo : Int) := by
              unfold lowF at hlo
              rw [if_neg hk2, ha, hb] at hlo
              simp only [Int.toNat_natCast] at hlo
              omega
            have hD2 := Hide.mk (hD.h.step hkl (by omega) (by omega) (fun h => absurd h hk2))
            clear hf hl ga gb hD hlo hfm
            (repeat' first | simp [*, initEnv, Fact.cells] | (refine wpIf_two (fun _ h => ?_) (fun _ h => ?_) <;> try simp [-Nat.le_zero_eq] at h) | (apply wpE_appendV; (focus (first | assumption | (repeat' first | assumption | with_reducible apply GrowV.setNew | with_reducible apply GrowV.alloc | with_reducible apply GrowV.set | (with_reducible show ¬ Names _ _; simp [*]; done)))); (focus (exact fun _ => rfl)); (focus decide); (focus (intro a; first | rfl | simp)); (focus (simp [maxCells] <;> omega))) | (refine after_intro fun v2 H2 hv2 hnx2 hget2 hnew2 hone2 hcel2 => ?_))
            exact ⟨k + 1, by omega, by omega, by omega, _, rfl, hD2⟩
        · have hkN : k = fs.xs.length := by omega
          subst hkN
          have hR2 := Hide.mk (hD.h.next hmH.h hE.h hR.h)
          clear hD hR
          (repeat' first | simp [*, initEnv] | (refine wpIf_two (fun _ h => ?_) (fun _ h => ?_) <;> try simp [-Nat.le_zero_eq] at h) | (apply wpE_appendV; (focus (first | assumption | (repeat' first | assumption | with_reducible apply GrowV.setNew | with_reducible apply GrowV.alloc | with_reducible apply GrowV.set | (with_reducible show ¬ Names _ _; simp [*]; done)))); (focus (exact fun _ => rfl)); (focus decide); (focus (intro a; first | rfl | simp)); (focus (simp [maxCells] <;> omega))) | (refine after_intro fun v2 H2 hv2 hnx2 hget2 hnew2 hone2 hcel2 => ?_))
          exact ⟨r + 1, by omega, by omega, by omega, _, rfl, hR2⟩
      · have hri : r = i := by omega
        subst hri
        have he : grpL g0 r = grpL m r := grpL_congr hR.h.all
        rw [he] at hg
        have hres := Hide.mk (row_res (n := 10) (f := intF) (sz := 1) (fun _ => rfl) hg (grpL_length _ _))
        have e2 : (Sl.of (grpL m r)).pv intF 1 = (Sl.mk false (grpL m r)).pv intF 1 := by
          have : grpL m r ≠ [] := by intro h; have := congrArg List.length h; rw [grpL_length] at this; simp at this; omega
          cases hx : grpL m r with
          | nil => exact absurd hx this
          | cons x xs => rfl
        rw [e2]
        clear hR he e2
        (repeat' first | simp [*, initEnv] | (refine wpIf_two (fun _ h => ?_) (fun _ h => ?_) <;> try simp [-Nat.le_zero_eq] at h) | (apply wpE_appendV; (focus (first | assumption | (repeat' first | assumption | with_reducible apply GrowV.setNew | with_reducible apply GrowV.alloc | with_reducible apply GrowV.set | (with_reducible show ¬ Names _ _; simp [*]; done)))); (focus (exact fun _ => rfl)); (focus decide); (focus (intro a; first | rfl | simp)); (focus (simp [maxCells] <;> omega))) | (refine after_intro fun v2 H2 hv2 hnx2 hget2 hnew2 hone2 hcel2 => ?_))
        exact hres.h
theorem sh29 : G.shared 29 = false := by decide
theorem e29 (n : Nat) (p : Problem) (ok : CheckOk p) (m : Nat → Nat) (hm : IsCls (edgesL p.facts.xs) p.boxes.xs.length m) : callP G (n + 2) 29 [.agg p.cells] = some (partsPV (partsL' m p.boxes.xs.length)) := by
  refine callP_of (ext_none _) rfl g29 rfl ?_
  have nb : p.boxes.xs.length ≤ 12 := ok.nb
  obtain ⟨i, hN⟩ : ∃ N, N = p.boxes.xs.length := ⟨_, rfl⟩
  have hcl := fun H => call_pureC (G := G) (n := n + 1) (H := H) (caps := []) (ps := [.agg p.cells]) sh68 (e68 n p ok m hm)
  rw [← hN] at nb hcl ⊢
  obtain ⟨s, hs⟩ : ∃ s : Sl Int, Sl.of (grpL m i) = s := ⟨_, rfl⟩
  have hxs : s.xs = grpL m i := by rw [← hs, Sl.xs_of]
  rw [hs] at hcl
  have hsl : s.xs.length = i := by rw [hxs, grpL_length]
  have hsg : Hide (∀ j (h : j < s.xs.length), s.xs[j] = (m j : Int)) := ⟨fun j h => by simp only [hxs, grpL_get]⟩
  clear hN hs hxs hm ok
  simp only [Problem.cells, List.map_cons, List.map_nil] at hcl
  have hpl : partsTo m i i = partsL' m i := rfl
  have hP0 := Hide.mk (PaJ.nil 0 Heap.empty)
  rw [← hpl]
  clear hpl
  (repeat' first | simp [*, initEnv, c29, Problem.cells] | (refine wpIf_two (fun _ h => ?_) (fun _ h => ?_) <;> try simp [-Nat.le_zero_eq] at h) | (apply wpE_appendV; (focus (first | assumption | (repeat' first | assumption | with_reducible apply GrowV.setNew | with_reducible apply GrowV.alloc | with_reducible apply GrowV.set | (with_reducible show ¬ Names _ _; simp [*]; done)))); (focus (exact fun _ => rfl)); (focus decide); (focus (intro a; first | rfl | simp)); (focus (simp [maxCells] <;> omega))) | (refine after_intro fun v2 H2 hv2 hnx2 hget2 hnew2 hone2 hcel2 => ?_))
  clear hcl
  refine wp_loopF [(4, 7), (10, 42)] (fun (t : Nat) env H => env 5 = .pure (.int .i64 t) ∧ t ≤ i ∧ ∃ v, env 4 = v ∧ Hide (PaJ 0 H v (partsTo m i t))) (fun t => i - t) 0 ?_ ?_ ?_ ?_
  · decide
  · exact ⟨by simp, by omega, _, by simp, hP0⟩
  · simp only [loopFuel]; omega
  clear hP0
  rintro t env H ⟨g52, ht, v, g8, hP⟩
  by_cases htl : t < i
  · have w1 : IntKind.i64.wrap ((t : Int) + 1) = (t + 1 : Nat) := by rw [wrap64 (by omega) (by omega)]; omega
    have htI : (t : Int) < i := by omega
    have htx : t < s.xs.length := by omega
    have gt := hsg.h t htx
    by_cases e : m t = t
    · have eI : (m t : Int) = (t : Int) := by rw [e]
      have hT0 : GrowV intF 1 H (.pure .nils) (intsN (partTo m t 0)) := GrowV.nil
      have hT0 := Hide.mk hT0
      (repeat' first | simp [*, initEnv] | (refine wpIf_two (fun _ h => ?_) (fun _ h => ?_) <;> try simp [-Nat.le_zero_eq] at h) | (apply wpE_appendV; (focus (first | assumption | (repeat' first | assumption | with_reducible apply GrowV.setNew | with_reducible apply GrowV.alloc | with_reducible apply GrowV.set | (with_reducible show ¬ Names _ _; simp [*]; done)))); (focus (exact fun _ => rfl)); (focus decide); (focus (intro a; first | rfl | simp)); (focus (simp [maxCells] <;> omega))) | (refine after_intro fun v2 H2 hv2 hnx2 hget2 hnew2 hone2 hcel2 => ?_))
      clear eI gt
      refine wp_loopF [(6, 7), (22, 37)] (fun (j : Nat) env H2 => env 7 = .pure (.int .i64 j) ∧ j ≤ i ∧ H.nx ≤ H2.nx ∧ Hide (∀ c, c < H.nx → H2.get c = H.get c) ∧ ∃ u, env 6 = u ∧ Hide (GrowV intF 1 H2 u (intsN (partTo m t j)) ∧ ∀ id, Names u id → H.nx ≤ id)) (fun j => i - j) 0 ?_ ?_ ?_ ?_
      · decide
      · exact ⟨by simp, by omega, Nat.le_refl _, ⟨fun _ _ => rfl⟩, _, by simp, ⟨hT0.h, fun id ⟨_, _, _, h⟩ => by simp at h⟩⟩
      · simp only [loopFuel]; omega
      clear hT0
      have g52' := g52
      rintro j env H2 ⟨g63, hj, hnx2, hsame, u, g10, hU⟩
      have hone := hU.h.1.1.one
      by_cases hjl : j < i
      · have w2 : IntKind.i64.wrap ((j : Int) + 1) = (j + 1 : Nat) := by rw [wrap64 (by omega) (by omega)]; omega
        have hjI : (j : Int) < i := by omega
        have hjx : j < s.xs.length := by omega
        have gj := hsg.h j hjx
        by_cases ej : m j = t
        · have eJ : (m j : Int) = (t : Int) := by rw [ej]
          (repeat' first | simp [*, initEnv] | (refine wpIf_two (fun _ h => ?_) (fun _ h => ?_) <;> try simp [-Nat.le_zero_eq] at h) | (apply wpE_appendV; (focus (first | assumption | (repeat' first | assumption | with_reducible apply GrowV.setNew | with_reducible apply GrowV.alloc | with_reducible apply GrowV.set | (with_reducible show ¬ Names _ _; simp [*]; done)))); (focus (exact fun _ => rfl)); (focus decide); (focus (intro a; first | rfl | simp)); (focus (simp [maxCells] <;> omega))) | (refine after_intro fun v2 H2 hv2 hnx2 hget2 hnew2 hone2 hcel2 => ?_))
          refine wpE_appendV (hU.h.1.alloc _) (fun _ => rfl) (by decide) (fun _ => rfl) (by rw [intsN_length]; have := partTo_len m t j; unfold maxCells; omega) ⟨(j : Int), by simp [intF], ?_⟩
          intro u4 H4 hg4 ha
          have hU4 : Hide (GrowV intF 1 H4 u4 (intsN (partTo m t (j + 1))) ∧ ∀ id, Names u4 id → H.nx ≤ id) := ⟨by rw [partTo_next, if_pos ej]; simpa [intsN] using hg4, fun id hn => by have := ha.new id hn; simp at this; omega⟩
          have hs4 : Hide (∀ c, c < H.nx → H4.get c = H.get c) := ⟨fun c hc => by rw [ha.get c (by simp; omega) (fun hn => by have := hU.h.2 c hn; omega), get_alloc_lt (by omega)]; exact hsame.h c hc⟩
          have hx4 : H.nx ≤ H4.nx := by have := ha.nx; simp at this; omega
          clear hg4 ha hU hsame hone gj eJ
          (repeat' first | simp [*, initEnv] | (refine wpIf_two (fun _ h => ?_) (fun _ h => ?_) <;> try simp [-Nat.le_zero_eq] at h) | (apply wpE_appendV; (focus (first | assumption | (repeat' first | assumption | with_reducible apply GrowV.setNew | with_reducible apply GrowV.alloc | with_reducible apply GrowV.set | (with_reducible show ¬ Names _ _; simp [*]; done)))); (focus (exact fun _ => rfl)); (focus decide); (focus (intro a; first | rfl | simp)); (focus (simp [maxCells] <;> omega))) | (refine after_intro fun v2 H2 hv2 hnx2 hget2 hnew2 hone2 hcel2 => ?_))
          exact ⟨j + 1, by omega, by omega, by omega, hU4⟩
        · have eJ : ¬ (m j : Int) = (t : Int) := by omega
          have hU2 := hU.h
          rw [show partTo m t j = partTo m t (j + 1) by rw [partTo_next, if_neg ej]] at hU2
          have hU3 := Hide.mk hU2
          clear hU2 hU
          (repeat' first | simp [*, initEnv] | (refine wpIf_two (fun _ h => ?_) (fun _ h => ?_) <;> try simp [-Nat.le_zero_eq] at h) | (apply wpE_appendV; (focus (first | assumption | (repeat' first | assumption | with_reducible apply GrowV.setNew | with_reducible apply GrowV.alloc | with_reducible apply GrowV.set | (with_reducible show ¬ Names _ _; simp [*]; done)))); (focus (exact fun _ => rfl)); (focus decide); (focus (intro a; first | rfl | simp)); (focus (simp [maxCells] <;> omega))) | (refine after_intro fun v2 H2 hv2 hnx2 hget2 hnew2 hone2 hcel2 => ?_))
          exact ⟨j + 1, by omega, by omega, by omega, hU3⟩
      · have hji : j = i := by omega
        have hU2 := hU.h
        rw [hji] at hU2
        have hel : partTo m t i = partL m i t := rfl
        rw [hel] at hU2
        have hne : intsN (partL m i t) ≠ [] := by
          intro h
          have h2 : partL m i t = [] := by simpa [intsN] using h
          have h3 : t ∈ partL m i t := by simp [partL, htl, e]
          rw [h2] at h3
          simp at h3
        obtain ⟨id, rfl, hgid⟩ := hU2.1.1.row hne
        have hidH := hU2.2 id ⟨_, _, _, rfl⟩
        have hjn : ¬ (j : Int) < i := by omega
        have hkp := hsame.h
        have hid2 := nx_of_get hgid
        have hgH := Hide.mk hgid
        have hel2 := intsN_length (partL m i t)
        clear hU hU2 hsame hji hgid hone hel hne
        (repeat' first | simp [*, initEnv] | (refine wpIf_two (fun _ h => ?_) (fun _ h => ?_) <;> try simp [-Nat.le_zero_eq] at h) | (apply wpE_appendV; (focus (first | assumption | (repeat' first | assumption | with_reducible apply GrowV.setNew | with_reducible apply GrowV.alloc | with_reducible apply GrowV.set | (with_reducible show ¬ Names _ _; simp [*]; done)))); (focus (exact fun _ => rfl)); (focus decide); (focus (intro a; first | rfl | simp)); (focus (simp [maxCells] <;> omega))) | (refine after_intro fun v2 H2 hv2 hnx2 hget2 hnew2 hone2 hcel2 => ?_))
        refine wpE_appendPJ (B := 0) (id := id) (l := partL m i t) (hP.h.keep fun c _ hc => by rw [get_alloc_lt (by omega)]; exact hkp c hc) (by omega) (by simp [intsN_length]) (by omega) (fun h => by have := hP.h.lt h; omega) (by rw [get_alloc_lt hid2]; exact hgH.h) (by have := partsTo_len m i t; unfold maxCells; omega) ?_
        intro v4 H4 hP4 hnx4 e01
        have hP5 : Hide (PaJ 0 H4 v4 (partsTo m i (t + 1))) := ⟨by rw [partsTo_next, if_pos e]; exact hP4⟩
        clear hP4 e01 hP hgH hkp
        (repeat' first | simp [*, initEnv] | (refine wpIf_two (fun _ h => ?_) (fun _ h => ?_) <;> try simp [-Nat.le_zero_eq] at h) | (apply wpE_appendV; (focus (first | assumption | (repeat' first | assumption | with_reducible apply GrowV.setNew | with_reducible apply GrowV.alloc | with_reducible apply GrowV.set | (with_reducible show ¬ Names _ _; simp [*]; done)))); (focus (exact fun _ => rfl)); (focus decide); (focus (intro a; first | rfl | simp)); (focus (simp [maxCells] <;> omega))) | (refine after_intro fun v2 H2 hv2 hnx2 hget2 hnew2 hone2 hcel2 => ?_))
        exact ⟨t + 1, by omega, by omega, by omega, hP5⟩
    · have eI : ¬ (m t : Int) = (t : Int) := by omega
      have hP2 : Hide (PaJ 0 H v (partsTo m i (t + 1))) := ⟨by rw [partsTo_next, if_neg e]; exact hP.h⟩
      clear hP
      (repeat' first | simp [*, initEnv] | (refine wpIf_two (fun _ h => ?_) (fun _ h => ?_) <;> try simp [-Nat.le_zero_eq] at h) | (apply wpE_appendV; (focus (first | assumption | (repeat' first | assumption | with_reducible apply GrowV.setNew | with_reducible apply GrowV.alloc | with_reducible apply GrowV.set | (with_reducible show ¬ Names _ _; simp [*]; done)))); (focus (exact fun _ => rfl)); (focus decide); (focus (intro a; first | rfl | simp)); (focus (simp [maxCells] <;> omega))) | (refine after_intro fun v2 H2 hv2 hnx2 hget2 hnew2 hone2 hcel2 => ?_))
      exact ⟨t + 1, by omega, by omega, by omega, hP2⟩
  · have hti : t = i := by omega
    subst hti
    have hres := Hide.mk hP.h.res
    clear hP
    (repeat' first | simp [*, initEnv] | (refine wpIf_two (fun _ h => ?_) (fun _ h => ?_) <;> try simp [-Nat.le_zero_eq] at h) | (apply wpE_appendV; (focus (first | assumption | (repeat' first | assumption | with_reducible apply GrowV.setNew | with_reducible apply GrowV.alloc | with_reducible apply GrowV.set | (with_reducible show ¬ Names _ _; simp [*]; done)))); (focus (exact fun _ => rfl)); (focus decide); (focus (intro a; first | rfl | simp)); (focus (simp [maxCells] <;> omega))) | (refine after_intro fun v2 H2 hv2 hnx2 hget2 hnew2 hone2 hcel2 => ?_))
    exact hres.h
end Go.Proofs.YtmghcpdpilgplaaGreat.Vm
