/- The chapter's examples: head() returns true, by the machine's own runs in the kernel. The law SearchNarrows, on the machine. -/
import Derived.Test.YtmghcpdpilgplaaGreatPk15
import Derived.Test.YtmghcpdpilgplaaGreatPk27
import Derived.Test.YtmghcpdpilgplaaGreatPk9
import Derived.KernelRfl
import Derived.Test.YtmghcpdpilgplaaGreatPk26
namespace Go.Proofs.YtmghcpdpilgplaaGreat.Vm
open Go
set_option linter.unusedSimpArgs false
set_option linter.unusedVariables false
set_option maxHeartbeats 4000000
def iP (n : Int) : PV := .int .i64 n
def pP (a b c d : Int) : PV := .slice false 2 [[iP a, iP b], [iP c, iP d]]
def exB (a b c d : Int) : List PV := [.int .i64 a, .int .i64 b, .int .i64 c, .int .i64 d]
def exF (id kind lo hi : Int) : List PV := [.int .i64 id, .int .i64 kind, .bool false, .int .i64 0, .int .i64 1, .int .i64 0, .int .i64 lo, .int .i64 hi, .int .i64 0]
def exN : List PV := [.int .i64 0, .int .i64 6, .bool true, .int .i64 0, .int .i64 1, .int .i64 0, .int .i64 1, .int .i64 5, .int .i64 0]
def exPr (fs : List (List PV)) : PV := .agg [.slice false 4 [exB 0 0 0 0, exB (-5) 5 (-5) 5], .slice false 9 fs]
def exP : PV := exPr [exF 4 1 25 25, exF 7 3 0 0]
def exQ : PV := exPr [exF 4 1 25 25, exF 7 3 0 0, exF 9 5 2 2]
theorem ex_run : callP G 59 44 [] = some exP := by kernel_rfl
theorem narrow_run : callP G 59 22 [exP] = some (.tup [.slice false 4 [exB 0 0 0 0, exB 3 5 (-4) 4], .int .i64 0]) := by kernel_rfl
theorem count_run : callP G 59 32 [exP] = some (.tup [.int .i64 3, .int .i64 0]) := by kernel_rfl
theorem hull_run : callP G 59 45 [exP] = some (.tup [.slice false 4 [exB 0 0 0 0, exB 4 5 (-3) 3], .int .i64 0]) := by kernel_rfl
theorem dec_run2 : callP G 59 46 [exP, .agg (exF 0 1 20 30)] = some (.tup [.int .i64 2, .int .i64 0]) := by kernel_rfl
theorem with_run : callP G 59 47 [exP, .agg (exF 9 5 2 2)] = some exQ := by kernel_rfl
def fr0 : PV := (.tup [(.agg [(.bool false), (.slice false 1 [[(.ptr false [(.slice false 1 [[(iP 0)], [(iP 1)]]), (iP 3), (.slice false 4 [[(pP 0 0 4 (-3)), (pP 0 0 4 (-3)), (pP 0 0 4 (-3)), (pP 0 0 4 (-3))], [(pP 0 0 4 (-3)), (pP 0 0 5 0), (pP 0 0 4 (-3)), (pP 0 0 4 3)]]), (pP 0 0 4 (-3))] 0)]])]), (iP 0)])
theorem find_run0 : callP G 58 77 [exP] = some fr0 := by kernel_rfl
def fr1 : PV := (.tup [(.agg [(.bool false), (.slice false 1 [[(.ptr false [(.slice false 1 [[(iP 0)], [(iP 1)]]), (iP 1), (.slice false 4 [[(pP 0 0 4 3), (pP 0 0 4 3), (pP 0 0 4 3), (pP 0 0 4 3)], [(pP 0 0 4 3), (pP 0 0 4 3), (pP 0 0 4 3), (pP 0 0 4 3)]]), (pP 0 0 4 3)] 0)]])]), (iP 0)])
theorem find_run1 : callP G 58 77 [exPr [exF 4 1 25 25, exF 7 3 0 0, exF 0 6 1 5]] = some fr1 := by kernel_rfl
def fr2 : PV := (.tup [(.agg [(.bool false), (.slice false 1 [[(.ptr false [(.slice false 1 [[(iP 0)], [(iP 1)]]), (iP 2), (.slice false 4 [[(pP 0 0 4 (-3)), (pP 0 0 4 (-3)), (pP 0 0 4 (-3)), (pP 0 0 4 (-3))], [(pP 0 0 4 (-3)), (pP 0 0 5 0), (pP 0 0 4 (-3)), (pP 0 0 5 0)]]), (pP 0 0 4 (-3))] 0)]])]), (iP 0)])
theorem find_run2 : callP G 58 77 [exPr [exF 4 1 25 25, exF 7 3 0 0, exN]] = some fr2 := by kernel_rfl
def fr3 : PV := (.tup [(.agg [(.bool true), .nils]), (iP 0)])
theorem find_run3 : callP G 58 69 [exQ] = some fr3 := by kernel_rfl
def fr4 : PV := (.tup [(.agg [(.bool false), (.slice false 1 [[(.ptr false [(.slice false 1 [[(iP 0)], [(iP 1)]]), (iP 5), (.slice false 4 [[(pP 0 0 2 (-2)), (pP 0 0 2 (-2)), (pP 0 0 2 (-2)), (pP 0 0 2 (-2))], [(pP 0 0 2 (-2)), (pP 0 0 2 (-2)), (pP 0 0 2 (-2)), (pP 0 0 2 2)]]), (pP 0 0 2 (-2))] 0)]])]), (iP 0)])
theorem find_run4 : callP G 58 77 [exPr [exF 7 3 0 0, exF 9 5 2 2]] = some fr4 := by kernel_rfl
def fr5 : PV := (.tup [(.agg [(.bool true), .nils]), (iP 0)])
theorem find_run5 : callP G 58 77 [exPr [exF 4 1 25 25, exF 9 5 2 2]] = some fr5 := by kernel_rfl
def fr6 : PV := (.tup [(.agg [(.bool false), (.slice false 1 [[(.ptr false [(.slice false 1 [[(iP 0)], [(iP 1)]]), (iP 12), (.slice false 4 [[(pP 0 0 (-5) 0), (pP 0 0 (-5) 0), (pP 0 0 (-5) 0), (pP 0 0 (-5) 0)], [(pP 0 0 (-5) 0), (pP 0 0 5 0), (pP 0 0 0 (-5)), (pP 0 0 0 5)]]), (pP 0 0 (-5) 0)] 0)]])]), (iP 0)])
theorem find_run6 : callP G 58 77 [exPr [exF 4 1 25 25]] = some fr6 := by kernel_rfl
def tabD : Tab := [(77, [exP], fr0), (77, [exPr [exF 4 1 25 25, exF 7 3 0 0, exF 0 6 1 5]], fr1), (77, [exPr [exF 4 1 25 25, exF 7 3 0 0, exN]], fr2)]
theorem tabD_ok : ∀ e ∈ tabD, callP G 58 e.1 e.2.1 = some e.2.2 := all_cons find_run0 <| all_cons find_run1 <| all_cons find_run2 all_nil
theorem dec_run1 : callP G 59 46 [exP, .agg (exF 0 6 1 5)] = some (.tup [.int .i64 3, .int .i64 0]) := callP_tab (n := 58) (fs := [77]) rfl rfl tabD_ok (by kernel_rfl)
def tabC : Tab := [(69, [exQ], fr3), (77, [exPr [exF 7 3 0 0, exF 9 5 2 2]], fr4), (77, [exPr [exF 4 1 25 25, exF 9 5 2 2]], fr5), (77, [exPr [exF 4 1 25 25]], fr6)]
theorem tabC_ok : ∀ e ∈ tabC, callP G 58 e.1 e.2.1 = some e.2.2 := all_cons find_run3 <| all_cons find_run4 <| all_cons find_run5 <| all_cons find_run6 all_nil
theorem core_run : callP G 59 35 [exQ] = some (.tup [.slice false 1 [[.int .i64 4], [.int .i64 9]], .int .i64 0]) := callP_tab (n := 58) (fs := [77, 69]) rfl rfl tabC_ok (by kernel_rfl)
def tabH : Tab := [(44, [], exP), (22, [exP], .tup [.slice false 4 [exB 0 0 0 0, exB 3 5 (-4) 4], .int .i64 0]), (32, [exP], .tup [.int .i64 3, .int .i64 0]), (45, [exP], .tup [.slice false 4 [exB 0 0 0 0, exB 4 5 (-3) 3], .int .i64 0]),
  (46, [exP, .agg (exF 0 6 1 5)], .tup [.int .i64 3, .int .i64 0]), (46, [exP, .agg (exF 0 1 20 30)], .tup [.int .i64 2, .int .i64 0]), (47, [exP, .agg (exF 9 5 2 2)], exQ), (35, [exQ], .tup [.slice false 1 [[.int .i64 4], [.int .i64 9]], .int .i64 0])]
theorem tabH_ok : ∀ e ∈ tabH, callP G 59 e.1 e.2.1 = some e.2.2 := all_cons ex_run <| all_cons narrow_run <| all_cons count_run <| all_cons hull_run <| all_cons dec_run1 <| all_cons dec_run2 <| all_cons with_run <| all_cons core_run all_nil
theorem head_run : callP G 60 9 [] = some (.bool true) := callP_tab (n := 59) (fs := [44, 22, 32, 45, 46, 47, 35]) rfl rfl tabH_ok (by kernel_rfl)
end Go.Proofs.YtmghcpdpilgplaaGreat.Vm

namespace Go.Proofs.YtmghcpdpilgplaaGreat.Vm
open Go
set_option linter.unusedSimpArgs false
set_option linter.unusedVariables false
set_option maxHeartbeats 4000000
set_option maxRecDepth 4000
theorem sh27 : G.shared 27 = false := by decide
theorem e27 (n : Nat) (a b : Sl Box) (h : a.xs = b.xs) (hl : a.xs.length ≤ 100) : callP G (n + 1) 27 [a.pv Box.cells 4, b.pv Box.cells 4] = some (.bool true) := by
  refine callP_of (ext_none _) rfl g27 rfl ?_
  have hlb : b.xs.length = a.xs.length := by rw [h]
  have hg : Hide (∀ i (h1 : i < a.xs.length) (h2 : i < b.xs.length), b.xs[i] = a.xs[i]) := ⟨fun i h1 h2 => by simp only [h]⟩
  clear h
  (repeat' first | simp [*, initEnv, c27] | (refine wpIf_two (fun _ h => ?_) (fun _ h => ?_) <;> try simp [-Nat.le_zero_eq] at h))
  refine wp_loopF [(4, 5), (11, 25)] (fun (i : Nat) env H => env 5 = .pure (.int .i64 i) ∧ i ≤ a.xs.length) (fun i => a.xs.length - i) 0 ?_ ?_ ?_ ?_
  · decide
  · exact ⟨by simp, by omega⟩
  · simp only [loopFuel]; omega
  rintro i env H ⟨g5, hi⟩
  by_cases hlt : i < a.xs.length
  · have w1 : IntKind.i64.wrap ((i : Int) + 1) = (i + 1 : Nat) := by rw [wrap64 (by omega) (by omega)]; omega
    have hltI : (i : Int) < a.xs.length := by omega
    have hlt2 : i < b.xs.length := by omega
    have ge := hg.h i hlt hlt2
    (repeat' first | simp [*, initEnv, Box.cells, Span.cells, st_aggEq, cellsEq, isAggV] | (refine wpIf_two (fun _ h => ?_) (fun _ h => ?_) <;> try simp [-Nat.le_zero_eq] at h))
    exact ⟨i + 1, by omega, by omega, by omega⟩
  · have hiN : i = a.xs.length := by omega
    subst hiN
    (repeat' first | simp [*, initEnv] | (refine wpIf_two (fun _ h => ?_) (fun _ h => ?_) <;> try simp [-Nat.le_zero_eq] at h))
theorem sh30 : G.shared 30 = false := by decide
theorem e30 (n : Nat) (a : List Nat) (hl : a.length ≤ 100) : callP G (n + 1) 30 [(Sl.mk false (intsN a)).pv intF 1, (Sl.mk false (intsN a)).pv intF 1] = some (.bool true) := by
  refine callP_of (ext_none _) rfl g30 rfl ?_
  have e1 : (intsN a).length = a.length := intsN_length a
  (repeat' first | simp [*, initEnv, c30] | (refine wpIf_two (fun _ h => ?_) (fun _ h => ?_) <;> try simp [-Nat.le_zero_eq] at h))
  refine wp_loopF [(4, 5), (11, 25)] (fun (i : Nat) env H => env 5 = .pure (.int .i64 i) ∧ i ≤ a.length) (fun i => a.length - i) 0 ?_ ?_ ?_ ?_
  · decide
  · exact ⟨by simp, by omega⟩
  · simp only [loopFuel]; omega
  rintro i env H ⟨g5, hi⟩
  by_cases hlt : i < a.length
  · have w1 : IntKind.i64.wrap ((i : Int) + 1) = (i + 1 : Nat) := by rw [wrap64 (by omega) (by omega)]; omega
    have hltI : (i : Int) < a.length := by omega
    have hlt2 : i < (intsN a).length := by omega
    (repeat' first | simp [*, initEnv] | (refine wpIf_two (fun _ h => ?_) (fun _ h => ?_) <;> try simp [-Nat.le_zero_eq] at h))
    exact ⟨i + 1, by omega, by omega, by omega⟩
  · have hiN : i = a.length := by omega
    subst hiN
    (repeat' first | simp [*, initEnv] | (refine wpIf_two (fun _ h => ?_) (fun _ h => ?_) <;> try simp [-Nat.le_zero_eq] at h))
def wideB (b : Box) : Bool := validB b && (decide (60 < b.x.hi - b.x.lo) || decide (60 < b.y.hi - b.y.lo))
def fewB (p : Problem) : Bool := decide (p.boxes.xs.length ≤ 5) && decide (p.facts.xs.length ≤ 16) && p.boxes.xs.all fun b => !wideB b
def noWide (l : List Box) (i : Nat) : Prop := ∀ j (h : j < l.length), j < i → wideB l[j] = false
theorem sh21 : G.shared 21 = false := by decide
theorem e21 (n : Nat) (p : Problem) : callP G (n + 3) 21 [.agg p.cells] = some (.bool (fewB p)) := by
  refine callP_of (ext_none _) rfl g21 rfl ?_
  obtain ⟨bs, fs⟩ := p
  have hvd : Hide (∀ b : Box, ∀ H, doCall (calleeOf G (n + 2)) H (.pure (.func 61 [])) [.pure (.agg b.cells)] = some (.val (.pure (.bool (validB b))))) := ⟨fun b H => call_pureC (caps := []) (ps := [_]) sh61 (e61 n b)⟩
  by_cases h1 : 5 < bs.xs.length
  · have h1I : (5 : Int) < bs.xs.length := by omega
    have hR : fewB ⟨bs, fs⟩ = false := by
      have : decide (bs.xs.length ≤ 5) = false := by simp; omega
      simp [fewB, this]
    rw [hR]
    (repeat' first | simp [*, initEnv, c21, Problem.cells] | (refine wpIf_two (fun _ h => ?_) (fun _ h => ?_) <;> try simp [-Nat.le_zero_eq] at h))
  have h1I : ¬ (5 : Int) < bs.xs.length := by omega
  by_cases h2 : 16 < fs.xs.length
  · have h2I : (16 : Int) < fs.xs.length := by omega
    have hR : fewB ⟨bs, fs⟩ = false := by
      have : decide (fs.xs.length ≤ 16) = false := by simp; omega
      simp [fewB, this]
    rw [hR]
    (repeat' first | simp [*, initEnv, c21, Problem.cells] | (refine wpIf_two (fun _ h => ?_) (fun _ h => ?_) <;> try simp [-Nat.le_zero_eq] at h))
  have h2I : ¬ (16 : Int) < fs.xs.length := by omega
  have hRe : Hide (fewB ⟨bs, fs⟩ = bs.xs.all fun b => !wideB b) := ⟨by
    have a1 : decide (bs.xs.length ≤ 5) = true := by simp; omega
    have a2 : decide (fs.xs.length ≤ 16) = true := by simp; omega
    simp [fewB, a1, a2]⟩
  generalize hR : fewB ⟨bs, fs⟩ = R
  rw [hR] at hRe
  clear hR
  (repeat' first | simp [*, initEnv, c21, Problem.cells] | (refine wpIf_two (fun _ h => ?_) (fun _ h => ?_) <;> try simp [-Nat.le_zero_eq] at h))
  refine wp_loopF [(2, 5), (16, 50)] (fun (i : Nat) env H => env 3 = .pure (.int .i64 i) ∧ i ≤ bs.xs.length ∧ Hide (noWide bs.xs i)) (fun i => bs.xs.length - i) 0 ?_ ?_ ?_ ?_
  · decide
  · exact ⟨by simp, by omega, ⟨fun _ _ h => by omega⟩⟩
  · simp only [loopFuel]; omega
  rintro i env H ⟨g3, hi, hn⟩
  by_cases hlt : i < bs.xs.length
  · have w1 : IntKind.i64.wrap ((i : Int) + 1) = (i + 1 : Nat) := by rw [wrap64 (by omega) (by omega)]; omega
    have hltI : (i : Int) < bs.xs.length := by omega
    have c1 := hvd.h bs.xs[i]
    simp only [Box.cells, Span.cells] at c1
    by_cases hw : wideB bs.xs[i] = true
    · have hRf : R = false := by
        rw [hRe.h, List.all_eq_false]
        exact ⟨_, List.getElem_mem hlt, by simp [hw]⟩
      subst hRf
      unfold wideB at hw
      rw [Bool.and_eq_true, Bool.or_eq_true, decide_eq_true_eq, decide_eq_true_eq] at hw
      obtain ⟨hv, hw⟩ := hw
      have hvv := valid_iff.1 hv
      have x1 : IntKind.i64.wrap (bs.xs[i].x.hi - bs.xs[i].x.lo) = bs.xs[i].x.hi - bs.xs[i].x.lo := wrap64 (by omega) (by omega)
      have x2 : IntKind.i64.wrap (bs.xs[i].y.hi - bs.xs[i].y.lo) = bs.xs[i].y.hi - bs.xs[i].y.lo := wrap64 (by omega) (by omega)
      rw [hv] at c1
      clear hRe hn hvv hv hvd
      by_cases hx : 60 < bs.xs[i].x.hi - bs.xs[i].x.lo
      · clear hw
        (repeat' first | simp [*, initEnv, Box.cells, Span.cells] | (refine wpIf_two (fun _ h => ?_) (fun _ h => ?_) <;> try simp [-Nat.le_zero_eq] at h))
      · have hy : 60 < bs.xs[i].y.hi - bs.xs[i].y.lo := by omega
        clear hw
        (repeat' first | simp [*, initEnv, Box.cells, Span.cells] | (refine wpIf_two (fun _ h => ?_) (fun _ h => ?_) <;> try simp [-Nat.le_zero_eq] at h))
    · have hw' : wideB bs.xs[i] = false := by simpa using hw
      have hn' : Hide (noWide bs.xs (i + 1)) := ⟨fun j h hj => by
        by_cases e : j = i
        · subst e; exact hw'
        · exact hn.h j h (by omega)⟩
      clear hw hn
      unfold wideB at hw'
      cases hv : validB bs.xs[i] with
      | false =>
        rw [hv] at c1
        clear hw' hRe hvd hv
        (repeat' first | simp [*, initEnv, Box.cells, Span.cells] | (refine wpIf_two (fun _ h => ?_) (fun _ h => ?_) <;> try simp [-Nat.le_zero_eq] at h))
        exact ⟨i + 1, by omega, by omega, by omega, hn'⟩
      | true =>
        rw [hv] at hw' c1
        rw [Bool.true_and, Bool.or_eq_false_iff, decide_eq_false_iff_not, decide_eq_false_iff_not] at hw'
        obtain ⟨hx, hy⟩ := hw'
        have hvv := valid_iff.1 hv
        have x1 : IntKind.i64.wrap (bs.xs[i].x.hi - bs.xs[i].x.lo) = bs.xs[i].x.hi - bs.xs[i].x.lo := wrap64 (by omega) (by omega)
        have x2 : IntKind.i64.wrap (bs.xs[i].y.hi - bs.xs[i].y.lo) = bs.xs[i].y.hi - bs.xs[i].y.lo := wrap64 (by omega) (by omega)
        clear hRe hvv hv hvd
        (repeat' first | simp [*, initEnv, Box.cells, Span.cells] | (refine wpIf_two (fun _ h => ?_) (fun _ h => ?_) <;> try simp [-Nat.le_zero_eq] at h))
        exact ⟨i + 1, by omega, by omega, by omega, hn'⟩
  · have hiN : i = bs.xs.length := by omega
    subst hiN
    have hRt : R = true := by
      rw [hRe.h, List.all_eq_true]
      intro b hb
      obtain ⟨j, hj, rfl⟩ := List.mem_iff_getElem.1 hb
      rw [hn.h j hj hj]
      rfl
    subst hRt
    clear hn hRe hvd
    (repeat' first | simp [*, initEnv] | (refine wpIf_two (fun _ h => ?_) (fun _ h => ?_) <;> try simp [-Nat.le_zero_eq] at h))
theorem few_iff {p : Problem} (h : fewB p = true) : p.boxes.xs.length ≤ 5 ∧ p.facts.xs.length ≤ 16 := by
  unfold fewB at h
  simp only [Bool.and_eq_true, decide_eq_true_eq] at h
  exact h.1
theorem sh_headN : G.shared 9 = false := by decide
theorem d_headN (H : Heap) : doCall (calleeOf G 60) H (.pure (.func 9 [])) [] = some (.val (.pure (.bool true))) := call_pure (ps := []) sh_headN head_run
theorem cls_more {n : Nat} : ∀ (E E0 : List (Nat × Nat)) (m0 : Nat → Nat), IsCls E0 n m0 → (∀ e ∈ E, e.1 < n ∧ e.2 < n) → ∃ m, IsCls (E0 ++ E) n m
  | [], E0, m0, h, _ => ⟨m0, by rw [List.append_nil]; exact h⟩
  | e :: E, E0, m0, h, hE => by
    have h1 := hE e List.mem_cons_self
    obtain ⟨m, hm⟩ := cls_more E (E0 ++ [e]) _ (h.join h1.1 h1.2) fun x hx => hE x (List.mem_cons_of_mem _ hx)
    exact ⟨m, by rw [List.append_assoc] at hm; exact hm⟩
theorem cls_ex {fs : List Fact} {n : Nat} (h : ∀ f ∈ fs, formedB f n = true) : ∃ m, IsCls (edgesL fs) n m := cls_more (edgesL fs) [] _ (IsCls.nil n) (edges_lt h)
theorem narrows_calls (p : Problem) (h0 : checkS p = 0) (r : Option (List Box)) (hr : IsNar failsP p.facts.xs p.boxes.xs r) (m : Nat → Nat) (hm : IsCls (edgesL p.facts.xs) p.boxes.xs.length m) : ∃ (v1 v2 : PV) (e1 x e2 : Int),
    callP G 60 22 [.agg p.cells] = some (.tup [v1, .int .i64 e1]) ∧ callP G 60 23 [.agg p.cells] = some (.tup [v2, .int .i64 e1]) ∧
    callP G 60 24 [.agg p.cells] = some (.tup [.int .i64 x, .int .i64 e2]) ∧ callP G 60 25 [.agg p.cells] = some (.tup [.int .i64 x, .int .i64 e2]) ∧ callP G 60 27 [v1, v2] = some (.bool true) := by
  have ok := check_ok.1 h0
  cases r with
  | none => exact ⟨.nils, .nils, 9, 0, 9, e22 52 p _ _ (.inr ⟨h0, none, hr, rfl, rfl⟩), e23 50 p _ _ (.inr ⟨h0, none, hr, rfl, rfl⟩), e24 52 p _ _ (.inr (.inl ⟨h0, hr, rfl, rfl⟩)), e25 50 p _ _ (.inr (.inl ⟨h0, hr, rfl, rfl⟩)), e27 59 .nil .nil rfl (by decide)⟩
  | some l =>
    have hl : l.length = p.boxes.xs.length := hr.1.sub.1
    have nb := ok.nb
    obtain ⟨q, hq, hqx⟩ := nar_sl hl
    exact ⟨q.pv Box.cells 4, (Sl.mk false l).pv Box.cells 4, 0, _, 0, e22 52 p _ _ (.inr ⟨h0, some l, hr, hq.symm, rfl⟩), e23 50 p _ _ (.inr ⟨h0, some l, hr, rfl, rfl⟩), e24 52 p _ _ (.inr (.inr ⟨h0, l, m, hr, hm, rfl, rfl⟩)), e25 50 p _ _ (.inr (.inr ⟨h0, l, m, hr, hm, rfl, rfl⟩)), e27 59 q (Sl.mk false l) hqx (by rw [hqx]; omega)⟩
theorem narrows_law (p : Problem) : callP G 61 5 [.agg p.cells] = some (.bool true) := by
  refine callP_of (n := 60) (ext_none _) rfl g5 rfl ?_
  have hh := d_headN
  have hs := fun H => call_pureC (G := G) (n := 60) (H := H) (caps := []) (ps := [.agg p.cells]) sh21 (e21 57 p)
  simp only [Problem.cells, List.map_cons, List.map_nil] at hs
  cases hsp : fewB p with
  | false =>
    rw [hsp] at hs
    clear hsp
    (repeat' first | simp [*, initEnv, c5, Problem.cells] | (refine wpIf_two (fun _ h => ?_) (fun _ h => ?_) <;> try simp [-Nat.le_zero_eq] at h))
  | true =>
    rw [hsp] at hs
    have hfew := few_iff hsp
    have hck := fun H => call_pureC (G := G) (n := 60) (H := H) (caps := []) (ps := [.agg p.cells]) sh28 (e28 57 p)
    clear hsp
    by_cases h0 : checkS p = 0
    · have ok := check_ok.1 h0
      obtain ⟨r, hr⟩ := nar_ex (nar_anti ok) (nar_wf ok)
      obtain ⟨m, hm⟩ := cls_ex ok.fact
      obtain ⟨v1, v2, er, x, e2, b1, b2, b3, b4, b5⟩ := narrows_calls p h0 r hr m hm
      have a1 := fun H => call_pureC (G := G) (n := 60) (H := H) (caps := []) (ps := [.agg p.cells]) sh22 b1
      have a2 := fun H => call_pureC (G := G) (n := 60) (H := H) (caps := []) (ps := [.agg p.cells]) sh23 b2
      have a3 := fun H => call_pureC (G := G) (n := 60) (H := H) (caps := []) (ps := [.agg p.cells]) sh24 b3
      have a4 := fun H => call_pureC (G := G) (n := 60) (H := H) (caps := []) (ps := [.agg p.cells]) sh25 b4
      have a6 := fun H => call_pureC (G := G) (n := 60) (H := H) (caps := []) (ps := [v1, v2]) sh27 b5
      have a5 := fun H => call_pureC (G := G) (n := 60) (H := H) (caps := []) (ps := [.agg p.cells]) sh26 (e26 56 p _ _ (.inr ⟨h0, m, hm, rfl, rfl⟩))
      have a7 := fun H => call_pureC (G := G) (n := 60) (H := H) (caps := []) (ps := [.agg p.cells]) sh29 (e29 58 p ok m hm)
      have hpo := parts_ok m p.boxes.xs.length
      have nb := ok.nb
      have hin : Hide (∀ l : List Nat, l ∈ partsL' m p.boxes.xs.length → ∀ H, doCall (calleeOf G 60) H (.pure (.func 30 [])) [.pure ((Sl.mk false (intsN l)).pv intF 1), .pure ((Sl.mk false (intsN l)).pv intF 1)] = some (.val (.pure (.bool true)))) := ⟨fun l hl H => call_pureC (caps := []) (ps := [_, _]) sh30 (e30 59 l (by have := (hpo.2 l hl).1; omega))⟩
      rw [partsPV_sl] at a5 a7
      obtain ⟨s, hs⟩ : ∃ s : Sl (List Nat), Sl.of (partsL' m p.boxes.xs.length) = s := ⟨_, rfl⟩
      have hsx : partsL' m p.boxes.xs.length = s.xs := by rw [← hs, Sl.xs_of]
      rw [hs] at a5 a7
      have ns : s.xs.length ≤ 12 := by rw [← hsx]; omega
      rw [hsx] at hin
      rw [h0] at hck
      simp only [Problem.cells, List.map_cons, List.map_nil] at a1 a2 a3 a4 a5 a6 a7 hck
      clear hfew h0 hr hm ok b1 b2 b3 b4 b5 hpo nb hs hsx
      (repeat' first | simp [*, initEnv, c5, Problem.cells] | (refine wpIf_two (fun _ h => ?_) (fun _ h => ?_) <;> try simp [-Nat.le_zero_eq] at h))
      clear a1 a2 a3 a4 a5 a6 a7 hck hs
      refine wp_loopF [(2, 2), (16, 17), (89, 106)] (fun (i : Nat) env H => env 16 = .pure (.int .i64 i) ∧ i ≤ s.xs.length) (fun i => s.xs.length - i) 0 ?_ ?_ ?_ ?_
      · decide
      · exact ⟨by simp, by omega⟩
      · simp only [loopFuel]; omega
      rintro i env H ⟨g5, hi⟩
      by_cases hlt : i < s.xs.length
      · have w1 : IntKind.i64.wrap ((i : Int) + 1) = (i + 1 : Nat) := by rw [wrap64 (by omega) (by omega)]; omega
        have hltI : (i : Int) < s.xs.length := by omega
        obtain ⟨q, hq⟩ : ∃ q, s.xs[i] = q := ⟨_, rfl⟩
        have hv := hin.h q (by rw [← hq]; exact List.getElem_mem hlt)
        (repeat' first | simp [*, initEnv, partF] | (refine wpIf_two (fun _ h => ?_) (fun _ h => ?_) <;> try simp [-Nat.le_zero_eq] at h))
        exact ⟨i + 1, by omega, by omega, by omega⟩
      · have hiN : i = s.xs.length := by omega
        subst hiN
        clear hin
        (repeat' first | simp [*, initEnv] | (refine wpIf_two (fun _ h => ?_) (fun _ h => ?_) <;> try simp [-Nat.le_zero_eq] at h))
    · have a1 := fun H => call_pureC (G := G) (n := 60) (H := H) (caps := []) (ps := [.agg p.cells]) sh22 (e22 52 p _ _ (.inl ⟨h0, rfl, rfl⟩))
      have a2 := fun H => call_pureC (G := G) (n := 60) (H := H) (caps := []) (ps := [.agg p.cells]) sh23 (e23 50 p _ _ (.inl ⟨h0, rfl, rfl⟩))
      have a3 := fun H => call_pureC (G := G) (n := 60) (H := H) (caps := []) (ps := [.agg p.cells]) sh24 (e24 52 p _ _ (.inl ⟨h0, rfl, rfl⟩))
      have a4 := fun H => call_pureC (G := G) (n := 60) (H := H) (caps := []) (ps := [.agg p.cells]) sh25 (e25 50 p _ _ (.inl ⟨h0, rfl, rfl⟩))
      have a5 := fun H => call_pureC (G := G) (n := 60) (H := H) (caps := []) (ps := [.agg p.cells]) sh26 (e26 56 p _ _ (.inl ⟨h0, rfl, rfl⟩))
      have a6 := fun H => call_pureC (G := G) (n := 60) (H := H) (caps := []) (ps := [.nils, .nils]) sh27 (e27 59 .nil .nil rfl (by decide))
      simp only [Problem.cells, List.map_cons, List.map_nil] at a1 a2 a3 a4 a5 a6 hck
      generalize checkS p = c at *
      clear hfew
      (repeat' first | simp [*, initEnv, c5, Problem.cells] | (refine wpIf_two (fun _ h => ?_) (fun _ h => ?_) <;> try simp [-Nat.le_zero_eq] at h))
end Go.Proofs.YtmghcpdpilgplaaGreat.Vm
