/- The chapter's examples: head() returns true, by the machine's own runs in the kernel. The law SearchNarrowing, on the machine. -/
import Derived.Test.YtmghcpdpilgplaaPk14
import Derived.Test.YtmghcpdpilgplaaPk27
import Derived.Test.YtmghcpdpilgplaaPk9
import Derived.KernelRfl
import Derived.Test.YtmghcpdpilgplaaPk25
import Derived.Test.YtmghcpdpilgplaaPk26
namespace Go.Proofs.Ytmghcpdpilgplaa.Vm
open Go
set_option linter.unusedSimpArgs false
set_option linter.unusedVariables false
set_option maxHeartbeats 4000000
def iP (n : Int) : PV := .int .i64 n
def pP (a b c d : Int) : PV := .slice false 2 [[iP a, iP b], [iP c, iP d]]
def exB (a b c d : Int) : List PV := [.int .i64 a, .int .i64 b, .int .i64 c, .int .i64 d]
def exF (id kind lo hi : Int) : List PV := [.int .i64 id, .int .i64 kind, .bool false, .int .i64 0, .int .i64 1, .int .i64 0, .int .i64 lo, .int .i64 hi, .int .i64 0]
def exN : List PV := [.int .i64 0, .int .i64 6, .bool true, .int .i64 0, .int .i64 1, .int .i64 0, .int .i64 1, .int .i64 5, .int .i64 0]
def exPr (fs : List (List PV)) : PV := .agg [.slice false 4 [exB 0 0 0 0, exB (-5) 5 (-5) 5], .slice false 9 fs]
def exP : PV := exPr [exF 4 1 25 25, exF 7 3 0 0]
def exQ : PV := exPr [exF 4 1 25 25, exF 7 3 0 0, exF 9 5 2 2]
theorem ex_run : callP G 59 32 [] = some exP := by kernel_rfl
theorem narrow_run : callP G 59 20 [exP] = some (.tup [.slice false 4 [exB 0 0 0 0, exB 3 5 (-4) 4], .int .i64 0]) := by kernel_rfl
theorem count_run : callP G 59 21 [exP] = some (.tup [.int .i64 3, .int .i64 0]) := by kernel_rfl
theorem hull_run : callP G 59 25 [exP] = some (.tup [.slice false 4 [exB 0 0 0 0, exB 4 5 (-3) 3], .int .i64 0]) := by kernel_rfl
theorem dec_run2 : callP G 59 26 [exP, .agg (exF 0 1 20 30)] = some (.tup [.int .i64 2, .int .i64 0]) := by kernel_rfl
theorem with_run : callP G 59 23 [exP, .agg (exF 9 5 2 2)] = some exQ := by kernel_rfl
def fr0 : PV := (.tup [(.agg [(.bool false), (.slice false 1 [[(.ptr false [(.slice false 1 [[(iP 0)], [(iP 1)]]), (iP 3), (.slice false 4 [[(pP 0 0 4 (-3)), (pP 0 0 4 (-3)), (pP 0 0 4 (-3)), (pP 0 0 4 (-3))], [(pP 0 0 4 (-3)), (pP 0 0 5 0), (pP 0 0 4 (-3)), (pP 0 0 4 3)]]), (pP 0 0 4 (-3))] 0)]])]), (iP 0)])
theorem find_run0 : callP G 58 48 [exP] = some fr0 := by kernel_rfl
def fr1 : PV := (.tup [(.agg [(.bool false), (.slice false 1 [[(.ptr false [(.slice false 1 [[(iP 0)], [(iP 1)]]), (iP 1), (.slice false 4 [[(pP 0 0 4 3), (pP 0 0 4 3), (pP 0 0 4 3), (pP 0 0 4 3)], [(pP 0 0 4 3), (pP 0 0 4 3), (pP 0 0 4 3), (pP 0 0 4 3)]]), (pP 0 0 4 3)] 0)]])]), (iP 0)])
theorem find_run1 : callP G 58 48 [exPr [exF 4 1 25 25, exF 7 3 0 0, exF 0 6 1 5]] = some fr1 := by kernel_rfl
def fr2 : PV := (.tup [(.agg [(.bool false), (.slice false 1 [[(.ptr false [(.slice false 1 [[(iP 0)], [(iP 1)]]), (iP 2), (.slice false 4 [[(pP 0 0 4 (-3)), (pP 0 0 4 (-3)), (pP 0 0 4 (-3)), (pP 0 0 4 (-3))], [(pP 0 0 4 (-3)), (pP 0 0 5 0), (pP 0 0 4 (-3)), (pP 0 0 5 0)]]), (pP 0 0 4 (-3))] 0)]])]), (iP 0)])
theorem find_run2 : callP G 58 48 [exPr [exF 4 1 25 25, exF 7 3 0 0, exN]] = some fr2 := by kernel_rfl
def fr3 : PV := (.tup [(.agg [(.bool true), .nils]), (iP 0)])
theorem find_run3 : callP G 58 45 [exQ] = some fr3 := by kernel_rfl
def fr4 : PV := (.tup [(.agg [(.bool false), (.slice false 1 [[(.ptr false [(.slice false 1 [[(iP 0)], [(iP 1)]]), (iP 5), (.slice false 4 [[(pP 0 0 2 (-2)), (pP 0 0 2 (-2)), (pP 0 0 2 (-2)), (pP 0 0 2 (-2))], [(pP 0 0 2 (-2)), (pP 0 0 2 (-2)), (pP 0 0 2 (-2)), (pP 0 0 2 2)]]), (pP 0 0 2 (-2))] 0)]])]), (iP 0)])
theorem find_run4 : callP G 58 48 [exPr [exF 7 3 0 0, exF 9 5 2 2]] = some fr4 := by kernel_rfl
def fr5 : PV := (.tup [(.agg [(.bool true), .nils]), (iP 0)])
theorem find_run5 : callP G 58 48 [exPr [exF 4 1 25 25, exF 9 5 2 2]] = some fr5 := by kernel_rfl
def fr6 : PV := (.tup [(.agg [(.bool false), (.slice false 1 [[(.ptr false [(.slice false 1 [[(iP 0)], [(iP 1)]]), (iP 12), (.slice false 4 [[(pP 0 0 (-5) 0), (pP 0 0 (-5) 0), (pP 0 0 (-5) 0), (pP 0 0 (-5) 0)], [(pP 0 0 (-5) 0), (pP 0 0 5 0), (pP 0 0 0 (-5)), (pP 0 0 0 5)]]), (pP 0 0 (-5) 0)] 0)]])]), (iP 0)])
theorem find_run6 : callP G 58 48 [exPr [exF 4 1 25 25]] = some fr6 := by kernel_rfl
def tabD : Tab := [(48, [exP], fr0), (48, [exPr [exF 4 1 25 25, exF 7 3 0 0, exF 0 6 1 5]], fr1), (48, [exPr [exF 4 1 25 25, exF 7 3 0 0, exN]], fr2)]
theorem tabD_ok : ∀ e ∈ tabD, callP G 58 e.1 e.2.1 = some e.2.2 := all_cons find_run0 <| all_cons find_run1 <| all_cons find_run2 all_nil
theorem dec_run1 : callP G 59 26 [exP, .agg (exF 0 6 1 5)] = some (.tup [.int .i64 3, .int .i64 0]) := callP_tab (n := 58) (fs := [48]) rfl rfl tabD_ok (by kernel_rfl)
def tabC : Tab := [(45, [exQ], fr3), (48, [exPr [exF 7 3 0 0, exF 9 5 2 2]], fr4), (48, [exPr [exF 4 1 25 25, exF 9 5 2 2]], fr5), (48, [exPr [exF 4 1 25 25]], fr6)]
theorem tabC_ok : ∀ e ∈ tabC, callP G 58 e.1 e.2.1 = some e.2.2 := all_cons find_run3 <| all_cons find_run4 <| all_cons find_run5 <| all_cons find_run6 all_nil
theorem core_run : callP G 59 33 [exQ] = some (.tup [.slice false 1 [[.int .i64 4], [.int .i64 9]], .int .i64 0]) := callP_tab (n := 58) (fs := [48, 45]) rfl rfl tabC_ok (by kernel_rfl)
def tabH : Tab := [(32, [], exP), (20, [exP], .tup [.slice false 4 [exB 0 0 0 0, exB 3 5 (-4) 4], .int .i64 0]), (21, [exP], .tup [.int .i64 3, .int .i64 0]), (25, [exP], .tup [.slice false 4 [exB 0 0 0 0, exB 4 5 (-3) 3], .int .i64 0]),
  (26, [exP, .agg (exF 0 6 1 5)], .tup [.int .i64 3, .int .i64 0]), (26, [exP, .agg (exF 0 1 20 30)], .tup [.int .i64 2, .int .i64 0]), (23, [exP, .agg (exF 9 5 2 2)], exQ), (33, [exQ], .tup [.slice false 1 [[.int .i64 4], [.int .i64 9]], .int .i64 0])]
theorem tabH_ok : ∀ e ∈ tabH, callP G 59 e.1 e.2.1 = some e.2.2 := all_cons ex_run <| all_cons narrow_run <| all_cons count_run <| all_cons hull_run <| all_cons dec_run1 <| all_cons dec_run2 <| all_cons with_run <| all_cons core_run all_nil
theorem head_run : callP G 60 9 [] = some (.bool true) := callP_tab (n := 59) (fs := [32, 20, 21, 25, 26, 23, 33]) rfl rfl tabH_ok (by kernel_rfl)
end Go.Proofs.Ytmghcpdpilgplaa.Vm

namespace Go.Proofs.Ytmghcpdpilgplaa.Vm
open Go
set_option linter.unusedSimpArgs false
set_option linter.unusedVariables false
set_option maxHeartbeats 4000000
set_option maxRecDepth 4000
theorem sh_headW : G.shared 9 = false := by decide
theorem d_headW (H : Heap) : doCall (calleeOf G 60) H (.pure (.func 9 [])) [] = some (.val (.pure (.bool true))) := call_pure (ps := []) sh_headW head_run
theorem narrowed_ok {p : Problem} (ok : CheckOk p) {l : List Box} (hr : IsNar failsP p.facts.xs p.boxes.xs (some l)) {q : Sl Box} (hq : q.xs = l) : CheckOk ⟨q, p.facts⟩ ∧ IsNar failsP p.facts.xs q.xs (some l) := by
  have hl := hr.1.sub
  have e : q.xs.length = p.boxes.xs.length := by rw [hq]; exact hl.1
  refine ⟨⟨by show q.xs.length ≤ 12; rw [e]; exact ok.nb, ok.nf, fun b hb => ?_, fun f hf => ?_⟩, ?_⟩
  · have hb' : b ∈ l := by rw [← hq]; exact hb
    obtain ⟨i, hi, rfl⟩ := List.mem_iff_getElem.1 hb'
    have hi' : i < p.boxes.xs.length := by rw [← hl.1]; exact hi
    have h1 := ok.box _ (List.getElem_mem hi')
    have h2 := hl.2 i hi hi'
    have h3 := hr.1.wf _ (List.getElem_mem hi)
    unfold boxB at h1 ⊢
    simp only [Bool.and_eq_true, decide_eq_true_eq] at h1 ⊢
    have h4 := valid_sub ok hl hr.1.wf _ (List.getElem_mem hi)
    unfold subB subS at h2
    unfold wfB at h3
    refine ⟨⟨h4, ?_⟩, ?_⟩ <;> omega
  · show formedB f q.xs.length = true
    rw [e]; exact ok.fact f hf
  · rw [hq]
    exact ⟨Holds'.init hr.1.wf, hr.2⟩
theorem narrowed_find {p : Problem} (ok : CheckOk p) {l : List Box} (hr : IsNar failsP p.facts.xs p.boxes.xs (some l)) {q : Sl Box} (hq : q.xs = l) {D : FoundD} {e : Int} (h : FindOut p D e) : FindOut ⟨q, p.facts⟩ D e := by
  have hn := (narrowed_ok ok hr hq).2
  have el : q.xs.length = p.boxes.xs.length := by rw [hq]; exact hr.1.sub.1
  rcases h with ⟨hr', _, _⟩ | ⟨l', m, hr', hm, h⟩
  · have := hr.unique hr'; simp at this
  · have e1 := hr.unique hr'
    simp only [Option.some.injEq] at e1
    subst e1
    refine .inr ⟨l, m, hn, ?_, ?_⟩
    · show IsCls (edgesL p.facts.xs) q.xs.length m
      rw [el]; exact hm
    · show (65536 < volL l (partsL' m q.xs.length) ∧ _) ∨ _
      rw [el]; exact h
theorem with_err {p : Problem} (ok : CheckOk p) (f : Fact) (hf : p.facts.xs.length ≤ 16) : checkS (withP p f false) = 0 ∨ checkS (withP p f false) = 1 := by
  unfold checkS
  have h1 : (withP p f false).boxes.xs.length ≤ 12 := ok.nb
  have h2 : (withP p f false).facts.xs.length ≤ 60 := by
    show (p.facts.xs ++ [turnF f false]).length ≤ 60
    simp; omega
  rw [if_neg (by omega)]
  split
  · exact .inl rfl
  · exact .inr rfl
theorem more_sub {p : Problem} {f : Fact} {l l2 : List Box} (hr : IsNar failsP p.facts.xs p.boxes.xs (some l)) (hr2 : IsNar failsP (withP p f false).facts.xs (withP p f false).boxes.xs (some l2)) : SubL l2 l := by
  refine hr.1.all l2 hr2.1.wf hr2.1.sub fun i hi k hk g hg => hr2.2 i hi k hk g ?_
  show g ∈ p.facts.xs ++ [turnF f false]
  exact List.mem_append_left _ hg
theorem narrowing_law (p : Problem) (f : Fact) : callP G 61 5 [.agg p.cells, .agg f.cells] = some (.bool true) := by
  refine callP_of (n := 60) (ext_none _) rfl g5 rfl ?_
  have hh := d_headW
  have hs := fun H => call_pureC (G := G) (n := 60) (H := H) (caps := []) (ps := [.agg p.cells]) sh19 (e19 57 p)
  simp only [Problem.cells, List.map_cons, List.map_nil] at hs
  cases hsp : fewB p with
  | false =>
    rw [hsp] at hs
    clear hsp
    (repeat' first | simp [*, initEnv, c5, Problem.cells] | (refine wpIf_two (fun _ h => ?_) (fun _ h => ?_) <;> try simp [-Nat.le_zero_eq] at h))
  | true =>
  rw [hsp] at hs
  have hfew := few_iff hsp
  clear hsp
  by_cases h15 : 15 < p.facts.xs.length
  · have h15I : (15 : Int) < p.facts.xs.length := by omega
    clear hfew
    (repeat' first | simp [*, initEnv, c5, Problem.cells] | (refine wpIf_two (fun _ h => ?_) (fun _ h => ?_) <;> try simp [-Nat.le_zero_eq] at h))
  have h15I : ¬ (15 : Int) < p.facts.xs.length := by omega
  by_cases h0 : checkS p = 0
  case neg =>
    have a1 := fun H => call_pureC (G := G) (n := 60) (H := H) (caps := []) (ps := [.agg p.cells]) sh20 (e20 52 p _ _ (.inl ⟨h0, rfl, rfl⟩))
    simp only [Problem.cells, List.map_cons, List.map_nil] at a1
    generalize checkS p = c at *
    clear hfew
    (repeat' first | simp [*, initEnv, c5, Problem.cells] | (refine wpIf_two (fun _ h => ?_) (fun _ h => ?_) <;> try simp [-Nat.le_zero_eq] at h))
  have ok := check_ok.1 h0
  obtain ⟨r, hr⟩ := nar_ex (nar_anti ok) (nar_wf ok)
  cases r with
  | none =>
    have a1 := fun H => call_pureC (G := G) (n := 60) (H := H) (caps := []) (ps := [.agg p.cells]) sh20 (e20 52 p _ _ (.inr ⟨h0, none, hr, rfl, rfl⟩))
    have hnone : narPV p none = .nils := rfl
    have h9 : errN none = 9 := rfl
    rw [hnone, h9] at a1
    simp only [Problem.cells, List.map_cons, List.map_nil] at a1
    clear hfew h0 ok hr
    (repeat' first | simp [*, initEnv, c5, Problem.cells] | (refine wpIf_two (fun _ h => ?_) (fun _ h => ?_) <;> try simp [-Nat.le_zero_eq] at h))
  | some l =>
    obtain ⟨q, hq, hqx⟩ := nar_sl hr.1.sub.1
    obtain ⟨ok2, hr2⟩ := narrowed_ok ok hr hqx
    have h02 := check_ok.2 ok2
    obtain ⟨q2, hq2, hq2x⟩ := nar_sl (p := ⟨q, p.facts⟩) hr2.1.sub.1
    obtain ⟨D, e, hf⟩ := find_ex ok
    have hf2 := narrowed_find ok hr hqx hf
    have hl5 : q.xs.length ≤ 5 := by rw [hqx, hr.1.sub.1]; omega
    have s1 := find_seens ok hf
    have a1 := fun H => call_pureC (G := G) (n := 60) (H := H) (caps := []) (ps := [.agg p.cells]) sh20 (e20 52 p _ _ (.inr ⟨h0, some l, hr, rfl, rfl⟩))
    have a2 := fun H => call_pureC (G := G) (n := 60) (H := H) (caps := []) (ps := [.agg (Problem.mk q p.facts).cells]) sh20 (e20 52 ⟨q, p.facts⟩ _ _ (.inr ⟨h02, some l, hr2, rfl, rfl⟩))
    have a3 := fun H => call_pureC (G := G) (n := 60) (H := H) (caps := []) (ps := [.agg p.cells]) sh21 (e21 7 p D e (.inr ⟨h0, hf⟩) s1.1 (fun h s hs => (s1.2 h s hs).1))
    have a4 := fun H => call_pureC (G := G) (n := 60) (H := H) (caps := []) (ps := [.agg (Problem.mk q p.facts).cells]) sh21 (e21 7 ⟨q, p.facts⟩ D e (.inr ⟨h02, hf2⟩) s1.1 (fun h s hs => (s1.2 h s hs).1))
    have a5 := fun H => call_pureC (G := G) (n := 60) (H := H) (caps := []) (ps := [q.pv Box.cells 4, q2.pv Box.cells 4]) sh22 (e22 59 q q2 (by rw [hqx, hq2x]) (by omega))
    have a6 := fun H => call_pureC (G := G) (n := 60) (H := H) (caps := []) (ps := [.agg p.cells, .agg f.cells]) sh23 (e23 59 p f (by omega))
    have hwe := with_err ok f (by omega)
    have h90 : errN (some l) = 0 := rfl
    rw [hq, h90] at a1
    rw [hq2, h90] at a2
    obtain ⟨v, e3, hv, hcase⟩ : ∃ (v : Sl Box) (e3 : Int), NarOut (withP p f false) (narPV (withP p f false)) (v.pv Box.cells 4) e3 ∧ ((e3 ≠ 0 ∧ (e3 = 9 ∨ e3 = 1)) ∨ (e3 = 0 ∧ v.xs.length = q.xs.length ∧ ∀ k (h : k < v.xs.length) (h' : k < q.xs.length), liesB v.xs[k] q.xs[k] = true)) := by
      by_cases hc : checkS (withP p f false) = 0
      · have ok3 := check_ok.1 hc
        obtain ⟨r3, hr3⟩ := nar_ex (nar_anti ok3) (nar_wf ok3)
        cases r3 with
        | none => exact ⟨.nil, 9, .inr ⟨hc, none, hr3, rfl, rfl⟩, .inl ⟨by decide, .inl rfl⟩⟩
        | some l3 =>
          obtain ⟨q3, hq3, hq3x⟩ := nar_sl hr3.1.sub.1
          have hsub := more_sub hr hr3
          refine ⟨q3, 0, .inr ⟨hc, some l3, hr3, hq3.symm, rfl⟩, .inr ⟨rfl, by rw [hq3x, hqx]; exact hsub.1, fun k h h' => ?_⟩⟩
          have := hsub.2 k (by rw [← hq3x]; exact h) (by rw [← hqx]; exact h')
          unfold subB subS at this
          subst hq3x hqx
          exact lies_iff.2 (by omega)
      · exact ⟨.nil, checkS (withP p f false), .inl ⟨hc, rfl, rfl⟩, .inl ⟨hc, .inr (by rcases hwe with h | h; exact absurd h hc; exact h)⟩⟩
    have a7 := fun H => call_pureC (G := G) (n := 60) (H := H) (caps := []) (ps := [.agg (withP p f false).cells]) sh20 (e20 52 (withP p f false) _ _ hv)
    clear hv hwe hf hf2 s1 hr hr2 ok ok2 h0 h02 hqx hq2x hq hq2 h90 hfew h15
    generalize countF D e = w at *
    obtain ⟨n1, e1⟩ := w
    generalize withP p f false = q3 at *
    simp only [Problem.cells, Fact.cells, Span.cells, List.map_cons, List.map_nil] at a1 a2 a3 a4 a5 a6 a7
    rcases hcase with ⟨z1, z2⟩ | ⟨rfl, w2, w3⟩
    · rcases z2 with rfl | rfl
      · (repeat' first | simp [*, initEnv, c5, Problem.cells, Fact.cells, Span.cells] | (refine wpIf_two (fun _ h => ?_) (fun _ h => ?_) <;> try simp [-Nat.le_zero_eq] at h))
      · (repeat' first | simp [*, initEnv, c5, Problem.cells, Fact.cells, Span.cells] | (refine wpIf_two (fun _ h => ?_) (fun _ h => ?_) <;> try simp [-Nat.le_zero_eq] at h))
    · have w2I : (v.xs.length : Int) = q.xs.length := by omega
      have w3H := Hide.mk w3
      have w2H := Hide.mk w2
      clear w3 w2
      (repeat' first | simp [*, initEnv, c5, Problem.cells, Fact.cells, Span.cells] | (refine wpIf_two (fun _ h => ?_) (fun _ h => ?_) <;> try simp [-Nat.le_zero_eq] at h))
      all_goals
        clear a1 a2 a3 a4 a5 a6 a7 hh
        refine wp_loopF [(4, 4), (18, 19), (115, 131)] (fun (i : Nat) env H => env 18 = .pure (.int .i64 i) ∧ i ≤ q.xs.length) (fun i => q.xs.length - i) 0 ?_ ?_ ?_ ?_
        · decide
        · exact ⟨by simp, by omega⟩
        · simp only [loopFuel]; omega
        rintro i env H ⟨g18, hi⟩
        by_cases hlt : i < q.xs.length
        · have w1' : IntKind.i64.wrap ((i : Int) + 1) = (i + 1 : Nat) := by rw [wrap64 (by omega) (by omega)]; omega
          have hltI : (i : Int) < q.xs.length := by omega
          have hltB : i < v.xs.length := by have := w2H.h; omega
          have hl1 := w3H.h i hltB hlt
          have hl2 := fun H => call_pureC (G := G) (n := 60) (H := H) (caps := []) (ps := [.agg v.xs[i].cells, .agg q.xs[i].cells]) sh24 (e24 59 v.xs[i] q.xs[i])
          rw [hl1] at hl2
          simp only [Box.cells, Span.cells, List.map_cons, List.map_nil] at hl2
          clear hl1
          (repeat' first | simp [*, initEnv, Box.cells, Span.cells] | (refine wpIf_two (fun _ h => ?_) (fun _ h => ?_) <;> try simp [-Nat.le_zero_eq] at h))
          exact ⟨i + 1, by omega, by omega, by omega⟩
        · have hiN : i = q.xs.length := by omega
          subst hiN
          clear w3H
          (repeat' first | simp [*, initEnv] | (refine wpIf_two (fun _ h => ?_) (fun _ h => ?_) <;> try simp [-Nat.le_zero_eq] at h))
end Go.Proofs.Ytmghcpdpilgplaa.Vm
