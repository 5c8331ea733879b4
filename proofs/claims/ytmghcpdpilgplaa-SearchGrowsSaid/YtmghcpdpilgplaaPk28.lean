/- The chapter's examples: head() returns true, by the machine's own runs in the kernel. The law SearchGrows, on the machine. -/
import Derived.Test.YtmghcpdpilgplaaPk14
import Derived.Test.YtmghcpdpilgplaaPk27
import Derived.Test.YtmghcpdpilgplaaPk9
import Derived.KernelRfl
import Derived.Test.YtmghcpdpilgplaaPk25
import Derived.Test.YtmghcpdpilgplaaPk26
namespace Go.Proofs.Ytmghcpdpilgplaa.Vm
open Go
set_option linter.unusedSimpArgs false
set_option linter.unusedVariables false
set_option maxHeartbeats 4000000
def iP (n : Int) : PV := .int .i64 n
def pP (a b c d : Int) : PV := .slice false 2 [[iP a, iP b], [iP c, iP d]]
def exB (a b c d : Int) : List PV := [.int .i64 a, .int .i64 b, .int .i64 c, .int .i64 d]
def exF (id kind lo hi : Int) : List PV := [.int .i64 id, .int .i64 kind, .bool false, .int .i64 0, .int .i64 1, .int .i64 0, .int .i64 lo, .int .i64 hi, .int .i64 0]
def exN : List PV := [.int .i64 0, .int .i64 6, .bool true, .int .i64 0, .int .i64 1, .int .i64 0, .int .i64 1, .int .i64 5, .int .i64 0]
def exPr (fs : List (List PV)) : PV := .agg [.slice false 4 [exB 0 0 0 0, exB (-5) 5 (-5) 5], .slice false 9 fs]
def exP : PV := exPr [exF 4 1 25 25, exF 7 3 0 0]
def exQ : PV := exPr [exF 4 1 25 25, exF 7 3 0 0, exF 9 5 2 2]
theorem ex_run : callP G 59 32 [] = some exP := by kernel_rfl
theorem narrow_run : callP G 59 20 [exP] = some (.tup [.slice false 4 [exB 0 0 0 0, exB 3 5 (-4) 4], .int .i64 0]) := by kernel_rfl
theorem count_run : callP G 59 21 [exP] = some (.tup [.int .i64 3, .int .i64 0]) := by kernel_rfl
theorem hull_run : callP G 59 25 [exP] = some (.tup [.slice false 4 [exB 0 0 0 0, exB 4 5 (-3) 3], .int .i64 0]) := by kernel_rfl
theorem dec_run2 : callP G 59 26 [exP, .agg (exF 0 1 20 30)] = some (.tup [.int .i64 2, .int .i64 0]) := by kernel_rfl
theorem with_run : callP G 59 23 [exP, .agg (exF 9 5 2 2)] = some exQ := by kernel_rfl
def fr0 : PV := (.tup [(.agg [(.bool false), (.slice false 1 [[(.ptr false [(.slice false 1 [[(iP 0)], [(iP 1)]]), (iP 3), (.slice false 4 [[(pP 0 0 4 (-3)), (pP 0 0 4 (-3)), (pP 0 0 4 (-3)), (pP 0 0 4 (-3))], [(pP 0 0 4 (-3)), (pP 0 0 5 0), (pP 0 0 4 (-3)), (pP 0 0 4 3)]]), (pP 0 0 4 (-3))] 0)]])]), (iP 0)])
theorem find_run0 : callP G 58 48 [exP] = some fr0 := by kernel_rfl
def fr1 : PV := (.tup [(.agg [(.bool false), (.slice false 1 [[(.ptr false [(.slice false 1 [[(iP 0)], [(iP 1)]]), (iP 1), (.slice false 4 [[(pP 0 0 4 3), (pP 0 0 4 3), (pP 0 0 4 3), (pP 0 0 4 3)], [(pP 0 0 4 3), (pP 0 0 4 3), (pP 0 0 4 3), (pP 0 0 4 3)]]), (pP 0 0 4 3)] 0)]])]), (iP 0)])
theorem find_run1 : callP G 58 48 [exPr [exF 4 1 25 25, exF 7 3 0 0, exF 0 6 1 5]] = some fr1 := by kernel_rfl
def fr2 : PV := (.tup [(.agg [(.bool false), (.slice false 1 [[(.ptr false [(.slice false 1 [[(iP 0)], [(iP 1)]]), (iP 2), (.slice false 4 [[(pP 0 0 4 (-3)), (pP 0 0 4 (-3)), (pP 0 0 4 (-3)), (pP 0 0 4 (-3))], [(pP 0 0 4 (-3)), (pP 0 0 5 0), (pP 0 0 4 (-3)), (pP 0 0 5 0)]]), (pP 0 0 4 (-3))] 0)]])]), (iP 0)])
theorem find_run2 : callP G 58 48 [exPr [exF 4 1 25 25, exF 7 3 0 0, exN]] = some fr2 := by kernel_rfl
def fr3 : PV := (.tup [(.agg [(.bool true), .nils]), (iP 0)])
theorem find_run3 : callP G 58 45 [exQ] = some fr3 := by kernel_rfl
def fr4 : PV := (.tup [(.agg [(.bool false), (.slice false 1 [[(.ptr false [(.slice false 1 [[(iP 0)], [(iP 1)]]), (iP 5), (.slice false 4 [[(pP 0 0 2 (-2)), (pP 0 0 2 (-2)), (pP 0 0 2 (-2)), (pP 0 0 2 (-2))], [(pP 0 0 2 (-2)), (pP 0 0 2 (-2)), (pP 0 0 2 (-2)), (pP 0 0 2 2)]]), (pP 0 0 2 (-2))] 0)]])]), (iP 0)])
theorem find_run4 : callP G 58 48 [exPr [exF 7 3 0 0, exF 9 5 2 2]] = some fr4 := by kernel_rfl
def fr5 : PV := (.tup [(.agg [(.bool true), .nils]), (iP 0)])
theorem find_run5 : callP G 58 48 [exPr [exF 4 1 25 25, exF 9 5 2 2]] = some fr5 := by kernel_rfl
def fr6 : PV := (.tup [(.agg [(.bool false), (.slice false 1 [[(.ptr false [(.slice false 1 [[(iP 0)], [(iP 1)]]), (iP 12), (.slice false 4 [[(pP 0 0 (-5) 0), (pP 0 0 (-5) 0), (pP 0 0 (-5) 0), (pP 0 0 (-5) 0)], [(pP 0 0 (-5) 0), (pP 0 0 5 0), (pP 0 0 0 (-5)), (pP 0 0 0 5)]]), (pP 0 0 (-5) 0)] 0)]])]), (iP 0)])
theorem find_run6 : callP G 58 48 [exPr [exF 4 1 25 25]] = some fr6 := by kernel_rfl
def tabD : Tab := [(48, [exP], fr0), (48, [exPr [exF 4 1 25 25, exF 7 3 0 0, exF 0 6 1 5]], fr1), (48, [exPr [exF 4 1 25 25, exF 7 3 0 0, exN]], fr2)]
theorem tabD_ok : ∀ e ∈ tabD, callP G 58 e.1 e.2.1 = some e.2.2 := all_cons find_run0 <| all_cons find_run1 <| all_cons find_run2 all_nil
theorem dec_run1 : callP G 59 26 [exP, .agg (exF 0 6 1 5)] = some (.tup [.int .i64 3, .int .i64 0]) := callP_tab (n := 58) (fs := [48]) rfl rfl tabD_ok (by kernel_rfl)
def tabC : Tab := [(45, [exQ], fr3), (48, [exPr [exF 7 3 0 0, exF 9 5 2 2]], fr4), (48, [exPr [exF 4 1 25 25, exF 9 5 2 2]], fr5), (48, [exPr [exF 4 1 25 25]], fr6)]
theorem tabC_ok : ∀ e ∈ tabC, callP G 58 e.1 e.2.1 = some e.2.2 := all_cons find_run3 <| all_cons find_run4 <| all_cons find_run5 <| all_cons find_run6 all_nil
theorem core_run : callP G 59 33 [exQ] = some (.tup [.slice false 1 [[.int .i64 4], [.int .i64 9]], .int .i64 0]) := callP_tab (n := 58) (fs := [48, 45]) rfl rfl tabC_ok (by kernel_rfl)
def tabH : Tab := [(32, [], exP), (20, [exP], .tup [.slice false 4 [exB 0 0 0 0, exB 3 5 (-4) 4], .int .i64 0]), (21, [exP], .tup [.int .i64 3, .int .i64 0]), (25, [exP], .tup [.slice false 4 [exB 0 0 0 0, exB 4 5 (-3) 3], .int .i64 0]),
  (26, [exP, .agg (exF 0 6 1 5)], .tup [.int .i64 3, .int .i64 0]), (26, [exP, .agg (exF 0 1 20 30)], .tup [.int .i64 2, .int .i64 0]), (23, [exP, .agg (exF 9 5 2 2)], exQ), (33, [exQ], .tup [.slice false 1 [[.int .i64 4], [.int .i64 9]], .int .i64 0])]
theorem tabH_ok : ∀ e ∈ tabH, callP G 59 e.1 e.2.1 = some e.2.2 := all_cons ex_run <| all_cons narrow_run <| all_cons count_run <| all_cons hull_run <| all_cons dec_run1 <| all_cons dec_run2 <| all_cons with_run <| all_cons core_run all_nil
theorem head_run : callP G 60 9 [] = some (.bool true) := callP_tab (n := 59) (fs := [32, 20, 21, 25, 26, 23, 33]) rfl rfl tabH_ok (by kernel_rfl)
end Go.Proofs.Ytmghcpdpilgplaa.Vm

namespace Go.Proofs.Ytmghcpdpilgplaa.Vm
open Go
set_option linter.unusedSimpArgs false
set_option linter.unusedVariables false
set_option maxHeartbeats 4000000
set_option maxRecDepth 4000
theorem sh_headG : G.shared 9 = false := by decide
theorem d_headG (H : Heap) : doCall (calleeOf G 60) H (.pure (.func 9 [])) [] = some (.val (.pure (.bool true))) := call_pure (ps := []) sh_headG head_run
structure GrowsOk (n e m h : Int) (a b : Sl Box) (i j : Int) (x c y d : Int) : Prop where
  count : e = 0 → h = 0 → m ≤ n
  hull : i = 0 → j = 0 → a.xs.length ≤ 12 ∧ b.xs.length = a.xs.length ∧ ∀ k (h : k < a.xs.length) (h' : k < b.xs.length), liesB b.xs[k] a.xs[k] = true
  dec : c = 0 → d = 0 → x = 3 ∨ x = y
theorem sol_more {p : Problem} {f : Fact} {pts : List Pt} (h : Solv (withP p f false) pts) : Solv p pts := (sol_with.1 h).1
theorem grows_plain (p : Problem) (f g : Fact) {D D' : FoundD} {e e' : Int} (h : SolvedOut p D e) (h' : SolvedOut (withP p f false) D' e') {D1 D2 D3 : FoundD} {e1 e2 e3 : Int} (hd : furtherF p g = 0 → FindOut p D1 e1 ∧ FindOut (withP p g false) D2 e2 ∧ FindOut (withP p g true) D3 e3)
    {D4 D5 D6 : FoundD} {e4 e5 e6 : Int} (hd' : furtherF (withP p f false) g = 0 → FindOut (withP p f false) D4 e4 ∧ FindOut (withP (withP p f false) g false) D5 e5 ∧ FindOut (withP (withP p f false) g true) D6 e6) :
    GrowsOk (countF D e).1 (countF D e).2 (countF D' e').1 (countF D' e').2 (.of (hullF D e p.boxes.xs.length).1) (.of (hullF D' e' p.boxes.xs.length).1) (hullF D e p.boxes.xs.length).2 (hullF D' e' p.boxes.xs.length).2
      (decideF (furtherF p g) D1 e1 D2 e2 D3 e3).1 (decideF (furtherF p g) D1 e1 D2 e2 D3 e3).2 (decideF (furtherF (withP p f false) g) D4 e4 D5 e5 D6 e6).1 (decideF (furtherF (withP p f false) g) D4 e4 D5 e5 D6 e6).2 := by
  have hN : (withP p f false).boxes.xs.length = p.boxes.xs.length := rfl
  refine ⟨fun a b => ?_, fun a b => ?_, fun a b => ?_⟩
  · obtain ⟨_, _, k1⟩ := count_sem h a
    obtain ⟨_, _, k2⟩ := count_sem h' b
    rw [k1, k2]
    have := nodup_le (solL (withP p f false)) (solL p) (solL_nodup _) fun pts hp => mem_solL.2 (sol_more (mem_solL.1 hp))
    omega
  · obtain ⟨c1, _, c3, c4⟩ := hull_sem h a
    obtain ⟨_, _, d3, d4⟩ := hull_sem h' b
    rw [hN] at d3 d4
    have nb := (check_ok.1 c1).nb
    rw [Sl.xs_of, Sl.xs_of]
    refine ⟨by omega, by omega, fun k hk hk' => ?_⟩
    have u := c4 k (by omega)
    have w := d4 k (by omega)
    rw [getElem!_pos _ k hk] at u
    rw [getElem!_pos _ k hk'] at w
    obtain ⟨p0, s0, q0⟩ := w.x0
    obtain ⟨p1, s1, q1⟩ := w.x1
    obtain ⟨p2, s2, q2⟩ := w.y0
    obtain ⟨p3, s3, q3⟩ := w.y1
    have a0 := u.all _ (sol_more s0)
    have a1 := u.all _ (sol_more s1)
    have a2 := u.all _ (sol_more s2)
    have a3 := u.all _ (sol_more s3)
    unfold inB' at a0 a1 a2 a3
    exact lies_iff.2 (by omega)
  · obtain ⟨_, k1⟩ := decide_sem hd a
    obtain ⟨_, k2⟩ := decide_sem hd' b
    exact k1.more (fun pts hp => sol_more hp) k2
theorem grows_law (p : Problem) (f g : Fact) : callP G 61 6 [.agg p.cells, .agg f.cells, .agg g.cells] = some (.bool true) := by
  refine callP_of (n := 60) (ext_none _) rfl g6 rfl ?_
  have hh := d_headG
  have hs := fun H => call_pureC (G := G) (n := 60) (H := H) (caps := []) (ps := [.agg p.cells]) sh19 (e19 57 p)
  simp only [Problem.cells, List.map_cons, List.map_nil] at hs
  cases hsp : fewB p with
  | false =>
    rw [hsp] at hs
    clear hsp
    (repeat' first | simp [*, initEnv, c6, Problem.cells] | (refine wpIf_two (fun _ h => ?_) (fun _ h => ?_) <;> try simp [-Nat.le_zero_eq] at h))
  | true =>
    rw [hsp] at hs
    have hfew := few_iff hsp
    clear hsp
    by_cases h4 : 4 < p.boxes.xs.length
    · have h4I : (4 : Int) < p.boxes.xs.length := by omega
      clear hfew
      (repeat' first | simp [*, initEnv, c6, Problem.cells] | (refine wpIf_two (fun _ h => ?_) (fun _ h => ?_) <;> try simp [-Nat.le_zero_eq] at h))
    by_cases h14 : 14 < p.facts.xs.length
    · have h4I : ¬ (4 : Int) < p.boxes.xs.length := by omega
      have h14I : (14 : Int) < p.facts.xs.length := by omega
      clear hfew
      (repeat' first | simp [*, initEnv, c6, Problem.cells] | (refine wpIf_two (fun _ h => ?_) (fun _ h => ?_) <;> try simp [-Nat.le_zero_eq] at h))
    have h4I : ¬ (4 : Int) < p.boxes.xs.length := by omega
    have h14I : ¬ (14 : Int) < p.facts.xs.length := by omega
    obtain ⟨D, e, hS⟩ := solved_ex p
    obtain ⟨D', e', hS'⟩ := solved_ex (withP p f false)
    obtain ⟨D1, e1, D2, e2, D3, e3, hd⟩ := decide_ex p g
    obtain ⟨D4, e4, D5, e5, D6, e6, hd'⟩ := decide_ex (withP p f false) g
    have hg := grows_plain p f g hS hS' hd hd'
    have s1 := solved_seens hS
    have s2 := solved_seens hS'
    have hw := fun H => call_pureC (G := G) (n := 60) (H := H) (caps := []) (ps := [.agg p.cells, .agg f.cells]) sh23 (e23 59 p f (by omega))
    have a1 := fun H => call_pureC (G := G) (n := 60) (H := H) (caps := []) (ps := [.agg p.cells]) sh21 (e21 7 p D e hS s1.1 (fun h s hs => (s1.2 h s hs).1))
    have a2 := fun H => call_pureC (G := G) (n := 60) (H := H) (caps := []) (ps := [.agg (withP p f false).cells]) sh21 (e21 7 (withP p f false) D' e' hS' s2.1 (fun h s hs => (s2.2 h s hs).1))
    have a3 := fun H => call_pureC (G := G) (n := 60) (H := H) (caps := []) (ps := [.agg p.cells]) sh25 (e25 7 p D e hS (.inl (by omega)) s1.1 (fun h s hs => (s1.2 h s hs).2))
    have a4 := fun H => call_pureC (G := G) (n := 60) (H := H) (caps := []) (ps := [.agg (withP p f false).cells]) sh25 (e25 7 (withP p f false) D' e' hS' (.inl (show p.boxes.xs.length ≤ 12 by omega)) s2.1 (fun h s hs => (s2.2 h s hs).2))
    have a5 := fun H => call_pureC (G := G) (n := 60) (H := H) (caps := []) (ps := [.agg p.cells, .agg g.cells]) sh26 (e26 8 p g D1 D2 D3 e1 e2 e3 hd)
    have a6 := fun H => call_pureC (G := G) (n := 60) (H := H) (caps := []) (ps := [.agg (withP p f false).cells, .agg g.cells]) sh26 (e26 8 (withP p f false) g D4 D5 D6 e4 e5 e6 hd')
    have hN : (withP p f false).boxes.xs.length = p.boxes.xs.length := rfl
    rw [hN] at a4
    generalize countF D e = v1 at *
    generalize countF D' e' = v2 at *
    generalize hullF D e p.boxes.xs.length = v3 at *
    generalize hullF D' e' p.boxes.xs.length = v4 at *
    generalize decideF (furtherF p g) D1 e1 D2 e2 D3 e3 = v5 at *
    generalize decideF (furtherF (withP p f false) g) D4 e4 D5 e5 D6 e6 = v6 at *
    obtain ⟨n1, e1⟩ := v1
    obtain ⟨n2, e2⟩ := v2
    obtain ⟨L1, e3⟩ := v3
    obtain ⟨L2, e4⟩ := v4
    obtain ⟨n5, e5⟩ := v5
    obtain ⟨n6, e6⟩ := v6
    have hqN : (withP p f false).boxes.xs.length = p.boxes.xs.length := rfl
    generalize withP p f false = q at *
    obtain ⟨g1, g2, g3⟩ := hg
    have hcnt : e1 = 0 → e2 = 0 → ¬ n1 < n2 := fun a b => by have := g1 a b; omega
    have g2' : e3 = 0 → e4 = 0 → (Sl.of L1).xs.length ≤ 12 ∧ (Sl.of L2).xs.length = (Sl.of L1).xs.length ∧ ∀ k (h : k < (Sl.of L1).xs.length) (h' : k < (Sl.of L2).xs.length), liesB (Sl.of L2).xs[k] (Sl.of L1).xs[k] = true := g2
    clear g2
    have g2 := g2'
    clear g2'
    simp only [Problem.cells, Fact.cells, Span.cells, List.map_cons, List.map_nil] at a1 a2 a3 a4 a5 a6 hw
    generalize Sl.of L1 = A at *
    generalize Sl.of L2 = B at *
    have g3a : e5 = 0 → e6 = 0 → ¬ n5 = 3 → n5 = n6 := fun a b c => (g3 a b).resolve_left c
    clear hd hd' hS hS' s1 s2 hN hqN hfew h4 h14 g1 g3
    by_cases h3 : e3 = 0 ∧ e4 = 0
    · obtain ⟨h3, h3'⟩ := h3
      obtain ⟨w1, w2, w3⟩ := g2 h3 h3'
      have w2I : (B.xs.length : Int) = A.xs.length := by omega
      have w3H := Hide.mk w3
      have w2H := Hide.mk w2
      subst h3 h3'
      clear g2 w3 w2
      (repeat' first | simp [*, initEnv, c6, Problem.cells, Fact.cells, Span.cells] | (refine wpIf_two (fun _ h => ?_) (fun _ h => ?_) <;> try simp [-Nat.le_zero_eq] at h))
      all_goals
        refine wp_loopF [(6, 6), (17, 18), (85, 101)] (fun (i : Nat) env H => env 17 = .pure (.int .i64 i) ∧ i ≤ A.xs.length ∧ H.get 0 = .cells true [.pure (q.boxes.pv Box.cells 4), .pure (q.facts.pv Fact.cells 9)]) (fun i => A.xs.length - i) 0 ?_ ?_ ?_ ?_
        · decide
        · exact ⟨by simp, by omega, by simp⟩
        · simp only [loopFuel]; omega
        rintro i env H ⟨g17, hi, g0⟩
        by_cases hlt : i < A.xs.length
        · have w1' : IntKind.i64.wrap ((i : Int) + 1) = (i + 1 : Nat) := by rw [wrap64 (by omega) (by omega)]; omega
          have hltI : (i : Int) < A.xs.length := by omega
          have hltB : i < B.xs.length := by have := w2H.h; omega
          have hl1 := w3H.h i hlt hltB
          have hl2 := fun H => call_pureC (G := G) (n := 60) (H := H) (caps := []) (ps := [.agg B.xs[i].cells, .agg A.xs[i].cells]) sh24 (e24 59 B.xs[i] A.xs[i])
          rw [hl1] at hl2
          simp only [Box.cells, Span.cells, List.map_cons, List.map_nil] at hl2
          clear hl1 a1 a2 a3 a4 a5 a6 hw hh
          (repeat' first | simp [*, initEnv, Box.cells, Span.cells] | (refine wpIf_two (fun _ h => ?_) (fun _ h => ?_) <;> try simp [-Nat.le_zero_eq] at h))
          exact ⟨i + 1, by omega, by omega, by omega⟩
        · have hiN : i = A.xs.length := by omega
          subst hiN
          clear w3H
          (repeat' first | simp [*, initEnv, Fact.cells, Span.cells] | (refine wpIf_two (fun _ h => ?_) (fun _ h => ?_) <;> try simp [-Nat.le_zero_eq] at h))
          exact g3a (by assumption) (by assumption) (by assumption)
    · clear g2
      by_cases h3a : e3 = 0
      · have h4a : ¬ e4 = 0 := fun h => h3 ⟨h3a, h⟩
        clear h3
        (repeat' first | simp [*, initEnv, c6, Problem.cells, Fact.cells, Span.cells] | (refine wpIf_two (fun _ h => ?_) (fun _ h => ?_) <;> try simp [-Nat.le_zero_eq] at h))
        all_goals exact g3a (by assumption) (by assumption) (by assumption)
      · clear h3
        (repeat' first | simp [*, initEnv, c6, Problem.cells, Fact.cells, Span.cells] | (refine wpIf_two (fun _ h => ?_) (fun _ h => ?_) <;> try simp [-Nat.le_zero_eq] at h))
        all_goals exact g3a (by assumption) (by assumption) (by assumption)
end Go.Proofs.Ytmghcpdpilgplaa.Vm
