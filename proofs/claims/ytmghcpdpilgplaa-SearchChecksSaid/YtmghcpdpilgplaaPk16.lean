/- The chapter's examples: head() returns true, by the machine's own runs in the kernel. The law SearchChecks, on the machine. -/
import Derived.Test.YtmghcpdpilgplaaPk14
import Derived.Test.YtmghcpdpilgplaaPk15
import Derived.Test.YtmghcpdpilgplaaPk9
import Derived.KernelRfl
namespace Go.Proofs.Ytmghcpdpilgplaa.Vm
open Go
set_option linter.unusedSimpArgs false
set_option linter.unusedVariables false
set_option maxHeartbeats 4000000
def iP (n : Int) : PV := .int .i64 n
def pP (a b c d : Int) : PV := .slice false 2 [[iP a, iP b], [iP c, iP d]]
def exB (a b c d : Int) : List PV := [.int .i64 a, .int .i64 b, .int .i64 c, .int .i64 d]
def exF (id kind lo hi : Int) : List PV := [.int .i64 id, .int .i64 kind, .bool false, .int .i64 0, .int .i64 1, .int .i64 0, .int .i64 lo, .int .i64 hi, .int .i64 0]
def exN : List PV := [.int .i64 0, .int .i64 6, .bool true, .int .i64 0, .int .i64 1, .int .i64 0, .int .i64 1, .int .i64 5, .int .i64 0]
def exPr (fs : List (List PV)) : PV := .agg [.slice false 4 [exB 0 0 0 0, exB (-5) 5 (-5) 5], .slice false 9 fs]
def exP : PV := exPr [exF 4 1 25 25, exF 7 3 0 0]
def exQ : PV := exPr [exF 4 1 25 25, exF 7 3 0 0, exF 9 5 2 2]
theorem ex_run : callP G 59 32 [] = some exP := by kernel_rfl
theorem narrow_run : callP G 59 20 [exP] = some (.tup [.slice false 4 [exB 0 0 0 0, exB 3 5 (-4) 4], .int .i64 0]) := by kernel_rfl
theorem count_run : callP G 59 21 [exP] = some (.tup [.int .i64 3, .int .i64 0]) := by kernel_rfl
theorem hull_run : callP G 59 25 [exP] = some (.tup [.slice false 4 [exB 0 0 0 0, exB 4 5 (-3) 3], .int .i64 0]) := by kernel_rfl
theorem dec_run2 : callP G 59 26 [exP, .agg (exF 0 1 20 30)] = some (.tup [.int .i64 2, .int .i64 0]) := by kernel_rfl
theorem with_run : callP G 59 23 [exP, .agg (exF 9 5 2 2)] = some exQ := by kernel_rfl
def fr0 : PV := (.tup [(.agg [(.bool false), (.slice false 1 [[(.ptr false [(.slice false 1 [[(iP 0)], [(iP 1)]]), (iP 3), (.slice false 4 [[(pP 0 0 4 (-3)), (pP 0 0 4 (-3)), (pP 0 0 4 (-3)), (pP 0 0 4 (-3))], [(pP 0 0 4 (-3)), (pP 0 0 5 0), (pP 0 0 4 (-3)), (pP 0 0 4 3)]]), (pP 0 0 4 (-3))] 0)]])]), (iP 0)])
theorem find_run0 : callP G 58 48 [exP] = some fr0 := by kernel_rfl
def fr1 : PV := (.tup [(.agg [(.bool false), (.slice false 1 [[(.ptr false [(.slice false 1 [[(iP 0)], [(iP 1)]]), (iP 1), (.slice false 4 [[(pP 0 0 4 3), (pP 0 0 4 3), (pP 0 0 4 3), (pP 0 0 4 3)], [(pP 0 0 4 3), (pP 0 0 4 3), (pP 0 0 4 3), (pP 0 0 4 3)]]), (pP 0 0 4 3)] 0)]])]), (iP 0)])
theorem find_run1 : callP G 58 48 [exPr [exF 4 1 25 25, exF 7 3 0 0, exF 0 6 1 5]] = some fr1 := by kernel_rfl
def fr2 : PV := (.tup [(.agg [(.bool false), (.slice false 1 [[(.ptr false [(.slice false 1 [[(iP 0)], [(iP 1)]]), (iP 2), (.slice false 4 [[(pP 0 0 4 (-3)), (pP 0 0 4 (-3)), (pP 0 0 4 (-3)), (pP 0 0 4 (-3))], [(pP 0 0 4 (-3)), (pP 0 0 5 0), (pP 0 0 4 (-3)), (pP 0 0 5 0)]]), (pP 0 0 4 (-3))] 0)]])]), (iP 0)])
theorem find_run2 : callP G 58 48 [exPr [exF 4 1 25 25, exF 7 3 0 0, exN]] = some fr2 := by kernel_rfl
def fr3 : PV := (.tup [(.agg [(.bool true), .nils]), (iP 0)])
theorem find_run3 : callP G 58 45 [exQ] = some fr3 := by kernel_rfl
def fr4 : PV := (.tup [(.agg [(.bool false), (.slice false 1 [[(.ptr false [(.slice false 1 [[(iP 0)], [(iP 1)]]), (iP 5), (.slice false 4 [[(pP 0 0 2 (-2)), (pP 0 0 2 (-2)), (pP 0 0 2 (-2)), (pP 0 0 2 (-2))], [(pP 0 0 2 (-2)), (pP 0 0 2 (-2)), (pP 0 0 2 (-2)), (pP 0 0 2 2)]]), (pP 0 0 2 (-2))] 0)]])]), (iP 0)])
theorem find_run4 : callP G 58 48 [exPr [exF 7 3 0 0, exF 9 5 2 2]] = some fr4 := by kernel_rfl
def fr5 : PV := (.tup [(.agg [(.bool true), .nils]), (iP 0)])
theorem find_run5 : callP G 58 48 [exPr [exF 4 1 25 25, exF 9 5 2 2]] = some fr5 := by kernel_rfl
def fr6 : PV := (.tup [(.agg [(.bool false), (.slice false 1 [[(.ptr false [(.slice false 1 [[(iP 0)], [(iP 1)]]), (iP 12), (.slice false 4 [[(pP 0 0 (-5) 0), (pP 0 0 (-5) 0), (pP 0 0 (-5) 0), (pP 0 0 (-5) 0)], [(pP 0 0 (-5) 0), (pP 0 0 5 0), (pP 0 0 0 (-5)), (pP 0 0 0 5)]]), (pP 0 0 (-5) 0)] 0)]])]), (iP 0)])
theorem find_run6 : callP G 58 48 [exPr [exF 4 1 25 25]] = some fr6 := by kernel_rfl
def tabD : Tab := [(48, [exP], fr0), (48, [exPr [exF 4 1 25 25, exF 7 3 0 0, exF 0 6 1 5]], fr1), (48, [exPr [exF 4 1 25 25, exF 7 3 0 0, exN]], fr2)]
theorem tabD_ok : ∀ e ∈ tabD, callP G 58 e.1 e.2.1 = some e.2.2 := all_cons find_run0 <| all_cons find_run1 <| all_cons find_run2 all_nil
theorem dec_run1 : callP G 59 26 [exP, .agg (exF 0 6 1 5)] = some (.tup [.int .i64 3, .int .i64 0]) := callP_tab (n := 58) (fs := [48]) rfl rfl tabD_ok (by kernel_rfl)
def tabC : Tab := [(45, [exQ], fr3), (48, [exPr [exF 7 3 0 0, exF 9 5 2 2]], fr4), (48, [exPr [exF 4 1 25 25, exF 9 5 2 2]], fr5), (48, [exPr [exF 4 1 25 25]], fr6)]
theorem tabC_ok : ∀ e ∈ tabC, callP G 58 e.1 e.2.1 = some e.2.2 := all_cons find_run3 <| all_cons find_run4 <| all_cons find_run5 <| all_cons find_run6 all_nil
theorem core_run : callP G 59 33 [exQ] = some (.tup [.slice false 1 [[.int .i64 4], [.int .i64 9]], .int .i64 0]) := callP_tab (n := 58) (fs := [48, 45]) rfl rfl tabC_ok (by kernel_rfl)
def tabH : Tab := [(32, [], exP), (20, [exP], .tup [.slice false 4 [exB 0 0 0 0, exB 3 5 (-4) 4], .int .i64 0]), (21, [exP], .tup [.int .i64 3, .int .i64 0]), (25, [exP], .tup [.slice false 4 [exB 0 0 0 0, exB 4 5 (-3) 3], .int .i64 0]),
  (26, [exP, .agg (exF 0 6 1 5)], .tup [.int .i64 3, .int .i64 0]), (26, [exP, .agg (exF 0 1 20 30)], .tup [.int .i64 2, .int .i64 0]), (23, [exP, .agg (exF 9 5 2 2)], exQ), (33, [exQ], .tup [.slice false 1 [[.int .i64 4], [.int .i64 9]], .int .i64 0])]
theorem tabH_ok : ∀ e ∈ tabH, callP G 59 e.1 e.2.1 = some e.2.2 := all_cons ex_run <| all_cons narrow_run <| all_cons count_run <| all_cons hull_run <| all_cons dec_run1 <| all_cons dec_run2 <| all_cons with_run <| all_cons core_run all_nil
theorem head_run : callP G 60 9 [] = some (.bool true) := callP_tab (n := 59) (fs := [32, 20, 21, 25, 26, 23, 33]) rfl rfl tabH_ok (by kernel_rfl)
end Go.Proofs.Ytmghcpdpilgplaa.Vm

namespace Go.Proofs.Ytmghcpdpilgplaa.Vm
open Go
set_option linter.unusedSimpArgs false
set_option linter.unusedVariables false
set_option maxHeartbeats 4000000

theorem sh_headC : G.shared 9 = false := by decide
theorem d_headC (H : Heap) : doCall (calleeOf G 60) H (.pure (.func 9 [])) [] = some (.val (.pure (.bool true))) := call_pure (ps := []) sh_headC head_run
def someC (p : Problem) : Bool := decide (p.boxes.xs.length ≤ 40) && decide (p.facts.xs.length ≤ 130)
theorem sh10 : G.shared 10 = false := by decide
theorem e10 (n : Nat) (p : Problem) : callP G (n + 1) 10 [.agg p.cells] = some (.bool (someC p)) := by
  refine callP_of (ext_none _) rfl g10 rfl ?_
  have h1 : decide (p.boxes.xs.length ≤ 40) = decide ((p.boxes.xs.length : Int) ≤ 40) := by rw [decide_eq_decide]; omega
  have h2 : decide (p.facts.xs.length ≤ 130) = decide ((p.facts.xs.length : Int) ≤ 130) := by rw [decide_eq_decide]; omega
  unfold someC
  rw [h1, h2]
  clear h1 h2
  (repeat' first | simp [*, initEnv, c10, Problem.cells] | (refine wpIf_two (fun _ h => ?_) (fun _ h => ?_) <;> try simp [-Nat.le_zero_eq] at h))
@[simp] theorem d10 (n : Nat) (H : Heap) (p_boxes : Sl Box) (p_facts : Sl Fact) : doCall (calleeOf G (n + 1)) H (.pure (.func 10 [])) [.pure (.agg [(p_boxes).pv Box.cells 4, (p_facts).pv Fact.cells 9])] = some (.val (.pure ((fun (p : Problem) => .bool (someC p)) (⟨p_boxes, p_facts⟩ : Problem)))) :=
  call_pureC (ps := [_]) (caps := []) sh10 (e10 n (⟨p_boxes, p_facts⟩ : Problem))
theorem checks_law (p : Problem) : callP G 61 3 [.agg p.cells] = some (.bool true) := by
  refine callP_of (n := 60) (ext_none _) rfl g3 rfl ?_
  have hh := d_headC
  have hs := fun H => call_pureC (G := G) (n := 60) (H := H) (caps := []) (ps := [.agg p.cells]) sh10 (e10 59 p)
  have a1 := fun H => call_pureC (G := G) (n := 60) (H := H) (caps := []) (ps := [.agg p.cells]) sh11 (e11 57 p)
  have a2 := fun H => call_pureC (G := G) (n := 60) (H := H) (caps := []) (ps := [.agg p.cells]) sh12 (e12 57 p)
  simp only [Problem.cells, List.map_cons, List.map_nil] at hs a1 a2
  generalize checkS p = r at *
  cases hsp : someC p with
  | false =>
    rw [hsp] at hs
    clear hsp
    (repeat' first | simp [*, initEnv, c3, Problem.cells] | (refine wpIf_two (fun _ h => ?_) (fun _ h => ?_) <;> try simp [-Nat.le_zero_eq] at h))
  | true =>
    rw [hsp] at hs
    clear hsp
    (repeat' first | simp [*, initEnv, c3, Problem.cells] | (refine wpIf_two (fun _ h => ?_) (fun _ h => ?_) <;> try simp [-Nat.le_zero_eq] at h))
end Go.Proofs.Ytmghcpdpilgplaa.Vm
