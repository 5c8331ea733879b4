/- The chapter's examples: head() returns true, by the machine's own runs in the kernel. The law SearchSolves, on the machine. -/
import Derived.Test.YtmghcpdpilgplaaGreatPk14
import Derived.Test.YtmghcpdpilgplaaGreatPk35
import Derived.Test.YtmghcpdpilgplaaGreatPk9
import Derived.KernelRfl
import Derived.Test.YtmghcpdpilgplaaGreatPk33
import Derived.Test.YtmghcpdpilgplaaGreatPk34
import Derived.Test.YtmghcpdpilgplaaGreatPk25
namespace Go.Proofs.YtmghcpdpilgplaaGreat.Vm
open Go
set_option linter.unusedSimpArgs false
set_option linter.unusedVariables false
set_option maxHeartbeats 4000000
def iP (n : Int) : PV := .int .i64 n
def pP (a b c d : Int) : PV := .slice false 2 [[iP a,iP b],[iP c,iP d]]
def exB (a b c d : Int) : List PV := [.int .i64 a,.int .i64 b,.int .i64 c,.int .i64 d]
def exF (id kind lo hi : Int) : List PV := [.int .i64 id,.int .i64 kind,.bool false,.int .i64 0,.int .i64 1,.int .i64 0,.int .i64 lo,.int .i64 hi,.int .i64 0]
def exN : List PV := [.int .i64 0,.int .i64 6,.bool true,.int .i64 0,.int .i64 1,.int .i64 0,.int .i64 1,.int .i64 5,.int .i64 0]
def exPr (fs : List (List PV)) : PV := .agg [.slice false 4 [exB 0 0 0 0,exB (-5) 5 (-5) 5],.slice false 9 fs]
def exP : PV := exPr [exF 4 1 25 25,exF 7 3 0 0]
def exQ : PV := exPr [exF 4 1 25 25,exF 7 3 0 0,exF 9 5 2 2]
theorem ex_run : callP G 59 44 [] = some exP := by kernel_rfl
theorem narrow_run : callP G 59 22 [exP] = some (.tup [.slice false 4 [exB 0 0 0 0,exB 3 5 (-4) 4],.int .i64 0]) := by kernel_rfl
theorem count_run : callP G 59 32 [exP] = some (.tup [.int .i64 3,.int .i64 0]) := by kernel_rfl
theorem hull_run : callP G 59 45 [exP] = some (.tup [.slice false 4 [exB 0 0 0 0,exB 4 5 (-3) 3],.int .i64 0]) := by kernel_rfl
theorem dec_run2 : callP G 59 46 [exP,.agg (exF 0 1 20 30)] = some (.tup [.int .i64 2,.int .i64 0]) := by kernel_rfl
theorem with_run : callP G 59 47 [exP,.agg (exF 9 5 2 2)] = some exQ := by kernel_rfl
def fr0 : PV := (.tup [(.agg [(.bool false),(.slice false 1 [[(.ptr false [(.slice false 1 [[(iP 0)],[(iP 1)]]),(iP 3),(.slice false 4 [[(pP 0 0 4 (-3)),(pP 0 0 4 (-3)),(pP 0 0 4 (-3)),(pP 0 0 4 (-3))],[(pP 0 0 4 (-3)),(pP 0 0 5 0),(pP 0 0 4 (-3)),(pP 0 0 4 3)]]),(pP 0 0 4 (-3))] 0)]])]),(iP 0)])
theorem find_run0 : callP G 58 77 [exP] = some fr0 := by kernel_rfl
def fr1 : PV := (.tup [(.agg [(.bool false),(.slice false 1 [[(.ptr false [(.slice false 1 [[(iP 0)],[(iP 1)]]),(iP 1),(.slice false 4 [[(pP 0 0 4 3),(pP 0 0 4 3),(pP 0 0 4 3),(pP 0 0 4 3)],[(pP 0 0 4 3),(pP 0 0 4 3),(pP 0 0 4 3),(pP 0 0 4 3)]]),(pP 0 0 4 3)] 0)]])]),(iP 0)])
theorem find_run1 : callP G 58 77 [exPr [exF 4 1 25 25,exF 7 3 0 0,exF 0 6 1 5]] = some fr1 := by kernel_rfl
def fr2 : PV := (.tup [(.agg [(.bool false),(.slice false 1 [[(.ptr false [(.slice false 1 [[(iP 0)],[(iP 1)]]),(iP 2),(.slice false 4 [[(pP 0 0 4 (-3)),(pP 0 0 4 (-3)),(pP 0 0 4 (-3)),(pP 0 0 4 (-3))],[(pP 0 0 4 (-3)),(pP 0 0 5 0),(pP 0 0 4 (-3)),(pP 0 0 5 0)]]),(pP 0 0 4 (-3))] 0)]])]),(iP 0)])
theorem find_run2 : callP G 58 77 [exPr [exF 4 1 25 25,exF 7 3 0 0,exN]] = some fr2 := by kernel_rfl
def fr3 : PV := (.tup [(.agg [(.bool true),.nils]),(iP 0)])
theorem find_run3 : callP G 58 69 [exQ] = some fr3 := by kernel_rfl
def fr4 : PV := (.tup [(.agg [(.bool false),(.slice false 1 [[(.ptr false [(.slice false 1 [[(iP 0)],[(iP 1)]]),(iP 5),(.slice false 4 [[(pP 0 0 2 (-2)),(pP 0 0 2 (-2)),(pP 0 0 2 (-2)),(pP 0 0 2 (-2))],[(pP 0 0 2 (-2)),(pP 0 0 2 (-2)),(pP 0 0 2 (-2)),(pP 0 0 2 2)]]),(pP 0 0 2 (-2))] 0)]])]),(iP 0)])
theorem find_run4 : callP G 58 77 [exPr [exF 7 3 0 0,exF 9 5 2 2]] = some fr4 := by kernel_rfl
def fr5 : PV := (.tup [(.agg [(.bool true),.nils]),(iP 0)])
theorem find_run5 : callP G 58 77 [exPr [exF 4 1 25 25,exF 9 5 2 2]] = some fr5 := by kernel_rfl
def fr6 : PV := (.tup [(.agg [(.bool false),(.slice false 1 [[(.ptr false [(.slice false 1 [[(iP 0)],[(iP 1)]]),(iP 12),(.slice false 4 [[(pP 0 0 (-5) 0),(pP 0 0 (-5) 0),(pP 0 0 (-5) 0),(pP 0 0 (-5) 0)],[(pP 0 0 (-5) 0),(pP 0 0 5 0),(pP 0 0 0 (-5)),(pP 0 0 0 5)]]),(pP 0 0 (-5) 0)] 0)]])]),(iP 0)])
theorem find_run6 : callP G 58 77 [exPr [exF 4 1 25 25]] = some fr6 := by kernel_rfl
def tabD : Tab := [(77,[exP],fr0),(77,[exPr [exF 4 1 25 25,exF 7 3 0 0,exF 0 6 1 5]],fr1),(77,[exPr [exF 4 1 25 25,exF 7 3 0 0,exN]],fr2)]
theorem tabD_ok : ∀ e ∈ tabD,callP G 58 e.1 e.2.1 = some e.2.2 := all_cons find_run0 <| all_cons find_run1 <| all_cons find_run2 all_nil
theorem dec_run1 : callP G 59 46 [exP,.agg (exF 0 6 1 5)] = some (.tup [.int .i64 3,.int .i64 0]) := callP_tab (n := 58) (fs := [77]) rfl rfl tabD_ok (by kernel_rfl)
def tabC : Tab := [(69,[exQ],fr3),(77,[exPr [exF 7 3 0 0,exF 9 5 2 2]],fr4),(77,[exPr [exF 4 1 25 25,exF 9 5 2 2]],fr5),(77,[exPr [exF 4 1 25 25]],fr6)]
theorem tabC_ok : ∀ e ∈ tabC,callP G 58 e.1 e.2.1 = some e.2.2 := all_cons find_run3 <| all_cons find_run4 <| all_cons find_run5 <| all_cons find_run6 all_nil
theorem core_run : callP G 59 35 [exQ] = some (.tup [.slice false 1 [[.int .i64 4],[.int .i64 9]],.int .i64 0]) := callP_tab (n := 58) (fs := [77,69]) rfl rfl tabC_ok (by kernel_rfl)
def tabH : Tab := [(44,[],exP),(22,[exP],.tup [.slice false 4 [exB 0 0 0 0,exB 3 5 (-4) 4],.int .i64 0]),(32,[exP],.tup [.int .i64 3,.int .i64 0]),(45,[exP],.tup [.slice false 4 [exB 0 0 0 0,exB 4 5 (-3) 3],.int .i64 0]),
 (46,[exP,.agg (exF 0 6 1 5)],.tup [.int .i64 3,.int .i64 0]),(46,[exP,.agg (exF 0 1 20 30)],.tup [.int .i64 2,.int .i64 0]),(47,[exP,.agg (exF 9 5 2 2)],exQ),(35,[exQ],.tup [.slice false 1 [[.int .i64 4],[.int .i64 9]],.int .i64 0])]
theorem tabH_ok : ∀ e ∈ tabH,callP G 59 e.1 e.2.1 = some e.2.2 := all_cons ex_run <| all_cons narrow_run <| all_cons count_run <| all_cons hull_run <| all_cons dec_run1 <| all_cons dec_run2 <| all_cons with_run <| all_cons core_run all_nil
theorem head_run : callP G 60 9 [] = some (.bool true) := callP_tab (n := 59) (fs := [44,22,32,45,46,47,35]) rfl rfl tabH_ok (by kernel_rfl)
end Go.Proofs.YtmghcpdpilgplaaGreat.Vm

namespace Go.Proofs.YtmghcpdpilgplaaGreat.Vm
open Go
set_option linter.unusedSimpArgs false
set_option linter.unusedVariables false
set_option maxHeartbeats 4000000
set_option maxRecDepth 4000
theorem sh_headS : G.shared 9 = false := by decide
theorem d_headS (H : Heap) : doCall (calleeOf G 60) H (.pure (.func 9 [])) [] = some (.val (.pure (.bool true))) := call_pure (ps := []) sh_headS head_run
theorem solves_law (p : Problem) : callP G 61 6 [.agg p.cells] = some (.bool true) := by
 refine callP_of (n := 60) (ext_none _) rfl g6 rfl ?_
 have hh := d_headS
 have hs := fun H => call_pureC (G := G) (n := 60) (H := H) (caps := []) (ps := [.agg p.cells]) sh21 (e21 57 p)
 simp only [Problem.cells,List.map_cons,List.map_nil] at hs
 cases hsp : fewB p with
 | false =>
  rw [hsp] at hs
  clear hsp
  (repeat' first | simp [*,initEnv,c6,Problem.cells] | (apply wpIf_two <;> intro _ h <;> try simp [-Nat.le_zero_eq] at h))
 | true =>
  rw [hsp] at hs
  clear hsp
  obtain ⟨D,e,E,nS,hS,oS,ns,cs,h⟩ := solves_sem p
  obtain ⟨S,hS1⟩ : ∃ S,(solveF p D e cs).1 = S := ⟨_,rfl⟩
  have a1 := fun H => call_pureC (G := G) (n := 60) (H := H) (caps := []) (ps := [.agg p.cells]) sh31 (e31 7 p D e h.so cs h.soln)
  have a2 := fun H => call_pureC (G := G) (n := 60) (H := H) (caps := []) (ps := [.agg p.cells]) sh32 (e32 7 p D e h.so h.dl h.dz)
  have a3 := fun H => call_pureC (G := G) (n := 60) (H := H) (caps := []) (ps := [.agg p.cells]) sh33 (e33 50 p E nS hS oS h.sr)
  have a4 := fun H => call_pureC (G := G) (n := 60) (H := H) (caps := []) (ps := [.agg p.cells]) sh34 (e34 49 p E nS hS oS h.sr ns h.nse h.nz h.nl)
  have a5 := fun H => call_pureC (G := G) (n := 60) (H := H) (caps := []) (ps := [.agg p.cells,S.pv Pt.cells 2]) sh12 (e12 51 p S (by rw [← hS1]; exact h.len))
  have hnil := h.nilE
  have hok := h.ok
  rw [h.same,hS1] at a1
  rw [← h.count] at a4
  rw [hS1] at hnil hok
  simp only [Problem.cells,List.map_cons,List.map_nil] at a1 a2 a3 a4 a5
  generalize countF D e = c at *
  generalize allowsS p S.xs = r at *
  obtain ⟨x1,hx1⟩ : ∃ x,p.boxes.pv Box.cells 4 = x := ⟨_,rfl⟩
  obtain ⟨x2,hx2⟩ : ∃ x,p.facts.pv Fact.cells 9 = x := ⟨_,rfl⟩
  clear h hS1
  by_cases hE : E = 0
  ·have hok2 := hok hE
   clear hok hnil hx1 hx2
   subst hE
   obtain ⟨r1,r2⟩ := r
   simp only at hok2
   subst hok2
   (repeat' first | simp [*,initEnv,c6,Problem.cells] | (apply wpIf_two <;> intro _ h <;> try simp [-Nat.le_zero_eq] at h))
  ·have hn := hnil hE
   subst hn
   have z : (Sl.nil : Sl Pt).pv Pt.cells 2 = .nils := rfl
   rw [z] at a1 a5
   clear hnil hok hx1 hx2 a5 z
   (repeat' first | simp [*,initEnv,c6,Problem.cells] | (apply wpIf_two <;> intro _ h <;> try simp [-Nat.le_zero_eq] at h))
end Go.Proofs.YtmghcpdpilgplaaGreat.Vm
