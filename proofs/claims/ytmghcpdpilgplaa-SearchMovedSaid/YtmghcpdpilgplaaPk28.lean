/- The chapter's examples: head() returns true, by the machine's own runs in the kernel. The law SearchMoved, on the machine. -/
import Derived.Test.YtmghcpdpilgplaaPk14
import Derived.Test.YtmghcpdpilgplaaPk27
import Derived.Test.YtmghcpdpilgplaaPk9
import Derived.KernelRfl
import Derived.Test.YtmghcpdpilgplaaPk25
import Derived.Test.YtmghcpdpilgplaaPk26
namespace Go.Proofs.Ytmghcpdpilgplaa.Vm
open Go
set_option linter.unusedSimpArgs false
set_option linter.unusedVariables false
set_option maxHeartbeats 4000000
def iP (n : Int) : PV := .int .i64 n
def pP (a b c d : Int) : PV := .slice false 2 [[iP a, iP b], [iP c, iP d]]
def exB (a b c d : Int) : List PV := [.int .i64 a, .int .i64 b, .int .i64 c, .int .i64 d]
def exF (id kind lo hi : Int) : List PV := [.int .i64 id, .int .i64 kind, .bool false, .int .i64 0, .int .i64 1, .int .i64 0, .int .i64 lo, .int .i64 hi, .int .i64 0]
def exN : List PV := [.int .i64 0, .int .i64 6, .bool true, .int .i64 0, .int .i64 1, .int .i64 0, .int .i64 1, .int .i64 5, .int .i64 0]
def exPr (fs : List (List PV)) : PV := .agg [.slice false 4 [exB 0 0 0 0, exB (-5) 5 (-5) 5], .slice false 9 fs]
def exP : PV := exPr [exF 4 1 25 25, exF 7 3 0 0]
def exQ : PV := exPr [exF 4 1 25 25, exF 7 3 0 0, exF 9 5 2 2]
theorem ex_run : callP G 59 32 [] = some exP := by kernel_rfl
theorem narrow_run : callP G 59 20 [exP] = some (.tup [.slice false 4 [exB 0 0 0 0, exB 3 5 (-4) 4], .int .i64 0]) := by kernel_rfl
theorem count_run : callP G 59 21 [exP] = some (.tup [.int .i64 3, .int .i64 0]) := by kernel_rfl
theorem hull_run : callP G 59 25 [exP] = some (.tup [.slice false 4 [exB 0 0 0 0, exB 4 5 (-3) 3], .int .i64 0]) := by kernel_rfl
theorem dec_run2 : callP G 59 26 [exP, .agg (exF 0 1 20 30)] = some (.tup [.int .i64 2, .int .i64 0]) := by kernel_rfl
theorem with_run : callP G 59 23 [exP, .agg (exF 9 5 2 2)] = some exQ := by kernel_rfl
def fr0 : PV := (.tup [(.agg [(.bool false), (.slice false 1 [[(.ptr false [(.slice false 1 [[(iP 0)], [(iP 1)]]), (iP 3), (.slice false 4 [[(pP 0 0 4 (-3)), (pP 0 0 4 (-3)), (pP 0 0 4 (-3)), (pP 0 0 4 (-3))], [(pP 0 0 4 (-3)), (pP 0 0 5 0), (pP 0 0 4 (-3)), (pP 0 0 4 3)]]), (pP 0 0 4 (-3))] 0)]])]), (iP 0)])
theorem find_run0 : callP G 58 48 [exP] = some fr0 := by kernel_rfl
def fr1 : PV := (.tup [(.agg [(.bool false), (.slice false 1 [[(.ptr false [(.slice false 1 [[(iP 0)], [(iP 1)]]), (iP 1), (.slice false 4 [[(pP 0 0 4 3), (pP 0 0 4 3), (pP 0 0 4 3), (pP 0 0 4 3)], [(pP 0 0 4 3), (pP 0 0 4 3), (pP 0 0 4 3), (pP 0 0 4 3)]]), (pP 0 0 4 3)] 0)]])]), (iP 0)])
theorem find_run1 : callP G 58 48 [exPr [exF 4 1 25 25, exF 7 3 0 0, exF 0 6 1 5]] = some fr1 := by kernel_rfl
def fr2 : PV := (.tup [(.agg [(.bool false), (.slice false 1 [[(.ptr false [(.slice false 1 [[(iP 0)], [(iP 1)]]), (iP 2), (.slice false 4 [[(pP 0 0 4 (-3)), (pP 0 0 4 (-3)), (pP 0 0 4 (-3)), (pP 0 0 4 (-3))], [(pP 0 0 4 (-3)), (pP 0 0 5 0), (pP 0 0 4 (-3)), (pP 0 0 5 0)]]), (pP 0 0 4 (-3))] 0)]])]), (iP 0)])
theorem find_run2 : callP G 58 48 [exPr [exF 4 1 25 25, exF 7 3 0 0, exN]] = some fr2 := by kernel_rfl
def fr3 : PV := (.tup [(.agg [(.bool true), .nils]), (iP 0)])
theorem find_run3 : callP G 58 45 [exQ] = some fr3 := by kernel_rfl
def fr4 : PV := (.tup [(.agg [(.bool false), (.slice false 1 [[(.ptr false [(.slice false 1 [[(iP 0)], [(iP 1)]]), (iP 5), (.slice false 4 [[(pP 0 0 2 (-2)), (pP 0 0 2 (-2)), (pP 0 0 2 (-2)), (pP 0 0 2 (-2))], [(pP 0 0 2 (-2)), (pP 0 0 2 (-2)), (pP 0 0 2 (-2)), (pP 0 0 2 2)]]), (pP 0 0 2 (-2))] 0)]])]), (iP 0)])
theorem find_run4 : callP G 58 48 [exPr [exF 7 3 0 0, exF 9 5 2 2]] = some fr4 := by kernel_rfl
def fr5 : PV := (.tup [(.agg [(.bool true), .nils]), (iP 0)])
theorem find_run5 : callP G 58 48 [exPr [exF 4 1 25 25, exF 9 5 2 2]] = some fr5 := by kernel_rfl
def fr6 : PV := (.tup [(.agg [(.bool false), (.slice false 1 [[(.ptr false [(.slice false 1 [[(iP 0)], [(iP 1)]]), (iP 12), (.slice false 4 [[(pP 0 0 (-5) 0), (pP 0 0 (-5) 0), (pP 0 0 (-5) 0), (pP 0 0 (-5) 0)], [(pP 0 0 (-5) 0), (pP 0 0 5 0), (pP 0 0 0 (-5)), (pP 0 0 0 5)]]), (pP 0 0 (-5) 0)] 0)]])]), (iP 0)])
theorem find_run6 : callP G 58 48 [exPr [exF 4 1 25 25]] = some fr6 := by kernel_rfl
def tabD : Tab := [(48, [exP], fr0), (48, [exPr [exF 4 1 25 25, exF 7 3 0 0, exF 0 6 1 5]], fr1), (48, [exPr [exF 4 1 25 25, exF 7 3 0 0, exN]], fr2)]
theorem tabD_ok : ∀ e ∈ tabD, callP G 58 e.1 e.2.1 = some e.2.2 := all_cons find_run0 <| all_cons find_run1 <| all_cons find_run2 all_nil
theorem dec_run1 : callP G 59 26 [exP, .agg (exF 0 6 1 5)] = some (.tup [.int .i64 3, .int .i64 0]) := callP_tab (n := 58) (fs := [48]) rfl rfl tabD_ok (by kernel_rfl)
def tabC : Tab := [(45, [exQ], fr3), (48, [exPr [exF 7 3 0 0, exF 9 5 2 2]], fr4), (48, [exPr [exF 4 1 25 25, exF 9 5 2 2]], fr5), (48, [exPr [exF 4 1 25 25]], fr6)]
theorem tabC_ok : ∀ e ∈ tabC, callP G 58 e.1 e.2.1 = some e.2.2 := all_cons find_run3 <| all_cons find_run4 <| all_cons find_run5 <| all_cons find_run6 all_nil
theorem core_run : callP G 59 33 [exQ] = some (.tup [.slice false 1 [[.int .i64 4], [.int .i64 9]], .int .i64 0]) := callP_tab (n := 58) (fs := [48, 45]) rfl rfl tabC_ok (by kernel_rfl)
def tabH : Tab := [(32, [], exP), (20, [exP], .tup [.slice false 4 [exB 0 0 0 0, exB 3 5 (-4) 4], .int .i64 0]), (21, [exP], .tup [.int .i64 3, .int .i64 0]), (25, [exP], .tup [.slice false 4 [exB 0 0 0 0, exB 4 5 (-3) 3], .int .i64 0]),
  (26, [exP, .agg (exF 0 6 1 5)], .tup [.int .i64 3, .int .i64 0]), (26, [exP, .agg (exF 0 1 20 30)], .tup [.int .i64 2, .int .i64 0]), (23, [exP, .agg (exF 9 5 2 2)], exQ), (33, [exQ], .tup [.slice false 1 [[.int .i64 4], [.int .i64 9]], .int .i64 0])]
theorem tabH_ok : ∀ e ∈ tabH, callP G 59 e.1 e.2.1 = some e.2.2 := all_cons ex_run <| all_cons narrow_run <| all_cons count_run <| all_cons hull_run <| all_cons dec_run1 <| all_cons dec_run2 <| all_cons with_run <| all_cons core_run all_nil
theorem head_run : callP G 60 9 [] = some (.bool true) := callP_tab (n := 59) (fs := [32, 20, 21, 25, 26, 23, 33]) rfl rfl tabH_ok (by kernel_rfl)
end Go.Proofs.Ytmghcpdpilgplaa.Vm

namespace Go.Proofs.Ytmghcpdpilgplaa.Vm
open Go
set_option linter.unusedSimpArgs false
set_option linter.unusedVariables false
set_option maxHeartbeats 4000000
set_option maxRecDepth 4000
def movedP (p : Problem) (v : Pt) : Problem := ⟨.of (p.boxes.xs.map (moveB v)), .of p.facts.xs.reverse⟩
theorem movedP_mv (p : Problem) (v : Pt) : Mv v p (movedP p v) := ⟨by simp [movedP], fun f => by simp [movedP]⟩
def lowB' (b : Box) : Prop := (-1048576 ≤ b.x.lo ∧ b.x.lo ≤ 1048576) ∧ (-1048576 ≤ b.x.hi ∧ b.x.hi ≤ 1048576) ∧ (-1048576 ≤ b.y.lo ∧ b.y.lo ≤ 1048576) ∧ (-1048576 ≤ b.y.hi ∧ b.y.hi ≤ 1048576)
def okV (v : Pt) : Prop := (-2097152 ≤ v.x ∧ v.x ≤ 2097152) ∧ (-2097152 ≤ v.y ∧ v.y ≤ 2097152)
theorem sh27 : G.shared 27 = false := by decide
theorem e27 (n : Nat) (p : Problem) (v : Pt) (hl : p.boxes.xs.length ≤ 100 ∧ p.facts.xs.length ≤ 100) (hb : ∀ b ∈ p.boxes.xs, lowB' b) (hv : okV v) : callP G (n + 1) 27 [.agg p.cells, .agg v.cells] = some (.agg (movedP p v).cells) := by
  refine callP_of (ext_none _) rfl g27 rfl ?_
  obtain ⟨bs, fs⟩ := p
  obtain ⟨vx, vy⟩ := v
  obtain ⟨hlb, hlf⟩ := hl
  simp only at hlb hlf
  unfold okV at hv
  simp only at hv
  have hbH := Hide.mk hb
  have hw : movedP ⟨bs, fs⟩ ⟨vx, vy⟩ = ⟨.of (bs.xs.map (moveB ⟨vx, vy⟩)), .of fs.xs.reverse⟩ := rfl
  rw [hw]
  obtain ⟨M, hM⟩ : ∃ M, M = bs.xs.map (moveB ⟨vx, vy⟩) := ⟨_, rfl⟩
  obtain ⟨R, hR⟩ : ∃ R, R = fs.xs.reverse := ⟨_, rfl⟩
  rw [← hM, ← hR]
  have hMl : M.length = bs.xs.length := by rw [hM, List.length_map]
  have hRl : R.length = fs.xs.length := by rw [hR, List.length_reverse]
  have hMn : Hide (∀ i (h : i < bs.xs.length), M.take (i + 1) = M.take i ++ [⟨⟨bs.xs[i].x.lo + vx, bs.xs[i].x.hi + vx⟩, ⟨bs.xs[i].y.lo + vy, bs.xs[i].y.hi + vy⟩⟩]) := ⟨fun i h => by
    rw [List.take_add_one, List.getElem?_eq_getElem (by omega)]
    simp only [hM, List.getElem_map]
    rfl⟩
  have hRn : Hide (∀ i (h : i < fs.xs.length), R.take (i + 1) = R.take i ++ [fs.xs[fs.xs.length - 1 - i]'(Nat.lt_of_le_of_lt (Nat.sub_le _ _) (Nat.sub_lt (Nat.lt_of_le_of_lt (Nat.zero_le _) h) Nat.one_pos))]) := ⟨fun i h => by
    rw [List.take_add_one, List.getElem?_eq_getElem (by omega)]
    simp only [hR, List.getElem_reverse]
    rfl⟩
  have hMlH := Hide.mk hMl
  have hRlH := Hide.mk hRl
  clear hb hw hM hR hMl hRl
  (repeat' first | simp [*, initEnv, c27, Problem.cells, Pt.cells] | (refine wpIf_two (fun _ h => ?_) (fun _ h => ?_) <;> try simp [-Nat.le_zero_eq] at h) | (apply wpE_appendV; (focus (first | assumption | (repeat' first | assumption | with_reducible apply GrowV.setNew | with_reducible apply GrowV.alloc | with_reducible apply GrowV.set | (with_reducible show ¬ Names _ _; simp [*]; done)))); (focus (exact fun _ => rfl)); (focus decide); (focus (intro a; first | rfl | simp)); (focus (simp [maxCells] <;> omega))) | (refine after_intro fun v2 H2 hv2 hnx2 hget2 hnew2 hone2 hcel2 => ?_))
  refine wp_loopF [(6, 7), (9, 52)] (fun (i : Nat) env H => env 6 = .pure (.int .i64 i) ∧ i ≤ bs.xs.length ∧ 1 < H.nx ∧ H.get 0 = .cells true [.pure .nils, .pure .nils] ∧ ∃ V, H.get 1 = .cells true [V, .pure .nils] ∧ Hide (GrowV Box.cells 4 H V (M.take i) ∧ ∀ id, Names V id → 1 < id)) (fun i => bs.xs.length - i) 0 ?_ ?_ ?_ ?_
  · decide
  · exact ⟨by simp, by omega, by simp, by simp, .pure .nils, by simp, ⟨by simpa using GrowV.nil, fun id ⟨_, _, _, h⟩ => by simp at h⟩⟩
  · simp only [loopFuel]; omega
  rintro i env H ⟨g6, hi, hnx, h0, V, h1, hV⟩
  have hVo := hV.h.1.1.one
  have hVo1 := hVo.1
  have hVo2 := hVo.2
  by_cases hlt : i < bs.xs.length
  · have w1 : IntKind.i64.wrap ((i : Int) + 1) = (i + 1 : Nat) := by rw [wrap64 (by omega) (by omega)]; omega
    have hltI : (i : Int) < bs.xs.length := by omega
    have hbd := hbH.h _ (List.getElem_mem hlt)
    have hMn1 := hMn.h i hlt
    have hlen : (M.take i).length ≤ 100 := by rw [List.length_take]; omega
    unfold lowB' at hbd
    obtain ⟨x0, x1⟩ : ∃ B : Box, bs.xs[i] = B := ⟨_, rfl⟩
    rw [x1] at hbd hMn1
    obtain ⟨⟨b0, b1⟩, ⟨b2, b3⟩⟩ := x0
    simp only at hbd hMn1
    have v0 : IntKind.i64.wrap (b0 + vx) = b0 + vx := wrap64 (by omega) (by omega)
    have v1 : IntKind.i64.wrap (b1 + vx) = b1 + vx := wrap64 (by omega) (by omega)
    have v2 : IntKind.i64.wrap (b2 + vy) = b2 + vy := wrap64 (by omega) (by omega)
    have v3 : IntKind.i64.wrap (b3 + vy) = b3 + vy := wrap64 (by omega) (by omega)
    have hMnH := Hide.mk hMn1
    have hne1 : (1 : Nat) ≠ H.nx := by omega
    have hne0 : (0 : Nat) ≠ H.nx := by omega
    clear hbd hMn1 hbH hMn hRn hVo
    (repeat' first | simp [*, initEnv, Box.cells, Span.cells] | (refine wpIf_two (fun _ h => ?_) (fun _ h => ?_) <;> try simp [-Nat.le_zero_eq] at h) | (apply wpE_appendV; (focus (first | assumption | (repeat' first | assumption | with_reducible apply GrowV.setNew | with_reducible apply GrowV.alloc | with_reducible apply GrowV.set | (with_reducible show ¬ Names _ _; simp [*]; done)))); (focus (exact fun _ => rfl)); (focus decide); (focus (intro a; first | rfl | simp)); (focus (simp [maxCells] <;> omega))) | (refine after_intro fun v2 H2 hv2 hnx2 hget2 hnew2 hone2 hcel2 => ?_))
    refine wpE_appendV (f := Box.cells) (sz := 4) (l := M.take i) ((hV.h.1.setNew _ _).alloc _) (fun _ => rfl) (by decide) (fun _ => rfl) (by unfold maxCells; omega) ⟨⟨⟨b0 + vx, b1 + vx⟩, ⟨b2 + vy, b3 + vy⟩⟩, by simp [Box.cells, Span.cells], ?_⟩
    intro V4 H4 hg4 ha
    have hV4 : Hide (GrowV Box.cells 4 H4 V4 (M.take (i + 1)) ∧ ∀ id, Names V4 id → 1 < id) := ⟨by rw [hMnH.h]; exact hg4, fun id hn => by have := ha.new id hn; rw [nx_alloc, nx_set, nx_alloc] at this; omega⟩
    have k0 : H4.get 0 = .cells true [.pure .nils, .pure .nils] := by
      rw [ha.get 0 (by rw [nx_alloc, nx_set, nx_alloc]; omega) (fun hn => by have := hV.h.2 0 hn; omega), get_alloc_lt (by rw [nx_set, nx_alloc]; omega), get_set_ne hne0, get_alloc_lt (by omega)]; exact h0
    have k1 : H4.get 1 = .cells true [V, .pure .nils] := by
      rw [ha.get 1 (by rw [nx_alloc, nx_set, nx_alloc]; omega) (fun hn => by have := hV.h.2 1 hn; omega), get_alloc_lt (by rw [nx_set, nx_alloc]; omega), get_set_ne hne1, get_alloc_lt hnx]; exact h1
    have gn : 1 < H4.nx := by have := ha.nx; rw [nx_alloc, nx_set, nx_alloc] at this; omega
    have o4 := hg4.1.one
    have o4a := o4.1
    have o4b := o4.2
    clear hg4 ha o4 hV
    (repeat' first | simp [*, initEnv] | (refine wpIf_two (fun _ h => ?_) (fun _ h => ?_) <;> try simp [-Nat.le_zero_eq] at h) | (apply wpE_appendV; (focus (first | assumption | (repeat' first | assumption | with_reducible apply GrowV.setNew | with_reducible apply GrowV.alloc | with_reducible apply GrowV.set | (with_reducible show ¬ Names _ _; simp [*]; done)))); (focus (exact fun _ => rfl)); (focus decide); (focus (intro a; first | rfl | simp)); (focus (simp [maxCells] <;> omega))) | (refine after_intro fun v2 H2 hv2 hnx2 hget2 hnew2 hone2 hcel2 => ?_))
    exact ⟨i + 1, by omega, by omega, by omega, ⟨hV4.h.1.set (fun hn => by have := hV4.h.2 1 hn; omega) _, hV4.h.2⟩⟩
  · have hiN : i = bs.xs.length := by omega
    subst hiN
    have hVM : Hide (GrowV Box.cells 4 H V M ∧ ∀ id, Names V id → 1 < id) := ⟨by
      have := hV.h.1
      rwa [List.take_of_length_le (by have := hMlH.h; omega)] at this, hV.h.2⟩
    have hwl : IntKind.i64.wrap ((fs.xs.length : Int) - 1) = (fs.xs.length : Int) - 1 := wrap64 (by omega) (by omega)
    clear hV hbH hMn hVo
    (repeat' first | simp [*, initEnv] | (refine wpIf_two (fun _ h => ?_) (fun _ h => ?_) <;> try simp [-Nat.le_zero_eq] at h) | (apply wpE_appendV; (focus (first | assumption | (repeat' first | assumption | with_reducible apply GrowV.setNew | with_reducible apply GrowV.alloc | with_reducible apply GrowV.set | (with_reducible show ¬ Names _ _; simp [*]; done)))); (focus (exact fun _ => rfl)); (focus decide); (focus (intro a; first | rfl | simp)); (focus (simp [maxCells] <;> omega))) | (refine after_intro fun v2 H2 hv2 hnx2 hget2 hnew2 hone2 hcel2 => ?_))
    refine wp_loopF [(8, 8), (57, 70)] (fun (j : Nat) env H2 => env 8 = .pure (.int .i64 ((fs.xs.length : Int) - 1 - j)) ∧ j ≤ fs.xs.length ∧ 1 < H2.nx ∧ H2.get 0 = .cells true [.pure .nils, .pure .nils] ∧ ∃ V2, H2.get 1 = .cells true [V, V2] ∧ Hide (GrowV Box.cells 4 H2 V M ∧ GrowV Fact.cells 9 H2 V2 (R.take j) ∧ (∀ id, Names V2 id → 1 < id ∧ ¬ Names V id))) (fun j => fs.xs.length - j) 0 ?_ ?_ ?_ ?_
    · decide
    · exact ⟨by simp, by omega, hnx, h0, .pure .nils, h1, ⟨hVM.h.1, by simpa using GrowV.nil, fun id ⟨_, _, _, h⟩ => by simp at h⟩⟩
    · simp only [loopFuel]; omega
    clear h0 h1 hnx
    rintro j env H2 ⟨g8, hj, hnx, h0, V2, h1, hV⟩
    have hVo := hV.h.2.1.1.one
    have hW1 := hVo.1
    have hW2 := hVo.2
    by_cases hjl : j < fs.xs.length
    · obtain ⟨k, hk⟩ : ∃ k : Nat, k = fs.xs.length - 1 - j := ⟨_, rfl⟩
      have hkI : (fs.xs.length : Int) - 1 - j = (k : Int) := by omega
      rw [hkI] at g8
      have hkl : k < fs.xs.length := by omega
      have hk0 : (0 : Int) ≤ (k : Int) := by omega
      have w1 : IntKind.i64.wrap ((k : Int) - 1) = (k : Int) - 1 := wrap64 (by omega) (by omega)
      have hRn1 := hRn.h j hjl
      have hRn2 : R.take (j + 1) = R.take j ++ [fs.xs[k]] := by rw [hRn1]; simp only [hk]
      have hRnH := Hide.mk hRn2
      have hlen : (R.take j).length ≤ 100 := by rw [List.length_take]; omega
      have hkl2 : (k : Int) < fs.xs.length := by omega
      have hne1 : (1 : Nat) ≠ H2.nx := by omega
      have hkH := Hide.mk hkI
      obtain ⟨F, hF⟩ : ∃ F, fs.xs[k] = F := ⟨_, rfl⟩
      rw [hF] at hRnH
      obtain ⟨d1, d2, d3, da, db, dc, ⟨d4, d5⟩, d6⟩ := F
      clear hRn1 hRn2 hRn hVo hk hkI
      (repeat' first | simp [*, initEnv, Fact.cells, Span.cells] | (refine wpIf_two (fun _ h => ?_) (fun _ h => ?_) <;> try simp [-Nat.le_zero_eq] at h) | (apply wpE_appendV; (focus (first | assumption | (repeat' first | assumption | with_reducible apply GrowV.setNew | with_reducible apply GrowV.alloc | with_reducible apply GrowV.set | (with_reducible show ¬ Names _ _; simp [*]; done)))); (focus (exact fun _ => rfl)); (focus decide); (focus (intro a; first | rfl | simp)); (focus (simp [maxCells] <;> omega))) | (refine after_intro fun v2 H2 hv2 hnx2 hget2 hnew2 hone2 hcel2 => ?_))
      refine wpE_appendV (f := Fact.cells) (sz := 9) (l := R.take j) (hV.h.2.1.alloc _) (fun _ => rfl) (by decide) (fun _ => rfl) (by unfold maxCells; omega) ⟨⟨d1, d2, d3, da, db, dc, ⟨d4, d5⟩, d6⟩, by simp [Fact.cells, Span.cells], ?_⟩
      intro V4 H4 hg4 ha
      have hgo : ∀ c, c < H2.nx → ¬ Names V2 c → H4.get c = H2.get c := fun c hc hn => by rw [ha.get c (by rw [nx_alloc]; omega) hn, get_alloc_lt hc]
      have k0 : H4.get 0 = .cells true [.pure .nils, .pure .nils] := by rw [hgo 0 (by omega) (fun hn => by have := (hV.h.2.2 0 hn).1; omega)]; exact h0
      have k1 : H4.get 1 = .cells true [V, V2] := by rw [hgo 1 hnx (fun hn => by have := (hV.h.2.2 1 hn).1; omega)]; exact h1
      have gn : 1 < H4.nx := by have := ha.nx; rw [nx_alloc] at this; omega
      have hVk : GrowV Box.cells 4 H4 V M := ⟨hV.h.1.1.keep fun id ⟨n, hn⟩ => hgo id (hV.h.1.1.names_lt ⟨_, _, _, hn⟩) (fun h2 => (hV.h.2.2 id h2).2 ⟨_, _, _, hn⟩), hV.h.1.2⟩
      have hV4 : Hide (GrowV Box.cells 4 H4 V M ∧ GrowV Fact.cells 9 H4 V4 (R.take (j + 1)) ∧ (∀ id, Names V4 id → 1 < id ∧ ¬ Names V id)) := ⟨hVk, by rw [hRnH.h]; exact hg4, fun id hn => by
        have h1 := ha.new id hn
        rw [nx_alloc] at h1
        exact ⟨by omega, fun h2 => by have := hV.h.1.1.names_lt h2; omega⟩⟩
      have o4 := hg4.1.one
      have o4a := o4.1
      have o4b := o4.2
      have hVlow := Hide.mk hVM.h.2
      clear hg4 ha o4 hV hVk hgo hVM
      (repeat' first | simp [*, initEnv] | (refine wpIf_two (fun _ h => ?_) (fun _ h => ?_) <;> try simp [-Nat.le_zero_eq] at h) | (apply wpE_appendV; (focus (first | assumption | (repeat' first | assumption | with_reducible apply GrowV.setNew | with_reducible apply GrowV.alloc | with_reducible apply GrowV.set | (with_reducible show ¬ Names _ _; simp [*]; done)))); (focus (exact fun _ => rfl)); (focus decide); (focus (intro a; first | rfl | simp)); (focus (simp [maxCells] <;> omega))) | (refine after_intro fun v2 H2 hv2 hnx2 hget2 hnew2 hone2 hcel2 => ?_))
      refine ⟨j + 1, by omega, by have := hkH.h; omega, by omega, ⟨hV4.h.1.set (fun hn => by have := hVlow.h 1 hn; omega) _, hV4.h.2.1.set (fun hn => by have := (hV4.h.2.2 1 hn).1; omega) _, hV4.h.2.2⟩⟩
    · have hjN : j = fs.xs.length := by omega
      subst hjN
      rw [show (fs.xs.length : Int) - 1 - fs.xs.length = -1 by omega] at g8
      have hall : R.take fs.xs.length = R := List.take_of_length_le (by have := hRlH.h; omega)
      rw [hall] at hV
      have hr1 : ∀ o, FrzK (H2.set 0 o) false 11 V ((Sl.of M).pv Box.cells 4) := fun o => (hV.h.1.set (fun hn => by have := hVM.h.2 0 hn; omega) o).res (n := 9) (fun _ => rfl)
      have hr2 : ∀ o, FrzK (H2.set 0 o) false 11 V2 ((Sl.of R).pv Fact.cells 9) := fun o => (hV.h.2.1.set (fun hn => by have := (hV.h.2.2 0 hn).1; omega) o).res (n := 9) (fun _ => rfl)
      obtain ⟨ids, hids⟩ := FrzK.aggV (n := 11) (FrzL.cons (hr1 (.cells true [V, V2])) (.cons (hr2 (.cells true [V, V2])) .nil))
      have h0n : 0 < H2.nx := by omega
      clear hr1 hr2 hV hVM hall hRn hVo
      (repeat' first | simp [*, initEnv] | (refine wpIf_two (fun _ h => ?_) (fun _ h => ?_) <;> try simp [-Nat.le_zero_eq] at h) | (apply wpE_appendV; (focus (first | assumption | (repeat' first | assumption | with_reducible apply GrowV.setNew | with_reducible apply GrowV.alloc | with_reducible apply GrowV.set | (with_reducible show ¬ Names _ _; simp [*]; done)))); (focus (exact fun _ => rfl)); (focus decide); (focus (intro a; first | rfl | simp)); (focus (simp [maxCells] <;> omega))) | (refine after_intro fun v2 H2 hv2 hnx2 hget2 hnew2 hone2 hcel2 => ?_))
      exact ⟨ids, hids⟩
theorem sh_headM : G.shared 9 = false := by decide
theorem d_headM (H : Heap) : doCall (calleeOf G 60) H (.pure (.func 9 [])) [] = some (.val (.pure (.bool true))) := call_pure (ps := []) sh_headM head_run
theorem valid_low {b : Box} (h : validB b = true) : lowB' b := by
  have := valid_iff.1 h
  unfold lowB'
  omega
theorem moved_plain {v : Pt} {p q : Problem} (h : Mv v p q) (h0 : checkS p = 0) (h0' : checkS q = 0) {D D' : FoundD} {e e' : Int} (hf : FindOut p D e) (hf' : FindOut q D' e') :
    countF D e = countF D' e' ∧ (hullF D e p.boxes.xs.length).2 = (hullF D' e' q.boxes.xs.length).2 ∧ (hullF D' e' q.boxes.xs.length).1 = (hullF D e p.boxes.xs.length).1.map (moveB v) ∧ ∀ b ∈ (hullF D e p.boxes.xs.length).1, lowB' b := by
  have ok := check_ok.1 h0
  have ok' := check_ok.1 h0'
  obtain ⟨rfl, h2, h3⟩ := find_move h ok ok' hf hf'
  have hl := h.len
  refine ⟨?_, ?_, ?_, ?_⟩
  · unfold countF
    rw [h2, h3]
  · unfold hullF
    rw [h2]
    split
    · rfl
    · split <;> rfl
  · by_cases hz : (hullF D e p.boxes.xs.length).2 = 0
    · have hz' : (hullF D' e q.boxes.xs.length).2 = 0 := by
        unfold hullF at hz ⊢
        rw [← h2]
        split
        · rename_i he; rw [if_pos he] at hz; exact hz
        · rename_i he
          rw [if_neg he] at hz
          split
          · rename_i hd; rw [if_pos hd] at hz; simp at hz
          · rfl
      obtain ⟨_, _, c3, c4⟩ := hull_sem (.inr ⟨h0, hf⟩) hz
      obtain ⟨_, _, d3, d4⟩ := hull_sem (.inr ⟨h0', hf'⟩) hz'
      refine List.ext_getElem (by rw [List.length_map, c3, d3, hl]) fun i a b => ?_
      have hi : i < p.boxes.xs.length := by omega
      have u := hull_move h ok hi (c4 i hi)
      have w := d4 i (by omega)
      have := w.unique u
      rw [getElem!_pos _ i a, getElem!_pos _ i (by omega)] at this
      rw [this, List.getElem_map]
    · have e1 : (hullF D e p.boxes.xs.length).1 = [] := by
        unfold hullF at hz ⊢
        split
        · rfl
        · rename_i he
          rw [if_neg he] at hz
          split
          · rfl
          · rename_i hd; rw [if_neg hd] at hz; simp at hz
      have e2 : (hullF D' e q.boxes.xs.length).1 = [] := by
        unfold hullF at hz ⊢
        rw [← h2]
        split
        · rfl
        · rename_i he
          rw [if_neg he] at hz
          split
          · rfl
          · rename_i hd; rw [if_neg hd] at hz; simp at hz
      rw [e1, e2]; rfl
  · intro b hb
    by_cases hz : (hullF D e p.boxes.xs.length).2 = 0
    · obtain ⟨_, _, c3, c4⟩ := hull_sem (.inr ⟨h0, hf⟩) hz
      obtain ⟨i, hi, rfl⟩ := List.mem_iff_getElem.1 hb
      have hi' : i < p.boxes.xs.length := by omega
      have u := c4 i hi'
      rw [getElem!_pos _ i hi] at u
      have hv := valid_low (ok.valid _ (List.getElem_mem hi'))
      have hin : ∀ pts, Solv p pts → inB' pts[i]! p.boxes.xs[i] := fun pts hs => by
        have := hs.inn i (by rw [hs.len]; exact hi') hi'
        rwa [getElem!_pos pts i (by rw [hs.len]; exact hi')]
      obtain ⟨p0, s0, q0⟩ := u.x0
      obtain ⟨p1, s1, q1⟩ := u.x1
      obtain ⟨p2, s2, q2⟩ := u.y0
      obtain ⟨p3, s3, q3⟩ := u.y1
      have a0 := hin _ s0
      have a1 := hin _ s1
      have a2 := hin _ s2
      have a3 := hin _ s3
      unfold inB' at a0 a1 a2 a3
      unfold lowB' at hv ⊢
      omega
    · exfalso
      have e1 : (hullF D e p.boxes.xs.length).1 = [] := by
        unfold hullF at hz ⊢
        split
        · rfl
        · rename_i he
          rw [if_neg he] at hz
          split
          · rfl
          · rename_i hd; rw [if_neg hd] at hz; simp at hz
      rw [e1] at hb
      simp at hb
theorem moved_dec {v : Pt} {p q : Problem} (h : Mv v p q) (h0 : checkS p = 0) (h0' : checkS q = 0) (hlf : q.facts.xs.length = p.facts.xs.length) (f : Fact) {D1 D2 D3 : FoundD} {e1 e2 e3 : Int} (hd : furtherF p f = 0 → FindOut p D1 e1 ∧ FindOut (withP p f false) D2 e2 ∧ FindOut (withP p f true) D3 e3)
    {D4 D5 D6 : FoundD} {e4 e5 e6 : Int} (hd' : furtherF q f = 0 → FindOut q D4 e4 ∧ FindOut (withP q f false) D5 e5 ∧ FindOut (withP q f true) D6 e6) :
    decideF (furtherF p f) D1 e1 D2 e2 D3 e3 = decideF (furtherF q f) D4 e4 D5 e5 D6 e6 := by
  have ef : furtherF q f = furtherF p f := by
    unfold furtherF
    rw [h0, h0', h.len, hlf]
  by_cases hz : furtherF p f = 0
  · have hz' : furtherF q f = 0 := by rw [ef, hz]
    obtain ⟨f1, f2, f3⟩ := hd hz
    obtain ⟨f4, f5, f6⟩ := hd' hz'
    have hw : ∀ t, Mv v (withP p f t) (withP q f t) := fun t => ⟨h.boxes, fun g => by
      show g ∈ q.facts.xs ++ [turnF f t] ↔ g ∈ p.facts.xs ++ [turnF f t]
      rw [List.mem_append, List.mem_append, h.facts]⟩
    obtain ⟨_, o2, _⟩ := with_ok (t := false) hz
    obtain ⟨_, o3, _⟩ := with_ok (t := true) hz
    obtain ⟨_, o5, _⟩ := with_ok (t := false) hz'
    obtain ⟨_, o6, _⟩ := with_ok (t := true) hz'
    obtain ⟨rfl, a1, _⟩ := find_move h (check_ok.1 h0) (check_ok.1 h0') f1 f4
    obtain ⟨rfl, a2, _⟩ := find_move (hw false) o2 o5 f2 f5
    obtain ⟨rfl, a3, _⟩ := find_move (hw true) o3 o6 f3 f6
    unfold decideF
    rw [ef, a1, a2, a3]
  · have hz' : furtherF q f ≠ 0 := by rw [ef]; exact hz
    unfold decideF
    rw [if_pos hz, if_pos hz', ef]
theorem moved_law (p : Problem) (f : Fact) (v : Pt) : callP G 61 7 [.agg p.cells, .agg f.cells, .agg v.cells] = some (.bool true) := by
  refine callP_of (n := 60) (ext_none _) rfl g7 rfl ?_
  have hh := d_headM
  have hs := fun H => call_pureC (G := G) (n := 60) (H := H) (caps := []) (ps := [.agg p.cells]) sh19 (e19 57 p)
  have hck := fun H => call_pureC (G := G) (n := 60) (H := H) (caps := []) (ps := [.agg p.cells]) sh11 (e11 57 p)
  simp only [Problem.cells, List.map_cons, List.map_nil] at hs hck
  by_cases hP : fewB p = true ∧ p.boxes.xs.length ≤ 4 ∧ p.facts.xs.length ≤ 15 ∧ okV v ∧ checkS p = 0
  case neg =>
    obtain ⟨vx, vy⟩ := v
    unfold okV at hP
    simp only at hP
    by_cases q1 : fewB p = true
    · rw [q1] at hs
      by_cases q2 : p.boxes.xs.length ≤ 4
      · have q2I : ¬ (4 : Int) < p.boxes.xs.length := by omega
        by_cases q3 : p.facts.xs.length ≤ 15
        · have q3I : ¬ (15 : Int) < p.facts.xs.length := by omega
          by_cases q4 : vx < -2097152
          · clear hP; (repeat' first | simp [*, initEnv, c7, Problem.cells, Pt.cells] | (refine wpIf_two (fun _ h => ?_) (fun _ h => ?_) <;> try simp [-Nat.le_zero_eq] at h))
          by_cases q5 : 2097152 < vx
          · clear hP; (repeat' first | simp [*, initEnv, c7, Problem.cells, Pt.cells] | (refine wpIf_two (fun _ h => ?_) (fun _ h => ?_) <;> try simp [-Nat.le_zero_eq] at h))
          by_cases q6 : vy < -2097152
          · clear hP; (repeat' first | simp [*, initEnv, c7, Problem.cells, Pt.cells] | (refine wpIf_two (fun _ h => ?_) (fun _ h => ?_) <;> try simp [-Nat.le_zero_eq] at h))
          by_cases q7 : 2097152 < vy
          · clear hP; (repeat' first | simp [*, initEnv, c7, Problem.cells, Pt.cells] | (refine wpIf_two (fun _ h => ?_) (fun _ h => ?_) <;> try simp [-Nat.le_zero_eq] at h))
          have q8 : ¬ checkS p = 0 := fun h => hP ⟨q1, q2, q3, by omega, h⟩
          generalize checkS p = cc at *
          clear hP q1 q2 q3; (repeat' first | simp [*, initEnv, c7, Problem.cells, Pt.cells] | (refine wpIf_two (fun _ h => ?_) (fun _ h => ?_) <;> try simp [-Nat.le_zero_eq] at h))
        · have q3I : (15 : Int) < p.facts.xs.length := by omega
          clear hP; (repeat' first | simp [*, initEnv, c7, Problem.cells, Pt.cells] | (refine wpIf_two (fun _ h => ?_) (fun _ h => ?_) <;> try simp [-Nat.le_zero_eq] at h))
      · have q2I : (4 : Int) < p.boxes.xs.length := by omega
        clear hP; (repeat' first | simp [*, initEnv, c7, Problem.cells, Pt.cells] | (refine wpIf_two (fun _ h => ?_) (fun _ h => ?_) <;> try simp [-Nat.le_zero_eq] at h))
    · have q1' : fewB p = false := by simpa using q1
      rw [q1'] at hs
      clear hP; (repeat' first | simp [*, initEnv, c7, Problem.cells, Pt.cells] | (refine wpIf_two (fun _ h => ?_) (fun _ h => ?_) <;> try simp [-Nat.le_zero_eq] at h))
  obtain ⟨q1, q2, q3, hv, h0⟩ := hP
  have ok := check_ok.1 h0
  have hmv := movedP_mv p v
  have hm := fun H => call_pureC (G := G) (n := 60) (H := H) (caps := []) (ps := [.agg p.cells, .agg v.cells]) sh27 (e27 59 p v ⟨by omega, by omega⟩ (fun b hb => valid_low (ok.valid b hb)) hv)
  have hck2 := fun H => call_pureC (G := G) (n := 60) (H := H) (caps := []) (ps := [.agg (movedP p v).cells]) sh11 (e11 57 (movedP p v))
  have q2I : ¬ (4 : Int) < p.boxes.xs.length := by omega
  have q3I : ¬ (15 : Int) < p.facts.xs.length := by omega
  have w1 : ¬ v.x < -2097152 := by unfold okV at hv; omega
  have w2 : ¬ 2097152 < v.x := by unfold okV at hv; omega
  have w3 : ¬ v.y < -2097152 := by unfold okV at hv; omega
  have w4 : ¬ 2097152 < v.y := by unfold okV at hv; omega
  rw [q1] at hs
  rw [h0] at hck
  have hlf : (movedP p v).facts.xs.length = p.facts.xs.length := by simp [movedP]
  by_cases h0' : checkS (movedP p v) = 0
  case neg =>
    generalize movedP p v = q at *
    generalize checkS q = cc at *
    simp only [Problem.cells, Pt.cells, List.map_cons, List.map_nil] at hm hck2
    clear hmv ok hlf q1 q2 q3 hv
    (repeat' first | simp [*, initEnv, c7, Problem.cells, Pt.cells] | (refine wpIf_two (fun _ h => ?_) (fun _ h => ?_) <;> try simp [-Nat.le_zero_eq] at h))
  rw [h0'] at hck2
  have ok' := check_ok.1 h0'
  obtain ⟨D, e, hf⟩ := find_ex ok
  obtain ⟨D', e', hf'⟩ := find_ex ok'
  obtain ⟨D1, e1, D2, e2, D3, e3, hd⟩ := decide_ex p f
  obtain ⟨D4, e4, D5, e5, D6, e6, hd'⟩ := decide_ex (movedP p v) f
  obtain ⟨m1, m2, m3, m4⟩ := moved_plain hmv h0 h0' hf hf'
  have m5 := moved_dec hmv h0 h0' hlf f hd hd'
  have s1 := find_seens ok hf
  have s2 := find_seens ok' hf'
  obtain ⟨r, hr⟩ := nar_ex (nar_anti ok) (nar_wf ok)
  have hr' := nar_move hmv ok hr
  have hlen' : (movedP p v).boxes.xs.length = p.boxes.xs.length := hmv.len
  -- the narrowed boxes
  obtain ⟨A, hA, hAx⟩ : ∃ A : Sl Box, narPV p r = A.pv Box.cells 4 ∧ A.xs = r.getD [] := by
    cases r with
    | none => exact ⟨.nil, rfl, rfl⟩
    | some l => obtain ⟨q, h1, h2⟩ := nar_sl hr.1.sub.1; exact ⟨q, h1, h2⟩
  obtain ⟨B, hB, hBx⟩ : ∃ B : Sl Box, narPV (movedP p v) (r.map (·.map (moveB v))) = B.pv Box.cells 4 ∧ B.xs = A.xs.map (moveB v) := by
    cases r with
    | none => exact ⟨.nil, rfl, by rw [hAx]; rfl⟩
    | some l => obtain ⟨q, h1, h2⟩ := nar_sl hr'.1.sub.1; exact ⟨q, h1, by rw [h2, hAx]; rfl⟩
  have hAl : A.xs.length ≤ 12 ∧ ∀ b ∈ A.xs, lowB' b := by
    rw [hAx]
    cases r with
    | none => exact ⟨by simp, fun b hb => by simp at hb⟩
    | some l =>
      refine ⟨?_, fun b hb => valid_low (valid_sub ok hr.1.sub hr.1.wf b hb)⟩
      have := hr.1.sub.1
      simp only [Option.getD_some]
      omega
  have hEr : errN (r.map (·.map (moveB v))) = errN r := by cases r <;> rfl
  have a1 := fun H => call_pureC (G := G) (n := 60) (H := H) (caps := []) (ps := [.agg p.cells]) sh20 (e20 52 p _ _ (.inr ⟨h0, r, hr, rfl, rfl⟩))
  have a2 := fun H => call_pureC (G := G) (n := 60) (H := H) (caps := []) (ps := [.agg (movedP p v).cells]) sh20 (e20 52 (movedP p v) _ _ (.inr ⟨h0', _, hr', rfl, rfl⟩))
  have a3 := fun H => call_pureC (G := G) (n := 60) (H := H) (caps := []) (ps := [.agg p.cells]) sh25 (e25 7 p D e (.inr ⟨h0, hf⟩) (.inl (by omega)) s1.1 (fun h s hs => (s1.2 h s hs).2))
  have a4 := fun H => call_pureC (G := G) (n := 60) (H := H) (caps := []) (ps := [.agg (movedP p v).cells]) sh25 (e25 7 (movedP p v) D' e' (.inr ⟨h0', hf'⟩) (.inl (by omega)) s2.1 (fun h s hs => (s2.2 h s hs).2))
  have a5 := fun H => call_pureC (G := G) (n := 60) (H := H) (caps := []) (ps := [.agg p.cells]) sh21 (e21 7 p D e (.inr ⟨h0, hf⟩) s1.1 (fun h s hs => (s1.2 h s hs).1))
  have a6 := fun H => call_pureC (G := G) (n := 60) (H := H) (caps := []) (ps := [.agg (movedP p v).cells]) sh21 (e21 7 (movedP p v) D' e' (.inr ⟨h0', hf'⟩) s2.1 (fun h s hs => (s2.2 h s hs).1))
  have a7 := fun H => call_pureC (G := G) (n := 60) (H := H) (caps := []) (ps := [.agg p.cells, .agg f.cells]) sh26 (e26 8 p f D1 D2 D3 e1 e2 e3 hd)
  have a8 := fun H => call_pureC (G := G) (n := 60) (H := H) (caps := []) (ps := [.agg (movedP p v).cells, .agg f.cells]) sh26 (e26 8 (movedP p v) f D4 D5 D6 e4 e5 e6 hd')
  have hHl : (hullF D e p.boxes.xs.length).1.length ≤ 12 := by
    unfold hullF
    split
    · simp
    · split
      · simp
      · simp; omega
  obtain ⟨C, hC, hCx⟩ : ∃ C : Sl Box, Sl.of (hullF D e p.boxes.xs.length).1 = C ∧ C.xs = (hullF D e p.boxes.xs.length).1 := ⟨_, rfl, Sl.xs_of _⟩
  obtain ⟨E, hE, hEx⟩ : ∃ E : Sl Box, Sl.of (hullF D' e' (movedP p v).boxes.xs.length).1 = E ∧ E.xs = C.xs.map (moveB v) := ⟨_, rfl, by rw [Sl.xs_of, m3, hCx]⟩
  have b1 := fun H => call_pureC (G := G) (n := 60) (H := H) (caps := []) (ps := [.agg (Problem.mk A .nil).cells, .agg v.cells]) sh27 (e27 59 ⟨A, .nil⟩ v ⟨by show A.xs.length ≤ 100; omega, by simp⟩ hAl.2 hv)
  have b2 := fun H => call_pureC (G := G) (n := 60) (H := H) (caps := []) (ps := [.agg (Problem.mk C .nil).cells, .agg v.cells]) sh27 (e27 59 ⟨C, .nil⟩ v ⟨by show C.xs.length ≤ 100; rw [hCx]; omega, by simp⟩ (by show ∀ b ∈ C.xs, lowB' b; rw [hCx]; exact m4) hv)
  have b3 := fun H => call_pureC (G := G) (n := 60) (H := H) (caps := []) (ps := [(Sl.of (A.xs.map (moveB v))).pv Box.cells 4, B.pv Box.cells 4]) sh22 (e22 59 (.of (A.xs.map (moveB v))) B (by rw [Sl.xs_of, hBx]) (by rw [Sl.xs_of, List.length_map]; omega))
  have b4 := fun H => call_pureC (G := G) (n := 60) (H := H) (caps := []) (ps := [(Sl.of (C.xs.map (moveB v))).pv Box.cells 4, E.pv Box.cells 4]) sh22 (e22 59 (.of (C.xs.map (moveB v))) E (by rw [Sl.xs_of, hEx]) (by rw [Sl.xs_of, List.length_map, hCx]; omega))
  have hmA : movedP ⟨A, .nil⟩ v = ⟨.of (A.xs.map (moveB v)), .nil⟩ := rfl
  have hmC : movedP ⟨C, .nil⟩ v = ⟨.of (C.xs.map (moveB v)), .nil⟩ := rfl
  rw [hA] at a1
  rw [hB, hEr] at a2
  rw [hC] at a3
  rw [hE, ← m2] at a4
  rw [← m1] at a6
  rw [← m5] at a8
  rw [hmA] at b1
  rw [hmC] at b2
  generalize countF D e = v1 at *
  generalize (hullF D e p.boxes.xs.length).2 = v2 at *
  generalize decideF (furtherF p f) D1 e1 D2 e2 D3 e3 = v3 at *
  generalize errN r = v4 at *
  obtain ⟨n1, n2⟩ := v1
  obtain ⟨n3, n4⟩ := v3
  generalize Sl.of (A.xs.map (moveB v)) = A' at *
  generalize Sl.of (C.xs.map (moveB v)) = C' at *
  generalize movedP p v = q at *
  simp only [Problem.cells, Fact.cells, Span.cells, Pt.cells, List.map_cons, List.map_nil, Sl.pv_nil] at a1 a2 a3 a4 a5 a6 a7 a8 b1 b2 b3 b4 hm hck2
  clear m1 m2 m3 m4 m5 s1 s2 hr hr' hlen' hA hAx hB hBx hAl hEr hHl hC hCx hE hEx hmA hmC hf hf' hd hd' ok ok' h0 h0' hlf hmv q1 q2 q3 hv
  (repeat' first | simp [*, initEnv, c7, Problem.cells, Fact.cells, Span.cells, Pt.cells] | (refine wpIf_two (fun _ h => ?_) (fun _ h => ?_) <;> try simp [-Nat.le_zero_eq] at h))
end Go.Proofs.Ytmghcpdpilgplaa.Vm
