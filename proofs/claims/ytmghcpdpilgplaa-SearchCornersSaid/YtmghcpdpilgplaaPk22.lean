/- The chapter's examples: head() returns true, by the machine's own runs in the kernel. The law SearchCorners, on the machine. -/
import Derived.Test.YtmghcpdpilgplaaPk14
import Derived.Test.YtmghcpdpilgplaaPk21
import Derived.Test.YtmghcpdpilgplaaPk9
import Derived.KernelRfl
import Derived.Test.YtmghcpdpilgplaaPk20
namespace Go.Proofs.Ytmghcpdpilgplaa.Vm
open Go
set_option linter.unusedSimpArgs false
set_option linter.unusedVariables false
set_option maxHeartbeats 4000000
def iP (n : Int) : PV := .int .i64 n
def pP (a b c d : Int) : PV := .slice false 2 [[iP a, iP b], [iP c, iP d]]
def exB (a b c d : Int) : List PV := [.int .i64 a, .int .i64 b, .int .i64 c, .int .i64 d]
def exF (id kind lo hi : Int) : List PV := [.int .i64 id, .int .i64 kind, .bool false, .int .i64 0, .int .i64 1, .int .i64 0, .int .i64 lo, .int .i64 hi, .int .i64 0]
def exN : List PV := [.int .i64 0, .int .i64 6, .bool true, .int .i64 0, .int .i64 1, .int .i64 0, .int .i64 1, .int .i64 5, .int .i64 0]
def exPr (fs : List (List PV)) : PV := .agg [.slice false 4 [exB 0 0 0 0, exB (-5) 5 (-5) 5], .slice false 9 fs]
def exP : PV := exPr [exF 4 1 25 25, exF 7 3 0 0]
def exQ : PV := exPr [exF 4 1 25 25, exF 7 3 0 0, exF 9 5 2 2]
theorem ex_run : callP G 59 32 [] = some exP := by kernel_rfl
theorem narrow_run : callP G 59 20 [exP] = some (.tup [.slice false 4 [exB 0 0 0 0, exB 3 5 (-4) 4], .int .i64 0]) := by kernel_rfl
theorem count_run : callP G 59 21 [exP] = some (.tup [.int .i64 3, .int .i64 0]) := by kernel_rfl
theorem hull_run : callP G 59 25 [exP] = some (.tup [.slice false 4 [exB 0 0 0 0, exB 4 5 (-3) 3], .int .i64 0]) := by kernel_rfl
theorem dec_run2 : callP G 59 26 [exP, .agg (exF 0 1 20 30)] = some (.tup [.int .i64 2, .int .i64 0]) := by kernel_rfl
theorem with_run : callP G 59 23 [exP, .agg (exF 9 5 2 2)] = some exQ := by kernel_rfl
def fr0 : PV := (.tup [(.agg [(.bool false), (.slice false 1 [[(.ptr false [(.slice false 1 [[(iP 0)], [(iP 1)]]), (iP 3), (.slice false 4 [[(pP 0 0 4 (-3)), (pP 0 0 4 (-3)), (pP 0 0 4 (-3)), (pP 0 0 4 (-3))], [(pP 0 0 4 (-3)), (pP 0 0 5 0), (pP 0 0 4 (-3)), (pP 0 0 4 3)]]), (pP 0 0 4 (-3))] 0)]])]), (iP 0)])
theorem find_run0 : callP G 58 48 [exP] = some fr0 := by kernel_rfl
def fr1 : PV := (.tup [(.agg [(.bool false), (.slice false 1 [[(.ptr false [(.slice false 1 [[(iP 0)], [(iP 1)]]), (iP 1), (.slice false 4 [[(pP 0 0 4 3), (pP 0 0 4 3), (pP 0 0 4 3), (pP 0 0 4 3)], [(pP 0 0 4 3), (pP 0 0 4 3), (pP 0 0 4 3), (pP 0 0 4 3)]]), (pP 0 0 4 3)] 0)]])]), (iP 0)])
theorem find_run1 : callP G 58 48 [exPr [exF 4 1 25 25, exF 7 3 0 0, exF 0 6 1 5]] = some fr1 := by kernel_rfl
def fr2 : PV := (.tup [(.agg [(.bool false), (.slice false 1 [[(.ptr false [(.slice false 1 [[(iP 0)], [(iP 1)]]), (iP 2), (.slice false 4 [[(pP 0 0 4 (-3)), (pP 0 0 4 (-3)), (pP 0 0 4 (-3)), (pP 0 0 4 (-3))], [(pP 0 0 4 (-3)), (pP 0 0 5 0), (pP 0 0 4 (-3)), (pP 0 0 5 0)]]), (pP 0 0 4 (-3))] 0)]])]), (iP 0)])
theorem find_run2 : callP G 58 48 [exPr [exF 4 1 25 25, exF 7 3 0 0, exN]] = some fr2 := by kernel_rfl
def fr3 : PV := (.tup [(.agg [(.bool true), .nils]), (iP 0)])
theorem find_run3 : callP G 58 45 [exQ] = some fr3 := by kernel_rfl
def fr4 : PV := (.tup [(.agg [(.bool false), (.slice false 1 [[(.ptr false [(.slice false 1 [[(iP 0)], [(iP 1)]]), (iP 5), (.slice false 4 [[(pP 0 0 2 (-2)), (pP 0 0 2 (-2)), (pP 0 0 2 (-2)), (pP 0 0 2 (-2))], [(pP 0 0 2 (-2)), (pP 0 0 2 (-2)), (pP 0 0 2 (-2)), (pP 0 0 2 2)]]), (pP 0 0 2 (-2))] 0)]])]), (iP 0)])
theorem find_run4 : callP G 58 48 [exPr [exF 7 3 0 0, exF 9 5 2 2]] = some fr4 := by kernel_rfl
def fr5 : PV := (.tup [(.agg [(.bool true), .nils]), (iP 0)])
theorem find_run5 : callP G 58 48 [exPr [exF 4 1 25 25, exF 9 5 2 2]] = some fr5 := by kernel_rfl
def fr6 : PV := (.tup [(.agg [(.bool false), (.slice false 1 [[(.ptr false [(.slice false 1 [[(iP 0)], [(iP 1)]]), (iP 12), (.slice false 4 [[(pP 0 0 (-5) 0), (pP 0 0 (-5) 0), (pP 0 0 (-5) 0), (pP 0 0 (-5) 0)], [(pP 0 0 (-5) 0), (pP 0 0 5 0), (pP 0 0 0 (-5)), (pP 0 0 0 5)]]), (pP 0 0 (-5) 0)] 0)]])]), (iP 0)])
theorem find_run6 : callP G 58 48 [exPr [exF 4 1 25 25]] = some fr6 := by kernel_rfl
def tabD : Tab := [(48, [exP], fr0), (48, [exPr [exF 4 1 25 25, exF 7 3 0 0, exF 0 6 1 5]], fr1), (48, [exPr [exF 4 1 25 25, exF 7 3 0 0, exN]], fr2)]
theorem tabD_ok : ∀ e ∈ tabD, callP G 58 e.1 e.2.1 = some e.2.2 := all_cons find_run0 <| all_cons find_run1 <| all_cons find_run2 all_nil
theorem dec_run1 : callP G 59 26 [exP, .agg (exF 0 6 1 5)] = some (.tup [.int .i64 3, .int .i64 0]) := callP_tab (n := 58) (fs := [48]) rfl rfl tabD_ok (by kernel_rfl)
def tabC : Tab := [(45, [exQ], fr3), (48, [exPr [exF 7 3 0 0, exF 9 5 2 2]], fr4), (48, [exPr [exF 4 1 25 25, exF 9 5 2 2]], fr5), (48, [exPr [exF 4 1 25 25]], fr6)]
theorem tabC_ok : ∀ e ∈ tabC, callP G 58 e.1 e.2.1 = some e.2.2 := all_cons find_run3 <| all_cons find_run4 <| all_cons find_run5 <| all_cons find_run6 all_nil
theorem core_run : callP G 59 33 [exQ] = some (.tup [.slice false 1 [[.int .i64 4], [.int .i64 9]], .int .i64 0]) := callP_tab (n := 58) (fs := [48, 45]) rfl rfl tabC_ok (by kernel_rfl)
def tabH : Tab := [(32, [], exP), (20, [exP], .tup [.slice false 4 [exB 0 0 0 0, exB 3 5 (-4) 4], .int .i64 0]), (21, [exP], .tup [.int .i64 3, .int .i64 0]), (25, [exP], .tup [.slice false 4 [exB 0 0 0 0, exB 4 5 (-3) 3], .int .i64 0]),
  (26, [exP, .agg (exF 0 6 1 5)], .tup [.int .i64 3, .int .i64 0]), (26, [exP, .agg (exF 0 1 20 30)], .tup [.int .i64 2, .int .i64 0]), (23, [exP, .agg (exF 9 5 2 2)], exQ), (33, [exQ], .tup [.slice false 1 [[.int .i64 4], [.int .i64 9]], .int .i64 0])]
theorem tabH_ok : ∀ e ∈ tabH, callP G 59 e.1 e.2.1 = some e.2.2 := all_cons ex_run <| all_cons narrow_run <| all_cons count_run <| all_cons hull_run <| all_cons dec_run1 <| all_cons dec_run2 <| all_cons with_run <| all_cons core_run all_nil
theorem head_run : callP G 60 9 [] = some (.bool true) := callP_tab (n := 59) (fs := [32, 20, 21, 25, 26, 23, 33]) rfl rfl tabH_ok (by kernel_rfl)
end Go.Proofs.Ytmghcpdpilgplaa.Vm

namespace Go.Proofs.Ytmghcpdpilgplaa.Vm
open Go
set_option linter.unusedSimpArgs false
set_option linter.unusedVariables false
set_option maxHeartbeats 4000000
set_option maxRecDepth 4000

theorem sh_headK : G.shared 9 = false := by decide
theorem d_headK (H : Heap) : doCall (calleeOf G 60) H (.pure (.func 9 [])) [] = some (.val (.pure (.bool true))) := call_pure (ps := []) sh_headK head_run
theorem rows_len {b : Box} (h : okT b = true) : (rowsX b).length ≤ 3721 := by
  have := okT_iff.1 h
  unfold rowsX
  rw [flat_length _ (numsS b.x).length _ (fun a _ => by rw [List.length_map]), nums_length, nums_length]
  have h1 : (b.y.hi - b.y.lo + 1).toNat ≤ 61 := by omega
  have h2 : (b.x.hi - b.x.lo + 1).toNat ≤ 61 := by omega
  exact Nat.le_trans (Nat.mul_le_mul h1 h2) (by decide)
theorem allX_len : ∀ {l : List Box}, (∀ b ∈ l, okT b = true) → (allX l).length ≤ 3721 ^ l.length
  | [], _ => by simp [allX]
  | b :: l, h => by
    unfold allX
    rw [flat_length _ (rowsX b).length _ (fun a _ => by rw [List.length_map]), List.length_cons, Nat.pow_succ]
    exact Nat.mul_le_mul (allX_len fun x hx => h x (by simp [hx])) (rows_len (h b (by simp)))
/-- The loop over all choices: what was seen. -/
structure CornJ (l : List Box) (hv : List Pt → Bool) (id : Nat) (s : List (List Pt)) (H : Heap) (h a : Int) : Prop where
  pre : ∃ pre, pre ++ s = allX l ∧ h = (pre.countP hv : Nat) ∧ a = (pre.length : Nat)
  run : ∀ c rest, s = c :: rest → Runs (stepL l) c s ∧ H.get id = .cells true (rowOf Pt.cells c)
theorem count_zero {α : Type} {p : α → Bool} {l : List α} : 0 < (l.countP p : Nat) ↔ ∃ c ∈ l, p c = true := List.countP_pos_iff
theorem count_all {α : Type} {p : α → Bool} {l : List α} : (l.countP p : Nat) = l.length ↔ ∀ c ∈ l, p c = true := List.countP_eq_length
theorem runs_tail {l : List Box} {c : List Pt} {rest : List (List Pt)} (h : Runs (stepL l) c (c :: rest)) : (stepL l c = none ∧ rest = []) ∨ ∃ t r2, stepL l c = some t ∧ rest = t :: r2 ∧ Runs (stepL l) t rest := by
  cases h with
  | last _ h => exact .inl ⟨h, rfl⟩
  | step _ b _ h hl =>
    cases hl with
    | last _ h2 => exact .inr ⟨b, [], h, rfl, .last _ h2⟩
    | step _ b2 l2 h2 hl2 => exact .inr ⟨b, _, h, rfl, .step _ _ _ h2 hl2⟩
theorem runs_hd {α : Type} {f : α → Option α} {a : α} {l : List α} (h : Runs f a l) : ∃ r, l = a :: r := by
  cases h with
  | last _ h => exact ⟨_, rfl⟩
  | step _ b _ h hl => exact ⟨_, rfl⟩
theorem corners_law (f : Fact) (l : Sl Box) (hl : l.xs.length ≤ 9223372036854775807) : callP G 61 4 [.agg f.cells, l.pv Box.cells 4] = some (.bool true) := by
  refine callP_of (n := 60) (ext_none _) rfl g4 rfl ?_
  have hh := d_headK
  have ht := fun H => call_pureC (G := G) (n := 60) (H := H) (caps := []) (ps := [l.pv Box.cells 4]) sh13 (e13 59 l hl)
  simp only [List.map_cons, List.map_nil] at ht
  cases htb : tinyB l.xs with
  | false =>
    rw [htb] at ht
    clear htb
    (repeat' first | simp [*, initEnv, c4, Fact.cells] | (refine wpIf_two (fun _ h => ?_) (fun _ h => ?_) <;> try simp [-Nat.le_zero_eq] at h) | (apply wpE_appendV; (focus (first | assumption | (repeat' first | assumption | with_reducible apply GrowV.setNew | with_reducible apply GrowV.alloc | with_reducible apply GrowV.set | (with_reducible show ¬ Names _ _; simp [*]; done)))); (focus (exact fun _ => rfl)); (focus decide); (focus (intro a; first | rfl | simp)); (focus (simp [maxCells] <;> omega))) | (refine after_intro fun v2 H2 hv2 hnx2 hget2 hnew2 hone2 hcel2 => ?_))
  | true =>
  rw [htb] at ht
  have hok : ∀ b ∈ l.xs, okT b = true ∧ True := fun b hb => by
    unfold tinyB at htb
    rw [Bool.and_eq_true] at htb
    exact ⟨tinyF_ok htb.1 b hb, trivial⟩
  have hok : ∀ b ∈ l.xs, okT b = true := fun b hb => (hok b hb).1
  have h3 : l.xs.length = 3 := by
    unfold tinyB at htb
    rw [Bool.and_eq_true] at htb
    simpa using htb.2
  have hokH := Hide.mk hok
  have h3H := Hide.mk h3
  have hlI : (l.xs.length : Int) = 3 := by omega
  clear htb hok h3 hl
  (repeat' first | simp [*, initEnv, c4, Fact.cells] | (refine wpIf_two (fun _ h => ?_) (fun _ h => ?_) <;> try simp [-Nat.le_zero_eq] at h) | (apply wpE_appendV; (focus (first | assumption | (repeat' first | assumption | with_reducible apply GrowV.setNew | with_reducible apply GrowV.alloc | with_reducible apply GrowV.set | (with_reducible show ¬ Names _ _; simp [*]; done)))); (focus (exact fun _ => rfl)); (focus decide); (focus (intro a; first | rfl | simp)); (focus (simp [maxCells] <;> omega))) | (refine after_intro fun v2 H2 hv2 hnx2 hget2 hnew2 hone2 hcel2 => ?_))
  refine wp_loopF [(7, 8), (25, 46)] (fun (i : Nat) env H => env 8 = .pure (.int .i64 i) ∧ i ≤ 3 ∧ GrowV Pt.cells 2 H (env 7) ((l.xs.map lowB).take i) ∧ 2 ≤ H.nx ∧ (∀ id, Names (env 7) id → 2 ≤ id) ∧
    H.get 0 = .cells true ((withNot f false).cells.map .pure) ∧ H.get 1 = .cells true ((withNot f true).cells.map .pure)) (fun i => 3 - i) 0 ?_ ?_ ?_ ?_
  · decide
  · exact ⟨by simp, by omega, by simpa using GrowV.nil, by simp, fun id h => by obtain ⟨_, _, _, h⟩ := h; simp at h, by simp [withNot, Fact.cells], by simp [withNot, Fact.cells]⟩
  · simp only [loopFuel]; omega
  rintro i env H ⟨g8, hi, hv1, hnx, hnm, h0, h1⟩
  generalize g7 : env 7 = v at *
  by_cases hlt : i < 3
  · have hlt' : i < l.xs.length := by have := h3H.h; omega
    have w1 : IntKind.i64.wrap ((i : Int) + 1) = (i + 1 : Nat) := by rw [wrap64 (by omega) (by omega)]; omega
    have htl : ((l.xs.map lowB).take i).length = i := by simp; omega
    have hst := Hide.mk (map_take_succ (f := lowB) hlt')
    have hltI : (i : Int) < 3 := by omega
    have hnmH := Hide.mk hnm
    clear hnm
    (repeat' first | simp [*, initEnv, Box.cells, Span.cells] | (refine wpIf_two (fun _ h => ?_) (fun _ h => ?_) <;> try simp [-Nat.le_zero_eq] at h) | (apply wpE_appendV; (focus (first | assumption | (repeat' first | assumption | with_reducible apply GrowV.setNew | with_reducible apply GrowV.alloc | with_reducible apply GrowV.set | (with_reducible show ¬ Names _ _; simp [*]; done)))); (focus (exact fun _ => rfl)); (focus decide); (focus (intro a; first | rfl | simp)); (focus (simp [maxCells] <;> omega))) | (refine after_intro fun v2 H2 hv2 hnx2 hget2 hnew2 hone2 hcel2 => ?_))
    have e0 := hget2 0 (by simp <;> omega) (fun h => by have := hnmH.h 0 h; omega)
    have e1 := hget2 1 (by simp <;> omega) (fun h => by have := hnmH.h 1 h; omega)
    rw [get_alloc_lt (by omega)] at e0 e1
    refine ⟨i + 1, by omega, by omega, by omega, hv2.cast hst.h, by simp at hnx2; omega, fun id h => by have := hnew2 id h; simp at this; omega, e0.trans h0, e1.trans h1⟩
  · have hi3 : i = 3 := by omega
    subst hi3
    have hv1 := hv1.cast (m := l.xs.map lowB) (List.take_of_length_le (by rw [List.length_map]; have := h3H.h; omega))
    have hne : l.xs.map lowB ≠ [] := by intro e; have := congrArg List.length e; rw [List.length_map, h3H.h] at this; simp at this
    obtain ⟨id, rfl, hg⟩ := hv1.1.row hne
    have hid2 : 2 ≤ id := hnm id ⟨_, _, _, rfl⟩
    have hidn := nx_of_get hg
    rw [List.length_map, h3H.h] at g7
    clear hv1 hnm hne hlt hi
    (repeat' first | simp [*, initEnv] | (refine wpIf_two (fun _ h => ?_) (fun _ h => ?_) <;> try simp [-Nat.le_zero_eq] at h) | (apply wpE_appendV; (focus (first | assumption | (repeat' first | assumption | with_reducible apply GrowV.setNew | with_reducible apply GrowV.alloc | with_reducible apply GrowV.set | (with_reducible show ¬ Names _ _; simp [*]; done)))); (focus (exact fun _ => rfl)); (focus decide); (focus (intro a; first | rfl | simp)); (focus (simp [maxCells] <;> omega))) | (refine after_intro fun v2 H2 hv2 hnx2 hget2 hnew2 hone2 hcel2 => ?_))
    have gR : ∀ o : AObj, o = AObj.cells true ((withNot f false).cells.map .pure) → (H.alloc o).get H.nx = .cells true (rowOf Fact.cells [withNot f false]) := fun o ho => by subst ho; rw [get_alloc_new]; simp [rowOf]
    obtain ⟨s1, hs1, hf1⟩ := row_sl (n := 9) (f := Fact.cells) (sz := 9) (fun _ => rfl) (gR (AObj.cells true ((withNot f false).cells.map .pure)) rfl) (show [withNot f false].length = 1 from rfl)
    have hCk := e11 57 ⟨l, s1⟩
    have hfz := FrzK.aggV (n := 11) (.cons (.pure (l.pv Box.cells 4)) (.cons hf1 .nil))
    refine wpE_own (caps := []) (ps := [.agg [l.pv Box.cells 4, s1.pv Fact.cells 9]]) (by decide) (.cons hfz .nil) hCk rfl ?_
    have hiff : checkS ⟨l, s1⟩ = 0 ↔ fineB (withNot f false) l.xs = true := by
      rw [check_ok]
      unfold fineB
      rw [Bool.and_eq_true, List.all_eq_true]
      constructor
      · intro h
        exact ⟨fun b hb => by have := h.valid b hb; exact this, h.fact _ (by rw [hs1]; simp)⟩
      · intro h
        refine ⟨by have := h3H.h; show l.xs.length ≤ 12; omega, by rw [hs1]; simp, fun b hb => (okT_box (hokH.h b hb)).1, fun g hg => ?_⟩
        rw [hs1] at hg
        simp only [List.mem_singleton] at hg
        subst hg
        exact h.2
    have h3L : l.xs.length < 1000 := by have := h3H.h; omega
    have a1 := fun H => call_pureC (G := G) (n := 60) (H := H) (caps := []) (ps := [.agg (withNot f false).cells, l.pv Box.cells 4]) sh14 (e14 55 (withNot f false) l h3L)
    have a2 := fun H => call_pureC (G := G) (n := 60) (H := H) (caps := []) (ps := [.agg (withNot f false).cells, l.pv Box.cells 4]) sh15 (e15 55 (withNot f false) l h3L)
    have a3 := fun H => call_pureC (G := G) (n := 60) (H := H) (caps := []) (ps := [.agg (withNot f false).cells, l.pv Box.cells 4]) sh16 (e16 54 (withNot f false) l h3L)
    have a4 := fun H => call_pureC (G := G) (n := 60) (H := H) (caps := []) (ps := [.agg (withNot f true).cells, l.pv Box.cells 4]) sh16 (e16 54 (withNot f true) l h3L)
    simp only [Fact.cells, List.map_cons, List.map_nil] at a1 a2 a3 a4
    generalize checkS ⟨l, s1⟩ = ck at *
    have h0' : (H.alloc (AObj.cells true ((withNot f false).cells.map .pure))).get 0 = .cells true ((withNot f false).cells.map .pure) := by rw [get_alloc_lt (by omega)]; exact h0
    have h1' : (H.alloc (AObj.cells true ((withNot f false).cells.map .pure))).get 1 = .cells true ((withNot f true).cells.map .pure) := by rw [get_alloc_lt (by omega)]; exact h1
    have hgA : (H.alloc (AObj.cells true ((withNot f false).cells.map .pure))).get id = .cells true (rowOf Pt.cells (l.xs.map lowB)) := by rw [get_alloc_lt (by omega)]; exact hg
    simp only [Fact.cells, List.map_cons, List.map_nil] at h0' h1' hgA
    have hnA : H.nx + 1 = (H.alloc (AObj.cells true ((withNot f false).cells.map .pure))).nx := rfl
    simp only [Fact.cells, List.map_cons, List.map_nil] at hnA
    clear hCk hfz hf1 hs1 gR h0 h1 hg
    generalize (H.alloc (AObj.cells true [AV.pure (.int .i64 (withNot f false).id), AV.pure (.int .i64 (withNot f false).kind), AV.pure (.bool (withNot f false).nt), AV.pure (.int .i64 (withNot f false).a), AV.pure (.int .i64 (withNot f false).b), AV.pure (.int .i64 (withNot f false).c), AV.pure (.int .i64 (withNot f false).span.lo), AV.pure (.int .i64 (withNot f false).span.hi), AV.pure (.int .i64 (withNot f false).quarter)])) = HA at *
    cases hfi : fineB (withNot f false) l.xs with
    | false =>
      have hck : ¬ ck = 0 := by rw [hiff, hfi]; simp
      rw [hfi] at a1 a2 a3
      clear hiff a4 hfi
      (repeat' first | simp [*, initEnv] | (refine wpIf_two (fun _ h => ?_) (fun _ h => ?_) <;> try simp [-Nat.le_zero_eq] at h) | (apply wpE_appendV; (focus (first | assumption | (repeat' first | assumption | with_reducible apply GrowV.setNew | with_reducible apply GrowV.alloc | with_reducible apply GrowV.set | (with_reducible show ¬ Names _ _; simp [*]; done)))); (focus (exact fun _ => rfl)); (focus decide); (focus (intro a; first | rfl | simp)); (focus (simp [maxCells] <;> omega))) | (refine after_intro fun v2 H2 hv2 hnx2 hget2 hnew2 hone2 hcel2 => ?_))
    | true =>
      have hck : ck = 0 := hiff.2 hfi
      subst hck
      have hfL : fineB f l.xs = true := hfi
      have hfL1 : fineB (withNot f true) l.xs = true := hfi
      rw [hfi] at a1 a2 a3
      rw [hfL1] at a4
      have b3 : failsS (withNot f false) l.xs = !(bareS f l.xs).1 := by simp [failsS, withNot, bareS]
      have b4 : failsS (withNot f true) l.xs = (bareS f l.xs).2 := by simp [failsS, withNot, bareS]
      rw [b3, Bool.true_and] at a3
      rw [b4, Bool.true_and] at a4
      rw [bare_not, Bool.true_and] at a1 a2
      have hall := allX_len hokH.h
      rw [h3H.h] at hall
      have hall : (allX l.xs).length ≤ 51520374361 := hall
      have hallH := Hide.mk hall
      have hwf : Wf l.xs := fun b hb => (okT_box (hokH.h b hb)).2.1
      have hruns := runs_all hwf
      have hmu := Hide.mk (corn_must hokH.h hfL h3H.h)
      have hca := Hide.mk (fun c (hc : c ∈ allX l.xs) h => corn_can hokH.h hfL hc h)
      have hex := Hide.mk (fun hk h => corn_exact hokH.h hfL h3H.h hk h)
      have hho := Hide.mk (fun c (hc : c ∈ allX l.xs) => corn_holds hokH.h hfL hc)
      have hin := Hide.mk (fun c (hc : c ∈ allX l.xs) => corn_in hokH.h hc)
      have hokP := Hide.mk (fun c (hc : c ∈ allX l.xs) => corn_okP hokH.h hc)
      generalize (bareS f l.xs).1 = can at *
      generalize (bareS f l.xs).2 = must at *
      have hst0 : CornJ l.xs (atV f) id (allX l.xs) HA 0 0 := ⟨⟨[], rfl, rfl, rfl⟩, fun c rest hc => by
        obtain ⟨r, hr⟩ := runs_hd hruns
        rw [hr] at hc
        simp only [List.cons.injEq] at hc
        obtain ⟨rfl, _⟩ := hc
        exact ⟨hruns, hgA⟩⟩
      have hst0 := Hide.mk hst0
      have hemp : Hide ((allX l.xs).isEmpty = false) := ⟨by obtain ⟨r, hr⟩ := runs_hd hruns; rw [hr]; rfl⟩
      clear hiff hfi hfL hfL1 b3 b4 hall hwf hruns hgA
      (repeat' first | simp [*, initEnv] | (refine wpIf_two (fun _ h => ?_) (fun _ h => ?_) <;> try simp [-Nat.le_zero_eq] at h) | (apply wpE_appendV; (focus (first | assumption | (repeat' first | assumption | with_reducible apply GrowV.setNew | with_reducible apply GrowV.alloc | with_reducible apply GrowV.set | (with_reducible show ¬ Names _ _; simp [*]; done)))); (focus (exact fun _ => rfl)); (focus decide); (focus (intro a; first | rfl | simp)); (focus (simp [maxCells] <;> omega))) | (refine after_intro fun v2 H2 hv2 hnx2 hget2 hnew2 hone2 hcel2 => ?_))
      refine wp_loopF [(4, 4), (9, 13), (72, 89)] (fun (s : List (List Pt)) env H2 => env 11 = .pure (.bool (!s.isEmpty)) ∧
        H2.get 0 = .cells true [.pure (.int .i64 (withNot f false).id), .pure (.int .i64 (withNot f false).kind), .pure (.bool (withNot f false).nt), .pure (.int .i64 (withNot f false).a), .pure (.int .i64 (withNot f false).b), .pure (.int .i64 (withNot f false).c), .pure (.int .i64 (withNot f false).span.lo), .pure (.int .i64 (withNot f false).span.hi), .pure (.int .i64 (withNot f false).quarter)] ∧
        H2.get 1 = .cells true [.pure (.int .i64 (withNot f true).id), .pure (.int .i64 (withNot f true).kind), .pure (.bool (withNot f true).nt), .pure (.int .i64 (withNot f true).a), .pure (.int .i64 (withNot f true).b), .pure (.int .i64 (withNot f true).c), .pure (.int .i64 (withNot f true).span.lo), .pure (.int .i64 (withNot f true).span.hi), .pure (.int .i64 (withNot f true).quarter)] ∧
        ∃ h a : Int, env 9 = .pure (.int .i64 h) ∧ env 10 = .pure (.int .i64 a) ∧ Hide (CornJ l.xs (atV f) id s H2 h a)) (fun s => s.length) (allX l.xs) ?_ ?_ ?_ ?_
      · decide
      · have hne : (allX l.xs).isEmpty = false := hemp.h
        exact ⟨by simp [hne], h0', h1', 0, 0, by simp, by simp, hst0⟩
      · simp only [loopFuel]; have := hallH.h; omega
      clear hst0 h0' h1' hnA
      rintro s env H2 ⟨g11, h0', h1', h, a, g9, g10, hJ⟩
      cases s with
      | nil =>
        obtain ⟨pre, hp, rfl, rfl⟩ := hJ.h.pre
        simp only [List.append_nil] at hp
        subst hp
        have hcan : 0 < (((allX l.xs).countP (atV f) : Nat) : Int) → can = true := fun h => by
          obtain ⟨c, hc, hv⟩ := count_zero.1 (show 0 < (allX l.xs).countP (atV f) by omega)
          exact hca.h c hc hv
        have hmu1 : must = true ↔ (((allX l.xs).countP (atV f) : Nat) : Int) = ((allX l.xs).length : Nat) := by
          rw [hmu.h, ← count_all]
          omega
        have hexa : ((withNot f false).kind = 3 ∨ (withNot f false).kind = 4 ∨ (withNot f false).kind = 5 ∨ (withNot f false).kind = 6) → can = true → 0 < (((allX l.xs).countP (atV f) : Nat) : Int) := fun hk hc => by
          obtain ⟨c, hc, hv⟩ := hex.h hk hc
          have := count_zero.2 ⟨c, hc, hv⟩
          omega
        clear hJ hmu hca hex hho hin hokP hallH
        generalize (((allX l.xs).countP (atV f) : Nat) : Int) = hN at *
        generalize (((allX l.xs).length : Nat) : Int) = aN at *
        generalize hK : (withNot f false).kind = K at *
        have hKH := Hide.mk hK
        have hcanH := Hide.mk hcan
        have hmuH := Hide.mk hmu1
        have hexH := Hide.mk hexa
        clear hcan hmu1 hexa hK
        by_cases k3 : K = 3
        · subst k3
          by_cases k1 : 0 < hN
          · have := hcanH.h k1
            subst this
            by_cases k2 : hN = aN
            · have := hmuH.h.2 k2
              subst this
              subst k2
              clear hcanH hmuH hexH
              (repeat' first | simp [*, initEnv] | (refine wpIf_two (fun _ h => ?_) (fun _ h => ?_) <;> try simp [-Nat.le_zero_eq] at h) | (apply wpE_appendV; (focus (first | assumption | (repeat' first | assumption | with_reducible apply GrowV.setNew | with_reducible apply GrowV.alloc | with_reducible apply GrowV.set | (with_reducible show ¬ Names _ _; simp [*]; done)))); (focus (exact fun _ => rfl)); (focus decide); (focus (intro a; first | rfl | simp)); (focus (simp [maxCells] <;> omega))) | (refine after_intro fun v2 H2 hv2 hnx2 hget2 hnew2 hone2 hcel2 => ?_))
            · have : must = false := by
                cases must with
                | true => exact absurd (hmuH.h.1 rfl) k2
                | false => rfl
              subst this
              clear hcanH hmuH hexH
              (repeat' first | simp [*, initEnv] | (refine wpIf_two (fun _ h => ?_) (fun _ h => ?_) <;> try simp [-Nat.le_zero_eq] at h) | (apply wpE_appendV; (focus (first | assumption | (repeat' first | assumption | with_reducible apply GrowV.setNew | with_reducible apply GrowV.alloc | with_reducible apply GrowV.set | (with_reducible show ¬ Names _ _; simp [*]; done)))); (focus (exact fun _ => rfl)); (focus decide); (focus (intro a; first | rfl | simp)); (focus (simp [maxCells] <;> omega))) | (refine after_intro fun v2 H2 hv2 hnx2 hget2 hnew2 hone2 hcel2 => ?_))
          · have : can = false := by
              cases can with
              | true => exact absurd (hexH.h (by simp) rfl) k1
              | false => rfl
            subst this
            by_cases k2 : hN = aN
            · have := hmuH.h.2 k2
              subst this
              subst k2
              clear hcanH hmuH hexH
              (repeat' first | simp [*, initEnv] | (refine wpIf_two (fun _ h => ?_) (fun _ h => ?_) <;> try simp [-Nat.le_zero_eq] at h) | (apply wpE_appendV; (focus (first | assumption | (repeat' first | assumption | with_reducible apply GrowV.setNew | with_reducible apply GrowV.alloc | with_reducible apply GrowV.set | (with_reducible show ¬ Names _ _; simp [*]; done)))); (focus (exact fun _ => rfl)); (focus decide); (focus (intro a; first | rfl | simp)); (focus (simp [maxCells] <;> omega))) | (refine after_intro fun v2 H2 hv2 hnx2 hget2 hnew2 hone2 hcel2 => ?_))
            · have : must = false := by
                cases must with
                | true => exact absurd (hmuH.h.1 rfl) k2
                | false => rfl
              subst this
              clear hcanH hmuH hexH
              (repeat' first | simp [*, initEnv] | (refine wpIf_two (fun _ h => ?_) (fun _ h => ?_) <;> try simp [-Nat.le_zero_eq] at h) | (apply wpE_appendV; (focus (first | assumption | (repeat' first | assumption | with_reducible apply GrowV.setNew | with_reducible apply GrowV.alloc | with_reducible apply GrowV.set | (with_reducible show ¬ Names _ _; simp [*]; done)))); (focus (exact fun _ => rfl)); (focus decide); (focus (intro a; first | rfl | simp)); (focus (simp [maxCells] <;> omega))) | (refine after_intro fun v2 H2 hv2 hnx2 hget2 hnew2 hone2 hcel2 => ?_))
        by_cases k4 : K = 4
        · subst k4
          by_cases k1 : 0 < hN
          · have := hcanH.h k1
            subst this
            by_cases k2 : hN = aN
            · have := hmuH.h.2 k2
              subst this
              subst k2
              clear hcanH hmuH hexH
              (repeat' first | simp [*, initEnv] | (refine wpIf_two (fun _ h => ?_) (fun _ h => ?_) <;> try simp [-Nat.le_zero_eq] at h) | (apply wpE_appendV; (focus (first | assumption | (repeat' first | assumption | with_reducible apply GrowV.setNew | with_reducible apply GrowV.alloc | with_reducible apply GrowV.set | (with_reducible show ¬ Names _ _; simp [*]; done)))); (focus (exact fun _ => rfl)); (focus decide); (focus (intro a; first | rfl | simp)); (focus (simp [maxCells] <;> omega))) | (refine after_intro fun v2 H2 hv2 hnx2 hget2 hnew2 hone2 hcel2 => ?_))
            · have : must = false := by
                cases must with
                | true => exact absurd (hmuH.h.1 rfl) k2
                | false => rfl
              subst this
              clear hcanH hmuH hexH
              (repeat' first | simp [*, initEnv] | (refine wpIf_two (fun _ h => ?_) (fun _ h => ?_) <;> try simp [-Nat.le_zero_eq] at h) | (apply wpE_appendV; (focus (first | assumption | (repeat' first | assumption | with_reducible apply GrowV.setNew | with_reducible apply GrowV.alloc | with_reducible apply GrowV.set | (with_reducible show ¬ Names _ _; simp [*]; done)))); (focus (exact fun _ => rfl)); (focus decide); (focus (intro a; first | rfl | simp)); (focus (simp [maxCells] <;> omega))) | (refine after_intro fun v2 H2 hv2 hnx2 hget2 hnew2 hone2 hcel2 => ?_))
          · have : can = false := by
              cases can with
              | true => exact absurd (hexH.h (by simp) rfl) k1
              | false => rfl
            subst this
            by_cases k2 : hN = aN
            · have := hmuH.h.2 k2
              subst this
              subst k2
              clear hcanH hmuH hexH
              (repeat' first | simp [*, initEnv] | (refine wpIf_two (fun _ h => ?_) (fun _ h => ?_) <;> try simp [-Nat.le_zero_eq] at h) | (apply wpE_appendV; (focus (first | assumption | (repeat' first | assumption | with_reducible apply GrowV.setNew | with_reducible apply GrowV.alloc | with_reducible apply GrowV.set | (with_reducible show ¬ Names _ _; simp [*]; done)))); (focus (exact fun _ => rfl)); (focus decide); (focus (intro a; first | rfl | simp)); (focus (simp [maxCells] <;> omega))) | (refine after_intro fun v2 H2 hv2 hnx2 hget2 hnew2 hone2 hcel2 => ?_))
            · have : must = false := by
                cases must with
                | true => exact absurd (hmuH.h.1 rfl) k2
                | false => rfl
              subst this
              clear hcanH hmuH hexH
              (repeat' first | simp [*, initEnv] | (refine wpIf_two (fun _ h => ?_) (fun _ h => ?_) <;> try simp [-Nat.le_zero_eq] at h) | (apply wpE_appendV; (focus (first | assumption | (repeat' first | assumption | with_reducible apply GrowV.setNew | with_reducible apply GrowV.alloc | with_reducible apply GrowV.set | (with_reducible show ¬ Names _ _; simp [*]; done)))); (focus (exact fun _ => rfl)); (focus decide); (focus (intro a; first | rfl | simp)); (focus (simp [maxCells] <;> omega))) | (refine after_intro fun v2 H2 hv2 hnx2 hget2 hnew2 hone2 hcel2 => ?_))
        by_cases k5 : K = 5
        · subst k5
          by_cases k1 : 0 < hN
          · have := hcanH.h k1
            subst this
            by_cases k2 : hN = aN
            · have := hmuH.h.2 k2
              subst this
              subst k2
              clear hcanH hmuH hexH
              (repeat' first | simp [*, initEnv] | (refine wpIf_two (fun _ h => ?_) (fun _ h => ?_) <;> try simp [-Nat.le_zero_eq] at h) | (apply wpE_appendV; (focus (first | assumption | (repeat' first | assumption | with_reducible apply GrowV.setNew | with_reducible apply GrowV.alloc | with_reducible apply GrowV.set | (with_reducible show ¬ Names _ _; simp [*]; done)))); (focus (exact fun _ => rfl)); (focus decide); (focus (intro a; first | rfl | simp)); (focus (simp [maxCells] <;> omega))) | (refine after_intro fun v2 H2 hv2 hnx2 hget2 hnew2 hone2 hcel2 => ?_))
            · have : must = false := by
                cases must with
                | true => exact absurd (hmuH.h.1 rfl) k2
                | false => rfl
              subst this
              clear hcanH hmuH hexH
              (repeat' first | simp [*, initEnv] | (refine wpIf_two (fun _ h => ?_) (fun _ h => ?_) <;> try simp [-Nat.le_zero_eq] at h) | (apply wpE_appendV; (focus (first | assumption | (repeat' first | assumption | with_reducible apply GrowV.setNew | with_reducible apply GrowV.alloc | with_reducible apply GrowV.set | (with_reducible show ¬ Names _ _; simp [*]; done)))); (focus (exact fun _ => rfl)); (focus decide); (focus (intro a; first | rfl | simp)); (focus (simp [maxCells] <;> omega))) | (refine after_intro fun v2 H2 hv2 hnx2 hget2 hnew2 hone2 hcel2 => ?_))
          · have : can = false := by
              cases can with
              | true => exact absurd (hexH.h (by simp) rfl) k1
              | false => rfl
            subst this
            by_cases k2 : hN = aN
            · have := hmuH.h.2 k2
              subst this
              subst k2
              clear hcanH hmuH hexH
              (repeat' first | simp [*, initEnv] | (refine wpIf_two (fun _ h => ?_) (fun _ h => ?_) <;> try simp [-Nat.le_zero_eq] at h) | (apply wpE_appendV; (focus (first | assumption | (repeat' first | assumption | with_reducible apply GrowV.setNew | with_reducible apply GrowV.alloc | with_reducible apply GrowV.set | (with_reducible show ¬ Names _ _; simp [*]; done)))); (focus (exact fun _ => rfl)); (focus decide); (focus (intro a; first | rfl | simp)); (focus (simp [maxCells] <;> omega))) | (refine after_intro fun v2 H2 hv2 hnx2 hget2 hnew2 hone2 hcel2 => ?_))
            · have : must = false := by
                cases must with
                | true => exact absurd (hmuH.h.1 rfl) k2
                | false => rfl
              subst this
              clear hcanH hmuH hexH
              (repeat' first | simp [*, initEnv] | (refine wpIf_two (fun _ h => ?_) (fun _ h => ?_) <;> try simp [-Nat.le_zero_eq] at h) | (apply wpE_appendV; (focus (first | assumption | (repeat' first | assumption | with_reducible apply GrowV.setNew | with_reducible apply GrowV.alloc | with_reducible apply GrowV.set | (with_reducible show ¬ Names _ _; simp [*]; done)))); (focus (exact fun _ => rfl)); (focus decide); (focus (intro a; first | rfl | simp)); (focus (simp [maxCells] <;> omega))) | (refine after_intro fun v2 H2 hv2 hnx2 hget2 hnew2 hone2 hcel2 => ?_))
        by_cases k6 : K = 6
        · subst k6
          by_cases k1 : 0 < hN
          · have := hcanH.h k1
            subst this
            by_cases k2 : hN = aN
            · have := hmuH.h.2 k2
              subst this
              subst k2
              clear hcanH hmuH hexH
              (repeat' first | simp [*, initEnv] | (refine wpIf_two (fun _ h => ?_) (fun _ h => ?_) <;> try simp [-Nat.le_zero_eq] at h) | (apply wpE_appendV; (focus (first | assumption | (repeat' first | assumption | with_reducible apply GrowV.setNew | with_reducible apply GrowV.alloc | with_reducible apply GrowV.set | (with_reducible show ¬ Names _ _; simp [*]; done)))); (focus (exact fun _ => rfl)); (focus decide); (focus (intro a; first | rfl | simp)); (focus (simp [maxCells] <;> omega))) | (refine after_intro fun v2 H2 hv2 hnx2 hget2 hnew2 hone2 hcel2 => ?_))
            · have : must = false := by
                cases must with
                | true => exact absurd (hmuH.h.1 rfl) k2
                | false => rfl
              subst this
              clear hcanH hmuH hexH
              (repeat' first | simp [*, initEnv] | (refine wpIf_two (fun _ h => ?_) (fun _ h => ?_) <;> try simp [-Nat.le_zero_eq] at h) | (apply wpE_appendV; (focus (first | assumption | (repeat' first | assumption | with_reducible apply GrowV.setNew | with_reducible apply GrowV.alloc | with_reducible apply GrowV.set | (with_reducible show ¬ Names _ _; simp [*]; done)))); (focus (exact fun _ => rfl)); (focus decide); (focus (intro a; first | rfl | simp)); (focus (simp [maxCells] <;> omega))) | (refine after_intro fun v2 H2 hv2 hnx2 hget2 hnew2 hone2 hcel2 => ?_))
          · have : can = false := by
              cases can with
              | true => exact absurd (hexH.h (by simp) rfl) k1
              | false => rfl
            subst this
            by_cases k2 : hN = aN
            · have := hmuH.h.2 k2
              subst this
              subst k2
              clear hcanH hmuH hexH
              (repeat' first | simp [*, initEnv] | (refine wpIf_two (fun _ h => ?_) (fun _ h => ?_) <;> try simp [-Nat.le_zero_eq] at h) | (apply wpE_appendV; (focus (first | assumption | (repeat' first | assumption | with_reducible apply GrowV.setNew | with_reducible apply GrowV.alloc | with_reducible apply GrowV.set | (with_reducible show ¬ Names _ _; simp [*]; done)))); (focus (exact fun _ => rfl)); (focus decide); (focus (intro a; first | rfl | simp)); (focus (simp [maxCells] <;> omega))) | (refine after_intro fun v2 H2 hv2 hnx2 hget2 hnew2 hone2 hcel2 => ?_))
            · have : must = false := by
                cases must with
                | true => exact absurd (hmuH.h.1 rfl) k2
                | false => rfl
              subst this
              clear hcanH hmuH hexH
              (repeat' first | simp [*, initEnv] | (refine wpIf_two (fun _ h => ?_) (fun _ h => ?_) <;> try simp [-Nat.le_zero_eq] at h) | (apply wpE_appendV; (focus (first | assumption | (repeat' first | assumption | with_reducible apply GrowV.setNew | with_reducible apply GrowV.alloc | with_reducible apply GrowV.set | (with_reducible show ¬ Names _ _; simp [*]; done)))); (focus (exact fun _ => rfl)); (focus decide); (focus (intro a; first | rfl | simp)); (focus (simp [maxCells] <;> omega))) | (refine after_intro fun v2 H2 hv2 hnx2 hget2 hnew2 hone2 hcel2 => ?_))
        by_cases k1 : 0 < hN
        · have := hcanH.h k1
          subst this
          by_cases k2 : hN = aN
          · have := hmuH.h.2 k2
            subst this
            subst k2
            clear hcanH hmuH hexH
            (repeat' first | simp [*, initEnv] | (refine wpIf_two (fun _ h => ?_) (fun _ h => ?_) <;> try simp [-Nat.le_zero_eq] at h) | (apply wpE_appendV; (focus (first | assumption | (repeat' first | assumption | with_reducible apply GrowV.setNew | with_reducible apply GrowV.alloc | with_reducible apply GrowV.set | (with_reducible show ¬ Names _ _; simp [*]; done)))); (focus (exact fun _ => rfl)); (focus decide); (focus (intro a; first | rfl | simp)); (focus (simp [maxCells] <;> omega))) | (refine after_intro fun v2 H2 hv2 hnx2 hget2 hnew2 hone2 hcel2 => ?_))
          · have : must = false := by
              cases must with
              | true => exact absurd (hmuH.h.1 rfl) k2
              | false => rfl
            subst this
            clear hcanH hmuH hexH
            (repeat' first | simp [*, initEnv] | (refine wpIf_two (fun _ h => ?_) (fun _ h => ?_) <;> try simp [-Nat.le_zero_eq] at h) | (apply wpE_appendV; (focus (first | assumption | (repeat' first | assumption | with_reducible apply GrowV.setNew | with_reducible apply GrowV.alloc | with_reducible apply GrowV.set | (with_reducible show ¬ Names _ _; simp [*]; done)))); (focus (exact fun _ => rfl)); (focus decide); (focus (intro a; first | rfl | simp)); (focus (simp [maxCells] <;> omega))) | (refine after_intro fun v2 H2 hv2 hnx2 hget2 hnew2 hone2 hcel2 => ?_))
        · have hcc := Hide.mk hcanH
          by_cases k2 : hN = aN
          · have := hmuH.h.2 k2
            subst this
            subst k2
            clear hcanH hmuH hexH
            (repeat' first | simp [*, initEnv] | (refine wpIf_two (fun _ h => ?_) (fun _ h => ?_) <;> try simp [-Nat.le_zero_eq] at h) | (apply wpE_appendV; (focus (first | assumption | (repeat' first | assumption | with_reducible apply GrowV.setNew | with_reducible apply GrowV.alloc | with_reducible apply GrowV.set | (with_reducible show ¬ Names _ _; simp [*]; done)))); (focus (exact fun _ => rfl)); (focus decide); (focus (intro a; first | rfl | simp)); (focus (simp [maxCells] <;> omega))) | (refine after_intro fun v2 H2 hv2 hnx2 hget2 hnew2 hone2 hcel2 => ?_))
          · have : must = false := by
              cases must with
              | true => exact absurd (hmuH.h.1 rfl) k2
              | false => rfl
            subst this
            clear hcanH hmuH hexH
            (repeat' first | simp [*, initEnv] | (refine wpIf_two (fun _ h => ?_) (fun _ h => ?_) <;> try simp [-Nat.le_zero_eq] at h) | (apply wpE_appendV; (focus (first | assumption | (repeat' first | assumption | with_reducible apply GrowV.setNew | with_reducible apply GrowV.alloc | with_reducible apply GrowV.set | (with_reducible show ¬ Names _ _; simp [*]; done)))); (focus (exact fun _ => rfl)); (focus decide); (focus (intro a; first | rfl | simp)); (focus (simp [maxCells] <;> omega))) | (refine after_intro fun v2 H2 hv2 hnx2 hget2 hnew2 hone2 hcel2 => ?_))
      | cons c rest =>
        obtain ⟨pre, hp, hh1, ha1⟩ := hJ.h.pre
        obtain ⟨hrun, hgc⟩ := hJ.h.run c rest rfl
        have hc : c ∈ allX l.xs := by rw [← hp]; simp
        obtain ⟨ho1, ho2⟩ := hho.h c hc
        have hcl : c.length = 3 := by rw [(hin.h c hc).1, h3H.h]
        have hpl : pre.length + (c :: rest).length = (allX l.xs).length := by rw [← hp, List.length_append]
        have hcp : pre.countP (atV f) ≤ pre.length := List.countP_le_length
        have hallB := hallH.h
        have w1 : IntKind.i64.wrap (a + 1) = a + 1 := wrap64 (by omega) (by omega)
        have w2 : IntKind.i64.wrap (h + 1) = h + 1 := wrap64 (by omega) (by omega)
        obtain ⟨s1, hs1, hf1⟩ := row_sl (n := 10) (f := Pt.cells) (sz := 2) (fun _ => rfl) hgc hcl
        have c1 := e18 54 (withNot f false) s1 (by rw [hs1]; omega)
        have c2 := e18 54 (withNot f true) s1 (by rw [hs1]; omega)
        rw [hs1, ho1] at c1
        rw [hs1, ho2] at c2
        have hJn : ∀ H3 b t, (b = true → stepL l.xs c = some t) → (b = false → stepL l.xs c = none) → H3.get id = .cells true (rowOf Pt.cells t) → (b = !rest.isEmpty) ∧ CornJ l.xs (atV f) id rest H3 (if atV f c = true then h + 1 else h) (a + 1) := fun H3 b t hb1 hb2 hg3 => by
          have hpre : ∃ pre', pre' ++ rest = allX l.xs ∧ (if atV f c = true then h + 1 else h) = (pre'.countP (atV f) : Nat) ∧ a + 1 = (pre'.length : Nat) := by
            refine ⟨pre ++ [c], by rw [← hp]; simp, ?_, by rw [List.length_append, List.length_singleton]; omega⟩
            rw [List.countP_append, List.countP_singleton]
            split <;> omega
          rcases runs_tail hrun with ⟨hn, rfl⟩ | ⟨u, r2, hs, rfl, hr2⟩
          · cases b with
            | true => rw [hb1 rfl] at hn; simp at hn
            | false => exact ⟨rfl, hpre, fun c' r' e => by simp at e⟩
          · cases b with
            | false => rw [hb2 rfl] at hs; simp at hs
            | true =>
              have e : t = u := by rw [hb1 rfl] at hs; simpa using hs
              subst e
              refine ⟨rfl, hpre, fun c' r' e => ?_⟩
              simp only [List.cons.injEq] at e
              obtain ⟨rfl, rfl⟩ := e
              exact ⟨hr2, hg3⟩
        have hJn := Hide.mk hJn
        have hbx := Hide.mk (fun b hb => (okT_box (hokH.h b hb)).2.2)
        have hcP := Hide.mk (hokP.h c hc)
        have hcL := Hide.mk (hin.h c hc).1
        have hgcH := Hide.mk hgc
        clear ho1 ho2 hs1 hpl hcp hallB hrun hJ hp hh1 ha1 hc hgc
        simp only [Fact.cells] at c1 c2
        have hid0 : ¬ 0 = id := by omega
        have hid1 : ¬ 1 = id := by omega
        (repeat' first | simp [*, initEnv] | (refine wpIf_two (fun _ h => ?_) (fun _ h => ?_) <;> try simp [-Nat.le_zero_eq] at h) | (apply wpE_appendV; (focus (first | assumption | (repeat' first | assumption | with_reducible apply GrowV.setNew | with_reducible apply GrowV.alloc | with_reducible apply GrowV.set | (with_reducible show ¬ Names _ _; simp [*]; done)))); (focus (exact fun _ => rfl)); (focus decide); (focus (intro a; first | rfl | simp)); (focus (simp [maxCells] <;> omega))) | (refine after_intro fun v2 H2 hv2 hnx2 hget2 hnew2 hone2 hcel2 => ?_))
        refine wpE_own (caps := []) (ps := [_, _]) (by decide) (.cons (.pure _) (.cons hf1 .nil)) c1 rfl ?_
        (repeat' first | simp [*, initEnv] | (refine wpIf_two (fun _ h => ?_) (fun _ h => ?_) <;> try simp [-Nat.le_zero_eq] at h) | (apply wpE_appendV; (focus (first | assumption | (repeat' first | assumption | with_reducible apply GrowV.setNew | with_reducible apply GrowV.alloc | with_reducible apply GrowV.set | (with_reducible show ¬ Names _ _; simp [*]; done)))); (focus (exact fun _ => rfl)); (focus decide); (focus (intro a; first | rfl | simp)); (focus (simp [maxCells] <;> omega))) | (refine after_intro fun v2 H2 hv2 hnx2 hget2 hnew2 hone2 hcel2 => ?_))
        refine wpE_own (caps := []) (ps := [_, _]) (by decide) (.cons (.pure _) (.cons hf1 .nil)) c2 rfl ?_
        clear c1 c2 hf1
        cases hv : atV f c with
        | true =>
          rw [hv] at hJn
          clear hv
          (repeat' first | simp [*, initEnv] | (refine wpIf_two (fun _ h => ?_) (fun _ h => ?_) <;> try simp [-Nat.le_zero_eq] at h) | (apply wpE_appendV; (focus (first | assumption | (repeat' first | assumption | with_reducible apply GrowV.setNew | with_reducible apply GrowV.alloc | with_reducible apply GrowV.set | (with_reducible show ¬ Names _ _; simp [*]; done)))); (focus (exact fun _ => rfl)); (focus decide); (focus (intro a; first | rfl | simp)); (focus (simp [maxCells] <;> omega))) | (refine after_intro fun v2 H2 hv2 hnx2 hget2 hnew2 hone2 hcel2 => ?_))
          refine wpE_run sh_after ?_
          refine after_call hgcH.h hcL.h hbx.h hcP.h (by have := h3H.h; omega) h3H.h.symm ?_
          intro b H' t hnx2 hsame hgt htl hb1 hb2
          obtain ⟨hbr, hJ3⟩ := hJn.h H' b t hb1 hb2 hgt
          have hJ3 := Hide.mk hJ3
          have e0 := (hsame 0 hid0).trans h0'
          have e1 := (hsame 1 hid1).trans h1'
          clear hJn hsame hgt hb1 hb2 h0' h1'
          (repeat' first | simp [*, initEnv] | (refine wpIf_two (fun _ h => ?_) (fun _ h => ?_) <;> try simp [-Nat.le_zero_eq] at h) | (apply wpE_appendV; (focus (first | assumption | (repeat' first | assumption | with_reducible apply GrowV.setNew | with_reducible apply GrowV.alloc | with_reducible apply GrowV.set | (with_reducible show ¬ Names _ _; simp [*]; done)))); (focus (exact fun _ => rfl)); (focus decide); (focus (intro a; first | rfl | simp)); (focus (simp [maxCells] <;> omega))) | (refine after_intro fun v2 H2 hv2 hnx2 hget2 hnew2 hone2 hcel2 => ?_))
          exact ⟨rest, by simp, rfl, by simpa using hJ3⟩
        | false =>
          rw [hv] at hJn
          clear hv
          (repeat' first | simp [*, initEnv] | (refine wpIf_two (fun _ h => ?_) (fun _ h => ?_) <;> try simp [-Nat.le_zero_eq] at h) | (apply wpE_appendV; (focus (first | assumption | (repeat' first | assumption | with_reducible apply GrowV.setNew | with_reducible apply GrowV.alloc | with_reducible apply GrowV.set | (with_reducible show ¬ Names _ _; simp [*]; done)))); (focus (exact fun _ => rfl)); (focus decide); (focus (intro a; first | rfl | simp)); (focus (simp [maxCells] <;> omega))) | (refine after_intro fun v2 H2 hv2 hnx2 hget2 hnew2 hone2 hcel2 => ?_))
          refine wpE_run sh_after ?_
          refine after_call hgcH.h hcL.h hbx.h hcP.h (by have := h3H.h; omega) h3H.h.symm ?_
          intro b H' t hnx2 hsame hgt htl hb1 hb2
          obtain ⟨hbr, hJ3⟩ := hJn.h H' b t hb1 hb2 hgt
          have hJ3 := Hide.mk hJ3
          have e0 := (hsame 0 hid0).trans h0'
          have e1 := (hsame 1 hid1).trans h1'
          clear hJn hsame hgt hb1 hb2 h0' h1'
          (repeat' first | simp [*, initEnv] | (refine wpIf_two (fun _ h => ?_) (fun _ h => ?_) <;> try simp [-Nat.le_zero_eq] at h) | (apply wpE_appendV; (focus (first | assumption | (repeat' first | assumption | with_reducible apply GrowV.setNew | with_reducible apply GrowV.alloc | with_reducible apply GrowV.set | (with_reducible show ¬ Names _ _; simp [*]; done)))); (focus (exact fun _ => rfl)); (focus decide); (focus (intro a; first | rfl | simp)); (focus (simp [maxCells] <;> omega))) | (refine after_intro fun v2 H2 hv2 hnx2 hget2 hnew2 hone2 hcel2 => ?_))
          exact ⟨rest, by simp, rfl, by simpa using hJ3⟩
end Go.Proofs.Ytmghcpdpilgplaa.Vm
