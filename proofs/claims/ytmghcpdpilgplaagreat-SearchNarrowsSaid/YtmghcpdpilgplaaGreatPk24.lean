/- Volumes of parts: the program's, walked. Volumes of parts: the specification's, walked. -/
import Derived.Test.YtmghcpdpilgplaaGreatPk22
import Derived.Test.YtmghcpdpilgplaaGreatPk20
import Derived.Test.YtmghcpdpilgplaaGreatPk23
namespace Go.Proofs.YtmghcpdpilgplaaGreat.Vm
open Go
set_option linter.unusedSimpArgs false
set_option linter.unusedVariables false
set_option maxHeartbeats 4000000
set_option maxRecDepth 4000
def partF (l : List Nat) : List PV := [(Sl.mk false (intsN l)).pv intF 1]
theorem partPV_sl (l : List Nat) : partPV l = (Sl.mk false (intsN l)).pv intF 1 := by
  simp only [Sl.pv, partPV, intsN, List.map_map]
  rfl
theorem partsPV_sl (ps : List (List Nat)) : partsPV ps = (Sl.of ps).pv partF 1 := by
  cases ps with
  | nil => rfl
  | cons l ps => simp [partsPV, Sl.of, Sl.pv, partF, partPV_sl]
theorem volG_snoc (b : List Box) (k : Nat) : ∀ (l : List Nat) (x : Int), volG b x (l ++ [k]) = min (volG b x l * areaB b[k]!) 65537
  | [], x => rfl
  | i :: l, x => by simp only [List.cons_append, volG]; exact volG_snoc b k l _
theorem volG_rng {b : List Box} (hb : ∀ k, k < b.length → 1 ≤ areaB b[k]!) : ∀ (l : List Nat) (x : Int), (∀ k ∈ l, k < b.length) → 1 ≤ x → x ≤ 65537 → 1 ≤ volG b x l ∧ volG b x l ≤ 65537
  | [], x, _, h1, h2 => ⟨h1, h2⟩
  | i :: l, x, hl, h1, h2 => by
    refine volG_rng hb l _ (fun k hk => hl k (List.mem_cons_of_mem _ hk)) ?_ (by omega)
    have h3 := hb i (hl i List.mem_cons_self)
    have h4 := Int.mul_le_mul h1 h3 (by omega) (by omega)
    omega
def volTo (b : List Box) (l : List Nat) (j : Nat) : Int := if 1 < l.length then volG b 1 (l.take j) else 1
def volP (b : List Box) (l : List Nat) : Int := if 1 < l.length then volG b 1 l else 1
def volL (b : List Box) (ps : List (List Nat)) : Int := ps.foldl (fun x l => max x (volP b l)) 0
theorem volTo_zero (b : List Box) (l : List Nat) : volTo b l 0 = 1 := by unfold volTo; split <;> simp [volG]
theorem volTo_all (b : List Box) (l : List Nat) : volTo b l l.length = volP b l := by unfold volTo volP; rw [List.take_length]
theorem volTo_next {b : List Box} {l : List Nat} {j : Nat} (h : j < l.length) (hl : 1 < l.length) : volTo b l (j + 1) = min (volTo b l j * areaB b[l[j]]!) 65537 := by
  unfold volTo
  rw [if_pos hl, if_pos hl, List.take_add_one, List.getElem?_eq_getElem h]
  exact volG_snoc b _ _ _
theorem volTo_skip {b : List Box} {l : List Nat} {j : Nat} (hl : ¬ 1 < l.length) : volTo b l (j + 1) = volTo b l j := by
  unfold volTo
  rw [if_neg hl, if_neg hl]
theorem volL_next {b : List Box} {ps : List (List Nat)} {i : Nat} (h : i < ps.length) : volL b (ps.take (i + 1)) = max (volL b (ps.take i)) (volP b ps[i]) := by
  unfold volL
  rw [List.take_add_one, List.getElem?_eq_getElem h]
  show List.foldl (fun x l => max x (volP b l)) 0 (ps.take i ++ [ps[i]]) = _
  rw [List.foldl_append]
  rfl
theorem volTo_rng {b : List Box} (hb : ∀ k, k < b.length → 1 ≤ areaB b[k]!) {l : List Nat} (hl : ∀ k ∈ l, k < b.length) (j : Nat) : 1 ≤ volTo b l j ∧ volTo b l j ≤ 65537 := by
  unfold volTo
  split
  · exact volG_rng hb _ _ (fun k hk => hl k (List.mem_of_mem_take hk)) (by omega) (by omega)
  · omega
theorem wraps_vol {y u v : Int} (h1 : 1 ≤ y) (h2 : y ≤ 65537) (h3 : 1 ≤ u) (h4 : u ≤ 2097153) (h5 : 1 ≤ v) (h6 : v ≤ 2097153) : IntKind.i64.wrap (y * u) = y * u ∧ IntKind.i64.wrap (y * u * v) = y * u * v := by
  have a1 := Int.mul_le_mul h2 h4 (by omega) (by omega)
  have a2 := Int.mul_le_mul h1 h3 (by omega) (by omega)
  have a3 := Int.mul_le_mul a1 h6 (by omega) (by omega)
  have a4 := Int.mul_le_mul a2 h5 (by omega) (by omega)
  exact ⟨wrap64 (by omega) (by omega), wrap64 (by omega) (by omega)⟩
theorem wrap_uv {u v : Int} (h1 : 1 ≤ u) (h2 : u ≤ 2097153) (h3 : 1 ≤ v) (h4 : v ≤ 2097153) : IntKind.i64.wrap (u * v) = u * v := by
  have a1 := Int.mul_le_mul h2 h4 (by omega) (by omega)
  have a2 := Int.mul_le_mul h1 h3 (by omega) (by omega)
  exact wrap64 (by omega) (by omega)
theorem sh64 : G.shared 64 = false := by decide
theorem e64 (n : Nat) (bs : Sl Box) (s : Sl (List Nat)) (nb : bs.xs.length ≤ 12) (ns : s.xs.length ≤ 12) (hb : ∀ b ∈ bs.xs, validB b = true) (hs : ∀ l ∈ s.xs, l.length ≤ 12 ∧ ∀ k ∈ l, k < bs.xs.length) : callP G (n + 2) 64 [bs.pv Box.cells 4, s.pv partF 1] = some (.int .i64 (volL bs.xs s.xs)) := by
  refine callP_of (ext_none _) rfl g64 rfl ?_
  have hbH := Hide.mk hb
  have hsH := Hide.mk hs
  have hsz : Hide (∀ (k : Nat) (h : k < bs.xs.length) (H : Heap), doCall (calleeOf G (n + 1)) H (.pure (.func 85 [])) [.pure (.agg bs.xs[k].x.cells)] = some (.val (.pure (.int .i64 (bs.xs[k].x.hi - bs.xs[k].x.lo + 1)))) ∧ doCall (calleeOf G (n + 1)) H (.pure (.func 85 [])) [.pure (.agg bs.xs[k].y.cells)] = some (.val (.pure (.int .i64 (bs.xs[k].y.hi - bs.xs[k].y.lo + 1))))) := ⟨fun k h H => by
    have hv := valid_iff.1 (hb _ (List.getElem_mem h))
    exact ⟨call_pureC (caps := []) (ps := [_]) sh85 (e85 n bs.xs[k].x (by omega) (by omega)), call_pureC (caps := []) (ps := [_]) sh85 (e85 n bs.xs[k].y (by omega) (by omega))⟩⟩
  have ha : Hide (∀ k, k < bs.xs.length → 1 ≤ areaB bs.xs[k]!) := ⟨fun k h => by
    have hv := valid_iff.1 (hb _ (List.getElem_mem h))
    rw [getElem!_pos bs.xs k h]
    exact area_pos ⟨by omega, by omega⟩⟩
  clear hb hs
  (repeat' first | simp [*, initEnv, c64] | (refine wpIf_two (fun _ h => ?_) (fun _ h => ?_) <;> try simp [-Nat.le_zero_eq] at h))
  refine wp_loopF [(5, 5), (7, 8), (10, 10), (13, 46)] (fun (i : Nat) env H => env 13 = .pure (.int .i64 i) ∧ i ≤ s.xs.length ∧ ∃ x : Int, env 5 = .pure (.int .i64 x) ∧ Hide (x = volL bs.xs (s.xs.take i))) (fun i => s.xs.length - i) 0 ?_ ?_ ?_ ?_
  · decide
  · exact ⟨by simp, by omega, 0, by simp, ⟨rfl⟩⟩
  · simp only [loopFuel]; omega
  rintro i env H ⟨g13, hi, x, g5, hx⟩
  by_cases hlt : i < s.xs.length
  · have w1 : IntKind.i64.wrap ((i : Int) + 1) = (i + 1 : Nat) := by rw [wrap64 (by omega) (by omega)]; omega
    have hltI : (i : Int) < s.xs.length := by omega
    obtain ⟨l, hl⟩ : ∃ l, s.xs[i] = l := ⟨_, rfl⟩
    have hlm := hsH.h _ (List.getElem_mem hlt)
    rw [hl] at hlm
    have hx2 : Hide (∀ y : Int, y = volP bs.xs l → max x y = volL bs.xs (s.xs.take (i + 1))) := ⟨fun y hy => by rw [volL_next hlt, hl, hy, hx.h]⟩
    have nl := hlm.1
    have hlk := Hide.mk hlm.2
    have e1 : (intsN l).length = l.length := intsN_length l
    clear hlm hx
    (repeat' first | simp [*, initEnv, partF] | (refine wpIf_two (fun _ h => ?_) (fun _ h => ?_) <;> try simp [-Nat.le_zero_eq] at h))
    refine wp_loopF [(8, 8), (10, 10), (19, 42)] (fun (j : Nat) env H => env 19 = .pure (.int .i64 j) ∧ j ≤ l.length ∧ ∃ y : Int, env 8 = .pure (.int .i64 y) ∧ Hide (y = volTo bs.xs l j)) (fun j => l.length - j) 0 ?_ ?_ ?_ ?_
    · decide
    · exact ⟨by simp, by omega, 1, by simp, ⟨(volTo_zero _ _).symm⟩⟩
    · simp only [loopFuel]; omega
    have g13' := g13
    have g5' := g5
    clear g13 g5
    rintro j env H ⟨g19, hj, y, g8, hy⟩
    by_cases hjl : j < l.length
    · have w2 : IntKind.i64.wrap ((j : Int) + 1) = (j + 1 : Nat) := by rw [wrap64 (by omega) (by omega)]; omega
      have hjI : (j : Int) < l.length := by omega
      have hk := hlk.h _ (List.getElem_mem hjl)
      obtain ⟨k, hkk⟩ : ∃ k, l[j] = k := ⟨_, rfl⟩
      rw [hkk] at hk
      have hjx : j < (intsN l).length := by rw [e1]; exact hjl
      have gj : (intsN l)[j] = (k : Int) := by simp [intsN, hkk]
      have hkI : (k : Int) < bs.xs.length := by omega
      by_cases h1l : 1 < l.length
      · have h1I : (1 : Int) < l.length := by omega
        have hz1 := fun H => (hsz.h k hk H).1
        have hz2 := fun H => (hsz.h k hk H).2
        have hv := valid_iff.1 (hbH.h _ (List.getElem_mem hk))
        have hr := volTo_rng ha.h hlk.h j
        rw [← hy.h] at hr
        have hw := wraps_vol (y := y) (u := bs.xs[k].x.hi - bs.xs[k].x.lo + 1) (v := bs.xs[k].y.hi - bs.xs[k].y.lo + 1) hr.1 hr.2 (by omega) (by omega) (by omega) (by omega)
        have hw1 := hw.1
        have hw2 := hw.2
        have hy2 : Hide (min (y * (bs.xs[k].x.hi - bs.xs[k].x.lo + 1) * (bs.xs[k].y.hi - bs.xs[k].y.lo + 1)) 65537 = volTo bs.xs l (j + 1)) := ⟨by rw [volTo_next hjl h1l, hkk, getElem!_pos bs.xs k hk, hy.h, Int.mul_assoc]; rfl⟩
        simp only [Span.cells] at hz1 hz2
        clear hv hr hw hy hkk
        (repeat' first | simp [*, initEnv, Box.cells, Span.cells] | (refine wpIf_two (fun _ h => ?_) (fun _ h => ?_) <;> try simp [-Nat.le_zero_eq] at h))
        exact ⟨j + 1, by omega, by omega, by omega, hy2⟩
      · have h1I : ¬ (1 : Int) < l.length := by omega
        have hy2 : Hide (y = volTo bs.xs l (j + 1)) := ⟨by rw [volTo_skip h1l]; exact hy.h⟩
        clear hy hkk
        (repeat' first | simp [*, initEnv] | (refine wpIf_two (fun _ h => ?_) (fun _ h => ?_) <;> try simp [-Nat.le_zero_eq] at h))
        exact ⟨j + 1, by omega, by omega, by omega, hy2⟩
    · have hjN : j = l.length := by omega
      subst hjN
      have hyv := hy.h
      rw [volTo_all] at hyv
      have hx3 := Hide.mk (hx2.h y hyv)
      clear hy hx2 hyv
      (repeat' first | simp [*, initEnv] | (refine wpIf_two (fun _ h => ?_) (fun _ h => ?_) <;> try simp [-Nat.le_zero_eq] at h))
      exact ⟨i + 1, by omega, by omega, by omega, hx3⟩
  · have hiN : i = s.xs.length := by omega
    subst hiN
    have hx2 := hx.h
    rw [List.take_length] at hx2
    subst hx2
    clear hx
    (repeat' first | simp [*, initEnv] | (refine wpIf_two (fun _ h => ?_) (fun _ h => ?_) <;> try simp [-Nat.le_zero_eq] at h))
end Go.Proofs.YtmghcpdpilgplaaGreat.Vm

namespace Go.Proofs.YtmghcpdpilgplaaGreat.Vm
open Go
set_option linter.unusedSimpArgs false
set_option linter.unusedVariables false
set_option maxHeartbeats 4000000
set_option maxRecDepth 4000
theorem sh94 : G.shared 94 = false := by decide
theorem e94 (n : Nat) (b : Box) (hv : validB b = true) : callP G (n + 1) 94 [.agg b.cells] = some (.int .i64 (areaB b)) := by
  refine callP_of (ext_none _) rfl g94 rfl ?_
  have hvv := valid_iff.1 hv
  have w1 : IntKind.i64.wrap (b.x.hi - b.x.lo) = b.x.hi - b.x.lo := wrap64 (by omega) (by omega)
  have w2 : IntKind.i64.wrap (b.x.hi - b.x.lo + 1) = b.x.hi - b.x.lo + 1 := wrap64 (by omega) (by omega)
  have w3 : IntKind.i64.wrap (b.y.hi - b.y.lo) = b.y.hi - b.y.lo := wrap64 (by omega) (by omega)
  have w4 : IntKind.i64.wrap (b.y.hi - b.y.lo + 1) = b.y.hi - b.y.lo + 1 := wrap64 (by omega) (by omega)
  have w5 : IntKind.i64.wrap ((b.x.hi - b.x.lo + 1) * (b.y.hi - b.y.lo + 1)) = (b.x.hi - b.x.lo + 1) * (b.y.hi - b.y.lo + 1) := wrap_uv (by clear w1 w2 w3 w4; omega) (by clear w1 w2 w3 w4; omega) (by clear w1 w2 w3 w4; omega) (by clear w1 w2 w3 w4; omega)
  clear hvv hv
  (repeat' first | simp [*, initEnv, c94, Box.cells, Span.cells, areaB] | (refine wpIf_two (fun _ h => ?_) (fun _ h => ?_) <;> try simp [-Nat.le_zero_eq] at h))
def namedS (f : Fact) (i : Int) : Bool := decide (f.a = i) || decide (f.b = i) || (decide (f.kind = 2) && decide (f.c = i))
def namedA (fs : List Fact) (i : Int) : Bool := fs.any fun f => namedS f i
def noneN (fs : List Fact) (i : Int) (k : Nat) : Prop := ∀ j (h : j < fs.length), j < k → namedS fs[j] i = false
theorem sh119 : G.shared 119 = false := by decide
theorem e119 (n : Nat) (p : Problem) (i : Int) (hl : p.facts.xs.length ≤ 60) : callP G (n + 1) 119 [.agg p.cells, .int .i64 i] = some (.bool (namedA p.facts.xs i)) := by
  refine callP_of (ext_none _) rfl g119 rfl ?_
  obtain ⟨bs, fs⟩ := p
  generalize hR : namedA fs.xs i = R
  have hR := Hide.mk hR
  have hl : fs.xs.length ≤ 60 := hl
  (repeat' first | simp [*, initEnv, c119, Problem.cells] | (refine wpIf_two (fun _ h => ?_) (fun _ h => ?_) <;> try simp [-Nat.le_zero_eq] at h))
  refine wp_loopF [(4, 39)] (fun (k : Nat) env H => env 5 = .pure (.int .i64 k) ∧ k ≤ fs.xs.length ∧ Hide (noneN fs.xs i k)) (fun k => fs.xs.length - k) 0 ?_ ?_ ?_ ?_
  · decide
  · exact ⟨by simp, by omega, ⟨fun _ _ h => by omega⟩⟩
  · simp only [loopFuel]; omega
  rintro k env H ⟨g0, hi, hn⟩
  by_cases hlt : k < fs.xs.length
  · have w1 : IntKind.i64.wrap ((k : Int) + 1) = (k + 1 : Nat) := by rw [wrap64 (by omega) (by omega)]; omega
    have hltI : (k : Int) < fs.xs.length := by omega
    cases hf : namedS fs.xs[k] i with
    | true =>
      have hRk : R = true := by rw [← hR.h]; exact List.any_eq_true.2 ⟨_, List.getElem_mem hlt, hf⟩
      unfold namedS at hf
      clear hn hR
      subst hRk
      simp only [Bool.or_eq_true, Bool.and_eq_true, decide_eq_true_eq] at hf
      by_cases e1 : fs.xs[k].a = i
      · clear hf
        (repeat' first | simp [*, initEnv, Fact.cells] | (refine wpIf_two (fun _ h => ?_) (fun _ h => ?_) <;> try simp [-Nat.le_zero_eq] at h))
      · by_cases e2 : fs.xs[k].b = i
        · clear hf
          (repeat' first | simp [*, initEnv, Fact.cells] | (refine wpIf_two (fun _ h => ?_) (fun _ h => ?_) <;> try simp [-Nat.le_zero_eq] at h))
        · have e3 : fs.xs[k].kind = 2 := by omega
          have e4 : fs.xs[k].c = i := by omega
          clear hf
          (repeat' first | simp [*, initEnv, Fact.cells] | (refine wpIf_two (fun _ h => ?_) (fun _ h => ?_) <;> try simp [-Nat.le_zero_eq] at h))
    | false =>
      have hn' : Hide (noneN fs.xs i (k + 1)) := ⟨fun j h hj => by
        by_cases e : j = k
        · subst e; exact hf
        · exact hn.h j h (by omega)⟩
      unfold namedS at hf
      clear hn hR
      simp only [Bool.or_eq_false_iff, Bool.and_eq_false_iff, decide_eq_false_iff_not] at hf
      have e1 : ¬ fs.xs[k].a = i := by omega
      have e2 : ¬ fs.xs[k].b = i := by omega
      by_cases e3 : fs.xs[k].kind = 2
      · have e4 : ¬ fs.xs[k].c = i := by omega
        clear hf
        (repeat' first | simp [*, initEnv, Fact.cells] | (refine wpIf_two (fun _ h => ?_) (fun _ h => ?_) <;> try simp [-Nat.le_zero_eq] at h))
        exact ⟨k + 1, by omega, by omega, by omega, hn'⟩
      · clear hf
        (repeat' first | simp [*, initEnv, Fact.cells] | (refine wpIf_two (fun _ h => ?_) (fun _ h => ?_) <;> try simp [-Nat.le_zero_eq] at h))
        exact ⟨k + 1, by omega, by omega, by omega, hn'⟩
  · have hil : k = fs.xs.length := by omega
    subst hil
    have hRk : R = false := by
      rw [← hR.h, ← Bool.not_eq_true]
      intro h
      obtain ⟨f, hf, h⟩ := List.any_eq_true.1 h
      obtain ⟨j, hj, rfl⟩ := List.mem_iff_getElem.1 hf
      rw [hn.h j hj hj] at h
      simp at h
    subst hRk
    clear hn hR
    (repeat' first | simp [*, initEnv] | (refine wpIf_two (fun _ h => ?_) (fun _ h => ?_) <;> try simp [-Nat.le_zero_eq] at h))
theorem sh66 : G.shared 66 = false := by decide
theorem e66 (n : Nat) (p : Problem) (bs : Sl Box) (l : List Nat) (nf : p.facts.xs.length ≤ 60) (nb : bs.xs.length ≤ 12) (nl : l.length ≤ 12) (hl0 : 0 < l.length) (hb : ∀ b ∈ bs.xs, validB b = true) (hlk : ∀ k ∈ l, k < bs.xs.length) (hnm : namedA p.facts.xs (l[0] : Nat) = decide (1 < l.length)) : callP G (n + 2) 66 [.agg p.cells, bs.pv Box.cells 4, .agg (partF l)] = some (.int .i64 (volP bs.xs l)) := by
  refine callP_of (ext_none _) rfl g66 rfl ?_
  obtain ⟨k0, hk0⟩ : ∃ k, l[0] = k := ⟨_, rfl⟩
  have c1 := fun H => call_pureC (G := G) (n := n + 1) (H := H) (caps := []) (ps := [.agg p.cells, .int .i64 (k0 : Int)]) sh119 (e119 n p (k0 : Int) nf)
  rw [← hk0, hnm] at c1
  rw [hk0] at c1
  have har : Hide (∀ (k : Nat) (h : k < bs.xs.length) (H : Heap), doCall (calleeOf G (n + 1)) H (.pure (.func 94 [])) [.pure (.agg bs.xs[k].cells)] = some (.val (.pure (.int .i64 (areaB bs.xs[k]))))) := ⟨fun k h H => call_pureC (caps := []) (ps := [_]) sh94 (e94 n bs.xs[k] (hb _ (List.getElem_mem h)))⟩
  have ha : Hide (∀ k, k < bs.xs.length → 1 ≤ areaB bs.xs[k]!) := ⟨fun k h => by
    have hv := valid_iff.1 (hb _ (List.getElem_mem h))
    rw [getElem!_pos bs.xs k h]
    exact area_pos ⟨by omega, by omega⟩⟩
  have hlkH := Hide.mk hlk
  have e1 : (intsN l).length = l.length := intsN_length l
  have hj0 : 0 < (intsN l).length := by rw [e1]; exact hl0
  have gj0 : (intsN l)[0] = (k0 : Int) := by simp [intsN, hk0]
  have hl0I : (0 : Int) < l.length := by omega
  have ha0 : addrV 1 (.pure ((Sl.mk false (intsN l)).pv intF 1)) (.pure (.int .i64 0)) = some (.val (.pure (.ptr false [.int .i64 (k0 : Int)] 0))) := by
    have := addrV_sl (k := .i64) (n := 0) (f := intF) (sz := 1) (s := Sl.mk false (intsN l)) hj0
    simp only [Sl.xs_mk, gj0, intF] at this
    exact this
  simp only [Problem.cells, List.map_cons, List.map_nil] at c1
  clear hb hlk hnm hk0
  by_cases h1l : 1 < l.length
  · have hd : decide (1 < l.length) = true := by simp [h1l]
    rw [hd] at c1
    clear hd
    have hvP := Hide.mk (show volP bs.xs l = volTo bs.xs l l.length from (volTo_all _ _).symm)
    (repeat' first | simp [*, initEnv, c66, partF, Problem.cells] | (refine wpIf_two (fun _ h => ?_) (fun _ h => ?_) <;> try simp [-Nat.le_zero_eq] at h))
    refine wp_loopF [(8, 9), (18, 38)] (fun (j : Nat) env H => env 9 = .pure (.int .i64 j) ∧ j ≤ l.length ∧ ∃ y : Int, env 8 = .pure (.int .i64 y) ∧ Hide (y = volTo bs.xs l j)) (fun j => l.length - j) 0 ?_ ?_ ?_ ?_
    · decide
    · exact ⟨by simp, by omega, 1, by simp, ⟨(volTo_zero _ _).symm⟩⟩
    · simp only [loopFuel]; omega
    clear c1 ha0
    rintro j env H ⟨g19, hj, y, g8, hy⟩
    by_cases hjl : j < l.length
    · have w2 : IntKind.i64.wrap ((j : Int) + 1) = (j + 1 : Nat) := by rw [wrap64 (by omega) (by omega)]; omega
      have hjI : (j : Int) < l.length := by omega
      have hk := hlkH.h _ (List.getElem_mem hjl)
      obtain ⟨k, hkk⟩ : ∃ k, l[j] = k := ⟨_, rfl⟩
      rw [hkk] at hk
      have hjx : j < (intsN l).length := by rw [e1]; exact hjl
      have gj : (intsN l)[j] = (k : Int) := by simp [intsN, hkk]
      have hkI : (k : Int) < bs.xs.length := by omega
      have c2 := har.h k hk
      have hr := volTo_rng ha.h hlkH.h j
      rw [← hy.h] at hr
      have hak := ha.h k hk
      rw [getElem!_pos bs.xs k hk] at hak
      obtain ⟨A, hA⟩ : ∃ A, areaB bs.xs[k] = A := ⟨_, rfl⟩
      rw [hA] at c2 hak
      obtain ⟨z, hz⟩ : ∃ z, min 65537 A = z := ⟨_, rfl⟩
      have hw : IntKind.i64.wrap (y * z) = y * z := wrap_uv (by omega) (by omega) (by omega) (by omega)
      have hy2 : Hide (min (y * z) 65537 = volTo bs.xs l (j + 1)) := ⟨by rw [volTo_next hjl h1l, hkk, getElem!_pos bs.xs k hk, hy.h, hA, ← hz, ← hy.h]; exact min_area hr.1 hak (by omega)⟩
      simp only [Box.cells, Span.cells] at c2
      clear hr hy hkk hA hak
      (repeat' first | simp [*, initEnv, Box.cells, Span.cells] | (refine wpIf_two (fun _ h => ?_) (fun _ h => ?_) <;> try simp [-Nat.le_zero_eq] at h))
      exact ⟨j + 1, by omega, by omega, by omega, hy2⟩
    · have hjN : j = l.length := by omega
      subst hjN
      have hyv := hy.h
      rw [← hvP.h] at hyv
      subst hyv
      clear hy hvP
      (repeat' first | simp [*, initEnv] | (refine wpIf_two (fun _ h => ?_) (fun _ h => ?_) <;> try simp [-Nat.le_zero_eq] at h))
  · have hd : decide (1 < l.length) = false := by simp [h1l]
    rw [hd] at c1
    have hv : volP bs.xs l = 1 := by unfold volP; rw [if_neg h1l]
    rw [hv]
    clear hd hv
    (repeat' first | simp [*, initEnv, c66, partF, Problem.cells] | (refine wpIf_two (fun _ h => ?_) (fun _ h => ?_) <;> try simp [-Nat.le_zero_eq] at h))
end Go.Proofs.YtmghcpdpilgplaaGreat.Vm
