/- Narrow, Parts and Volume: the program's, walked. find and solved: what is seen of all parts, walked. solved, Count: the program's, walked. found.hull and Hull: the program's, walked. with, further and Decide: the program's, walked. What find, Count, Hull and Decide say of the solutions. Plain Lean. What Count, Hull and Decide say of the solutions. Plain Lean. Problems that are moved, with their facts in another order: what is found of them. Plain Lean. -/
import Derived.Test.YtmghcpdpilgplaaPk22
import Derived.Test.YtmghcpdpilgplaaPk24
import Derived.Test.YtmghcpdpilgplaaPk17
namespace Go.Proofs.Ytmghcpdpilgplaa.Vm
open Go
set_option linter.unusedSimpArgs false
set_option linter.unusedVariables false
set_option maxHeartbeats 4000000
set_option maxRecDepth 4000
def errN (r : Option (List Box)) : Int := if r.isSome = true then 0 else 9
def NarOut (p : Problem) (nar : Option (List Box) → PV) (v : PV) (e : Int) : Prop := (checkS p ≠ 0 ∧ v = .nils ∧ e = checkS p) ∨ (checkS p = 0 ∧ ∃ r, IsNar failsP p.facts.xs p.boxes.xs r ∧ v = nar r ∧ e = errN r)
theorem sh20 : G.shared 20 = false := by decide
theorem e20 (n : Nat) (p : Problem) (v : PV) (e : Int) (h : NarOut p (narPV p) v e) : callP G (n + 8) 20 [.agg p.cells] = some (.tup [v, .int .i64 e]) := by
  refine callP_of (ext_none _) rfl g20 rfl ?_
  have hc := fun H => call_pureC (G := G) (n := n + 7) (H := H) (caps := []) (ps := [.agg p.cells]) sh11 (e11 (n + 4) p)
  rcases h with ⟨h0, rfl, rfl⟩ | ⟨h0, r, hr, rfl, rfl⟩
  · generalize checkS p = c at *
    simp only [Problem.cells, List.map_cons, List.map_nil] at hc
    (repeat' first | simp [*, initEnv, c20, Problem.cells] | (refine wpIf_two (fun _ h => ?_) (fun _ h => ?_) <;> try simp [-Nat.le_zero_eq] at h))
  · have hn := fun H => call_pureC (G := G) (n := n + 7) (H := H) (caps := []) (ps := [.agg p.cells]) sh44 (e44 n p (check_ok.1 h0) r hr)
    rw [h0] at hc
    have hcd : (narPV p r).cold = true := by
      cases r with
      | none => rfl
      | some l => 
        unfold narPV
        simp only
        split
        · rfl
        · exact cold_boxes l
    have hnone : r = none → narPV p r = .nils := fun h => by subst h; rfl
    generalize hv : narPV p r = v at *
    simp only [Problem.cells, List.map_cons, List.map_nil] at hc hn
    clear h0 hr
    cases hrs : r with
    | none =>
      have h9 := hnone hrs
      subst hrs
      subst h9
      clear hv hnone
      have e9 : errN none = 9 := rfl
      (repeat' first | simp [*, initEnv, c20, Problem.cells] | (refine wpIf_two (fun _ h => ?_) (fun _ h => ?_) <;> try simp [-Nat.le_zero_eq] at h))
    | some l =>
      subst hrs
      clear hv hnone
      have e9 : errN (some l) = 0 := rfl
      (repeat' first | simp [*, initEnv, c20, Problem.cells] | (refine wpIf_two (fun _ h => ?_) (fun _ h => ?_) <;> try simp [-Nat.le_zero_eq] at h))
theorem nar_sl {p : Problem} {l : List Box} (hl : l.length = p.boxes.xs.length) : ∃ q : Sl Box, narPV p (some l) = q.pv Box.cells 4 ∧ q.xs = l := by
  obtain ⟨bs, fs⟩ := p
  cases bs with
  | nil =>
    have : l = [] := List.eq_nil_of_length_eq_zero hl
    subst this
    exact ⟨.nil, rfl, rfl⟩
  | mk h xs => exact ⟨.mk false l, rfl, rfl⟩
theorem parts_ok (m : Nat → Nat) (n : Nat) : (partsL' m n).length ≤ n ∧ ∀ l ∈ partsL' m n, l.length ≤ n ∧ ∀ k ∈ l, k < n := by
  refine ⟨partsTo_len m n n, fun l hl => ?_⟩
  obtain ⟨i, _, _, rfl⟩ := mem_parts.1 hl
  exact ⟨partTo_len m i n, fun k hk => (mem_partL.1 hk).1⟩
end Go.Proofs.Ytmghcpdpilgplaa.Vm

namespace Go.Proofs.Ytmghcpdpilgplaa.Vm
open Go
set_option linter.unusedSimpArgs false
set_option linter.unusedVariables false
set_option maxHeartbeats 4000000
set_option maxRecDepth 4000
structure FoundD where
  empty : Bool
  seens : List SeenD
def seenF (s : SeenD) : List PV := [s.pv]
@[simp] def FoundD.cells (D : FoundD) : List PV := [.bool D.empty, (Sl.of D.seens).pv seenF 1]
def emptyB (L : List SeenD) : Bool := L.any fun s => s.n == 0
theorem emptyB_snoc (L : List SeenD) (s : SeenD) : emptyB (L ++ [s]) = (emptyB L || decide ((s.n : Int) = 0)) := by
  unfold emptyB
  rw [List.any_append]
  simp only [List.any_cons, List.any_nil, Bool.or_false]
  congr 1
  rw [Bool.eq_iff_iff]
  simp
def FindOut (p : Problem) (D : FoundD) (e : Int) : Prop := (IsNar failsP p.facts.xs p.boxes.xs none ∧ D = ⟨true, []⟩ ∧ e = 0) ∨
  ∃ l m, IsNar failsP p.facts.xs p.boxes.xs (some l) ∧ IsCls (edgesL p.facts.xs) p.boxes.xs.length m ∧
    ((65536 < volL l (partsL' m p.boxes.xs.length) ∧ D = ⟨false, []⟩ ∧ e = 2) ∨
     (volL l (partsL' m p.boxes.xs.length) ≤ 65536 ∧ D = ⟨emptyB ((partsL' m p.boxes.xs.length).map (lookD p.facts.xs l)), (partsL' m p.boxes.xs.length).map (lookD p.facts.xs l)⟩ ∧ e = 0))
theorem volL_max {b : List Box} : ∀ {ps : List (List Nat)} {x : Int} {g : List Nat}, g ∈ ps → volP b g ≤ ps.foldl (fun x l => max x (volP b l)) x
  | a :: ps, x, g, h => by
    rw [List.foldl_cons]
    rcases List.mem_cons.1 h with rfl | h
    · have mono : ∀ (ps : List (List Nat)) (x : Int), x ≤ ps.foldl (fun x l => max x (volP b l)) x := by
        intro ps
        induction ps with
        | nil => intro x; exact Int.le_refl _
        | cons a ps ih => intro x; have := ih (max x (volP b a)); rw [List.foldl_cons]; omega
      have := mono ps (max x (volP b g))
      omega
    · exact volL_max h
theorem fact_named {p : Problem} (ok : CheckOk p) : ∀ f ∈ p.facts.xs, Named f p.boxes.xs.length := fun f hf => named_ok (ok.fact f hf)
theorem fact_apart {p : Problem} (ok : CheckOk p) : ∀ f ∈ p.facts.xs, f.a ≠ f.b ∧ (f.kind = 2 → f.c ≠ f.a) := fun f hf => by
  have h := (formedB_iff f _).1 (ok.fact f hf)
  refine ⟨by omega, fun hk => ?_⟩
  have := h.2.2.2.2.2.1 hk
  omega
theorem look_in {p : Problem} (ok : CheckOk p) {l : List Box} {m : Nat → Nat} (hr : IsNar failsP p.facts.xs p.boxes.xs (some l)) (hm : IsCls (edgesL p.facts.xs) p.boxes.xs.length m) (hv : volL l (partsL' m p.boxes.xs.length) ≤ 65536) {q : Sl Box} (hq : q.xs = l) {g : List Nat} (hg : g ∈ partsL' m p.boxes.xs.length) : LookIn p q g := by
  have hd := parts_div hm (fact_named ok)
  have hlen : l.length = p.boxes.xs.length := hr.1.sub.1
  obtain ⟨i, hi, hri, rfl⟩ := mem_parts.1 hg
  have hpo := part_one hm (fact_named ok) (fact_apart ok) hi hri
  have h1 := hd.one _ hg
  have hpl := parts_ok m p.boxes.xs.length
  refine ⟨ok, by rw [hq]; exact hr.1.sub, by rw [hq]; exact hr.1.wf, h1.1, fun k hk => by rw [hq, hlen]; exact h1.2 k hk, hpo.2.1, by have := (hpl.2 _ hg).1; have := ok.nb; omega, fun f hf ha => hd.within f hf _ hg ha, fun h => ?_⟩
  rw [hq]
  refine sols_few hr.1.wf (fun k hk => by rw [hlen]; exact h1.2 k hk) h ?_
  have := volL_max (b := l) (x := 0) hg
  unfold volL at hv
  omega
theorem sh48 : G.shared 48 = false := by decide
theorem e48 (n : Nat) (p : Problem) (ok : CheckOk p) (D : FoundD) (e : Int) (h : FindOut p D e) : callP G (n + 51) 48 [.agg p.cells] = some (.tup [.agg D.cells, .int .i64 e]) := by
  refine callP_of (ext_none _) rfl g48 rfl ?_
  rcases h with ⟨hr, rfl, rfl⟩ | ⟨l, m, hr, hm, h⟩
  · have hn := fun H => call_pureC (G := G) (n := n + 50) (H := H) (caps := []) (ps := [.agg p.cells]) sh44 (e44 (n + 43) p ok none hr)
    have hnone : narPV p none = .nils := rfl
    rw [hnone] at hn
    simp only [Problem.cells, List.map_cons, List.map_nil] at hn
    clear hr hnone
    (repeat' first | simp [*, initEnv, c48, Problem.cells] | (refine wpIf_two (fun _ h => ?_) (fun _ h => ?_) <;> try simp [-Nat.le_zero_eq] at h) | (apply wpE_appendV; (focus (first | assumption | (repeat' first | assumption | with_reducible apply GrowV.setNew | with_reducible apply GrowV.alloc | with_reducible apply GrowV.set | (with_reducible show ¬ Names _ _; simp [*]; done)))); (focus (exact fun _ => rfl)); (focus decide); (focus (intro a; first | rfl | simp)); (focus (simp [maxCells] <;> omega))) | (refine after_intro fun v2 H2 hv2 hnx2 hget2 hnew2 hone2 hcel2 => ?_))
  · have hl : l.length = p.boxes.xs.length := hr.1.sub.1
    obtain ⟨q, hq, hqx⟩ := nar_sl hl
    have hn := fun H => call_pureC (G := G) (n := n + 50) (H := H) (caps := []) (ps := [.agg p.cells]) sh44 (e44 (n + 43) p ok (some l) hr)
    have hp := fun H => call_pureC (G := G) (n := n + 50) (H := H) (caps := []) (ps := [.agg p.cells]) sh77 (e77 (n + 48) p ok m hm)
    have hpo := parts_ok m p.boxes.xs.length
    have nb := ok.nb
    have hv := fun H => call_pureC (G := G) (n := n + 50) (H := H) (caps := []) (ps := [q.pv Box.cells 4, (Sl.of (partsL' m p.boxes.xs.length)).pv partF 1]) sh78 (e78 (n + 48) q (Sl.of (partsL' m p.boxes.xs.length)) (by rw [hqx]; omega) (by rw [Sl.xs_of]; omega) (by rw [hqx]; exact valid_sub ok hr.1.sub hr.1.wf) (by rw [Sl.xs_of, hqx, hl]; exact fun x hx => ⟨by have := (hpo.2 x hx).1; omega, (hpo.2 x hx).2⟩))
    have hlk := Hide.mk (fun (hvol : volL l (partsL' m p.boxes.xs.length) ≤ 65536) (g : List Nat) (hg : g ∈ partsL' m p.boxes.xs.length) H => call_pureC (G := G) (n := n + 50) (H := H) (caps := []) (ps := [.agg p.cells, q.pv Box.cells 4, partPV g]) sh79 (e79 n p q g (look_in ok hr hm hvol hqx hg)))
    rw [hqx] at hlk
    rw [partsPV_sl] at hp
    rw [Sl.xs_of, hqx] at hv
    have hps : Hide ((partsL' m p.boxes.xs.length).length ≤ 12) := ⟨by omega⟩
    generalize partsL' m p.boxes.xs.length = gs at *
    rcases h with ⟨hvol, rfl, rfl⟩ | ⟨hvol, hDe, rfl⟩
    · have hvol' : 65536 < volL l gs := hvol
      rw [hq] at hn
      simp only [Problem.cells, List.map_cons, List.map_nil] at hn hp hv
      clear hr hm hpo hqx hq ok nb hl hlk hvol
      generalize volL l gs = x at *
      generalize q.pv Box.cells 4 = y at *
      generalize (Sl.of gs).pv partF 1 = w at *
      (repeat' first | simp [*, initEnv, c48, Problem.cells] | (refine wpIf_two (fun _ h => ?_) (fun _ h => ?_) <;> try simp [-Nat.le_zero_eq] at h) | (apply wpE_appendV; (focus (first | assumption | (repeat' first | assumption | with_reducible apply GrowV.setNew | with_reducible apply GrowV.alloc | with_reducible apply GrowV.set | (with_reducible show ¬ Names _ _; simp [*]; done)))); (focus (exact fun _ => rfl)); (focus decide); (focus (intro a; first | rfl | simp)); (focus (simp [maxCells] <;> omega))) | (refine after_intro fun v2 H2 hv2 hnx2 hget2 hnew2 hone2 hcel2 => ?_))
    · have hvol' : ¬ 65536 < volL l gs := by omega
      have hlk2 := Hide.mk (hlk.h hvol)
      rw [hq] at hn
      simp only [Problem.cells, List.map_cons, List.map_nil] at hn hp hv
      clear hr hm hpo hqx hq ok nb hl hlk hvol
      generalize volL l gs = x at *
      generalize hy : q.pv Box.cells 4 = y at *
      obtain ⟨s, hs⟩ : ∃ s, s = Sl.of gs := ⟨_, rfl⟩
      have hsx : s.xs = gs := by rw [hs, Sl.xs_of]
      rw [← hs] at hp hv
      have hsl : s.xs.length ≤ 12 := by rw [hsx]; exact hps.h
      have hsxH := Hide.mk hsx
      have hDeH := Hide.mk hDe
      clear hs hsx hy hDe
      (repeat' first | simp [*, initEnv, c48, Problem.cells] | (refine wpIf_two (fun _ h => ?_) (fun _ h => ?_) <;> try simp [-Nat.le_zero_eq] at h) | (apply wpE_appendV; (focus (first | assumption | (repeat' first | assumption | with_reducible apply GrowV.setNew | with_reducible apply GrowV.alloc | with_reducible apply GrowV.set | (with_reducible show ¬ Names _ _; simp [*]; done)))); (focus (exact fun _ => rfl)); (focus decide); (focus (intro a; first | rfl | simp)); (focus (simp [maxCells] <;> omega))) | (refine after_intro fun v2 H2 hv2 hnx2 hget2 hnew2 hone2 hcel2 => ?_))
      refine wp_loopF [(9, 10), (28, 52)] (fun (i : Nat) env H => env 28 = .pure (.int .i64 i) ∧ i ≤ s.xs.length ∧ 1 < H.nx ∧ H.get 0 = .cells true [.pure (.bool false), .pure .nils] ∧ ∃ V, H.get 1 = .cells true [.pure (.bool (emptyB ((gs.map (lookD p.facts.xs l)).take i))), V] ∧ Hide (GrowV seenF 1 H V ((gs.map (lookD p.facts.xs l)).take i) ∧ ∀ id, Names V id → 1 < id)) (fun i => s.xs.length - i) 0 ?_ ?_ ?_ ?_
      · decide
      · exact ⟨by simp, by omega, by simp, by simp, .pure .nils, by simp [emptyB], ⟨by simpa using GrowV.nil, fun id ⟨_, _, _, h⟩ => by simp at h⟩⟩
      · simp only [loopFuel]; omega
      rintro i env H ⟨g28, hi, hnx, h0, V, h1, hV⟩
      generalize hb : emptyB ((gs.map (lookD p.facts.xs l)).take i) = b at *
      by_cases hlt : i < s.xs.length
      · have w1 : IntKind.i64.wrap ((i : Int) + 1) = (i + 1 : Nat) := by rw [wrap64 (by omega) (by omega)]; omega
        have hltI : (i : Int) < s.xs.length := by omega
        have hig : i < gs.length := by rw [← hsxH.h]; exact hlt
        have hme : s.xs[i] ∈ gs := by rw [← hsxH.h]; exact List.getElem_mem hlt
        have hlk3 := hlk2.h s.xs[i] hme
        have hnext : (gs.map (lookD p.facts.xs l)).take (i + 1) = (gs.map (lookD p.facts.xs l)).take i ++ [lookD p.facts.xs l s.xs[i]] := by
          have e := hsxH.h
          subst e
          rw [List.take_add_one, List.getElem?_eq_getElem (by simpa using hlt)]
          simp
        obtain ⟨g, hg⟩ : ∃ g, s.xs[i] = g := ⟨_, rfl⟩
        rw [hg] at hlk3 hnext
        have hnb : Hide (emptyB ((gs.map (lookD p.facts.xs l)).take (i + 1)) = (b || decide (((lookD p.facts.xs l g).n : Int) = 0))) := ⟨by
          rw [hnext, emptyB_snoc, hb]⟩
        have hlen : ((gs.map (lookD p.facts.xs l)).take i).length ≤ 12 := by rw [List.length_take]; have := hps.h; omega
        have hnextH := Hide.mk hnext
        generalize lookD p.facts.xs l g = D' at *
        generalize (gs.map (lookD p.facts.xs l)).take i = L at *
        simp only [Problem.cells, partPV_sl, List.map_cons, List.map_nil] at hlk3
        have hVo := hV.h.1.1.one
        have hVo1 := hVo.1
        have hVo2 := hVo.2
        have hpvE : D'.pv = .ptr false [partPV D'.part, .int .i64 D'.n, .slice false 4 (chunks 4 D'.part.length (D'.ends.map optPV)), optPV D'.first] 0 := rfl
        have hDH := Hide.mk hpvE
        rw [hpvE] at hlk3
        clear hlk2 hnext hb hVo hpvE
        obtain ⟨pp, hpp⟩ : ∃ pp, pp = partPV D'.part := ⟨_, rfl⟩
        obtain ⟨cc, hcc⟩ : ∃ cc, cc = chunks 4 D'.part.length (D'.ends.map optPV) := ⟨_, rfl⟩
        obtain ⟨oo, hoo⟩ : ∃ oo, oo = optPV D'.first := ⟨_, rfl⟩
        have hDc : Hide (D'.pv = .ptr false [pp, .int .i64 D'.n, .slice false 4 cc, oo] 0) := ⟨by rw [hDH.h, ← hpp, ← hcc, ← hoo]⟩
        rw [← hpp, ← hcc, ← hoo] at hlk3
        have hseE : seenF D' = [D'.pv] := rfl
        rw [hDc.h] at hseE
        obtain ⟨nn, hnn⟩ : ∃ nn : Int, nn = D'.n := ⟨_, rfl⟩
        rw [← hnn] at hlk3 hnb hseE
        have hseH := Hide.mk hseE
        clear hnn hseE
        clear hpp hcc hoo hDH
        cases b with
        | true =>
          have hnb2 : Hide (emptyB ((gs.map (lookD p.facts.xs l)).take (i + 1)) = true) := ⟨by rw [hnb.h]; rfl⟩
          clear hnb
          (repeat' first | simp [*, initEnv, partF] | (refine wpIf_two (fun _ h => ?_) (fun _ h => ?_) <;> try simp [-Nat.le_zero_eq] at h) | (apply wpE_appendV; (focus (first | assumption | (repeat' first | assumption | with_reducible apply GrowV.setNew | with_reducible apply GrowV.alloc | with_reducible apply GrowV.set | (with_reducible show ¬ Names _ _; simp [*]; done)))); (focus (exact fun _ => rfl)); (focus decide); (focus (intro a; first | rfl | simp)); (focus (simp [maxCells] <;> omega))) | (refine after_intro fun v2 H2 hv2 hnx2 hget2 hnew2 hone2 hcel2 => ?_))
          refine wpE_appendV (f := seenF) (sz := 1) (l := L) ((hV.h.1.set (fun hn => by have := hV.h.2 1 hn; omega) _).alloc _) (fun _ => rfl) (by decide) (fun _ => rfl) (by unfold maxCells; omega) ⟨D', by rw [hseH.h]; simp, ?_⟩
          intro V4 H4 hg4 ha
          have hV4 : Hide (GrowV seenF 1 H4 V4 ((gs.map (lookD p.facts.xs l)).take (i + 1)) ∧ ∀ id, Names V4 id → 1 < id) := ⟨by rw [hnextH.h]; exact hg4, fun id hn => by have := ha.new id hn; simp at this; omega⟩
          have g0 : H4.get 0 = .cells true [.pure (.bool false), .pure .nils] := by
            rw [ha.get 0 (by rw [nx_alloc, nx_set]; omega) (fun hn => by have := hV.h.2 0 hn; omega), get_alloc_lt (by rw [nx_set]; omega), get_set_ne (by omega)]; exact h0
          have g1 : H4.get 1 = .cells true [.pure (.bool true), V] := by
            rw [ha.get 1 (by rw [nx_alloc, nx_set]; omega) (fun hn => by have := hV.h.2 1 hn; omega), get_alloc_lt (by rw [nx_set]; omega), get_set_own hnx]
          have gn : 1 < H4.nx := by have := ha.nx; simp at this; omega
          have o4 := hg4.1.one
          have o4a := o4.1
          have o4b := o4.2
          clear hg4 ha o4 hV
          (repeat' first | simp [*, initEnv] | (refine wpIf_two (fun _ h => ?_) (fun _ h => ?_) <;> try simp [-Nat.le_zero_eq] at h) | (apply wpE_appendV; (focus (first | assumption | (repeat' first | assumption | with_reducible apply GrowV.setNew | with_reducible apply GrowV.alloc | with_reducible apply GrowV.set | (with_reducible show ¬ Names _ _; simp [*]; done)))); (focus (exact fun _ => rfl)); (focus decide); (focus (intro a; first | rfl | simp)); (focus (simp [maxCells] <;> omega))) | (refine after_intro fun v2 H2 hv2 hnx2 hget2 hnew2 hone2 hcel2 => ?_))
          exact ⟨i + 1, by omega, by omega, by omega, V4, ⟨hnb2.h, rfl⟩, ⟨hV4.h.1.set (fun hn => by have := hV4.h.2 1 hn; omega) _, hV4.h.2⟩⟩
        | false =>
          by_cases hz : nn = 0
          · have hnb2 : Hide (emptyB ((gs.map (lookD p.facts.xs l)).take (i + 1)) = true) := ⟨by rw [hnb.h, decide_eq_true hz]; rfl⟩
            subst hz
            clear hnb
            (repeat' first | simp [*, initEnv, partF] | (refine wpIf_two (fun _ h => ?_) (fun _ h => ?_) <;> try simp [-Nat.le_zero_eq] at h) | (apply wpE_appendV; (focus (first | assumption | (repeat' first | assumption | with_reducible apply GrowV.setNew | with_reducible apply GrowV.alloc | with_reducible apply GrowV.set | (with_reducible show ¬ Names _ _; simp [*]; done)))); (focus (exact fun _ => rfl)); (focus decide); (focus (intro a; first | rfl | simp)); (focus (simp [maxCells] <;> omega))) | (refine after_intro fun v2 H2 hv2 hnx2 hget2 hnew2 hone2 hcel2 => ?_))
            refine wpE_appendV (f := seenF) (sz := 1) (l := L) ((hV.h.1.set (fun hn => by have := hV.h.2 1 hn; omega) _).alloc _) (fun _ => rfl) (by decide) (fun _ => rfl) (by unfold maxCells; omega) ⟨D', by rw [hseH.h]; simp, ?_⟩
            intro V4 H4 hg4 ha
            have hV4 : Hide (GrowV seenF 1 H4 V4 ((gs.map (lookD p.facts.xs l)).take (i + 1)) ∧ ∀ id, Names V4 id → 1 < id) := ⟨by rw [hnextH.h]; exact hg4, fun id hn => by have := ha.new id hn; simp at this; omega⟩
            have g0 : H4.get 0 = .cells true [.pure (.bool false), .pure .nils] := by
              rw [ha.get 0 (by rw [nx_alloc, nx_set]; omega) (fun hn => by have := hV.h.2 0 hn; omega), get_alloc_lt (by rw [nx_set]; omega), get_set_ne (by omega)]; exact h0
            have g1 : H4.get 1 = .cells true [.pure (.bool true), V] := by
              rw [ha.get 1 (by rw [nx_alloc, nx_set]; omega) (fun hn => by have := hV.h.2 1 hn; omega), get_alloc_lt (by rw [nx_set]; omega), get_set_own hnx]
            have gn : 1 < H4.nx := by have := ha.nx; simp at this; omega
            have o4 := hg4.1.one
            have o4a := o4.1
            have o4b := o4.2
            clear hg4 ha o4 hV
            (repeat' first | simp [*, initEnv] | (refine wpIf_two (fun _ h => ?_) (fun _ h => ?_) <;> try simp [-Nat.le_zero_eq] at h) | (apply wpE_appendV; (focus (first | assumption | (repeat' first | assumption | with_reducible apply GrowV.setNew | with_reducible apply GrowV.alloc | with_reducible apply GrowV.set | (with_reducible show ¬ Names _ _; simp [*]; done)))); (focus (exact fun _ => rfl)); (focus decide); (focus (intro a; first | rfl | simp)); (focus (simp [maxCells] <;> omega))) | (refine after_intro fun v2 H2 hv2 hnx2 hget2 hnew2 hone2 hcel2 => ?_))
            exact ⟨i + 1, by omega, by omega, by omega, V4, ⟨hnb2.h, rfl⟩, ⟨hV4.h.1.set (fun hn => by have := hV4.h.2 1 hn; omega) _, hV4.h.2⟩⟩
          · have hnb2 : Hide (emptyB ((gs.map (lookD p.facts.xs l)).take (i + 1)) = false) := ⟨by rw [hnb.h, decide_eq_false hz]; rfl⟩
            clear hnb
            (repeat' first | simp [*, initEnv, partF] | (refine wpIf_two (fun _ h => ?_) (fun _ h => ?_) <;> try simp [-Nat.le_zero_eq] at h) | (apply wpE_appendV; (focus (first | assumption | (repeat' first | assumption | with_reducible apply GrowV.setNew | with_reducible apply GrowV.alloc | with_reducible apply GrowV.set | (with_reducible show ¬ Names _ _; simp [*]; done)))); (focus (exact fun _ => rfl)); (focus decide); (focus (intro a; first | rfl | simp)); (focus (simp [maxCells] <;> omega))) | (refine after_intro fun v2 H2 hv2 hnx2 hget2 hnew2 hone2 hcel2 => ?_))
            refine wpE_appendV (f := seenF) (sz := 1) (l := L) ((hV.h.1.set (fun hn => by have := hV.h.2 1 hn; omega) _).alloc _) (fun _ => rfl) (by decide) (fun _ => rfl) (by unfold maxCells; omega) ⟨D', by rw [hseH.h]; simp, ?_⟩
            intro V4 H4 hg4 ha
            have hV4 : Hide (GrowV seenF 1 H4 V4 ((gs.map (lookD p.facts.xs l)).take (i + 1)) ∧ ∀ id, Names V4 id → 1 < id) := ⟨by rw [hnextH.h]; exact hg4, fun id hn => by have := ha.new id hn; simp at this; omega⟩
            have g0 : H4.get 0 = .cells true [.pure (.bool false), .pure .nils] := by
              rw [ha.get 0 (by rw [nx_alloc, nx_set]; omega) (fun hn => by have := hV.h.2 0 hn; omega), get_alloc_lt (by rw [nx_set]; omega), get_set_ne (by omega)]; exact h0
            have g1 : H4.get 1 = .cells true [.pure (.bool false), V] := by
              rw [ha.get 1 (by rw [nx_alloc, nx_set]; omega) (fun hn => by have := hV.h.2 1 hn; omega), get_alloc_lt (by rw [nx_set]; omega), get_set_own hnx]
            have gn : 1 < H4.nx := by have := ha.nx; simp at this; omega
            have o4 := hg4.1.one
            have o4a := o4.1
            have o4b := o4.2
            clear hg4 ha o4 hV
            (repeat' first | simp [*, initEnv] | (refine wpIf_two (fun _ h => ?_) (fun _ h => ?_) <;> try simp [-Nat.le_zero_eq] at h) | (apply wpE_appendV; (focus (first | assumption | (repeat' first | assumption | with_reducible apply GrowV.setNew | with_reducible apply GrowV.alloc | with_reducible apply GrowV.set | (with_reducible show ¬ Names _ _; simp [*]; done)))); (focus (exact fun _ => rfl)); (focus decide); (focus (intro a; first | rfl | simp)); (focus (simp [maxCells] <;> omega))) | (refine after_intro fun v2 H2 hv2 hnx2 hget2 hnew2 hone2 hcel2 => ?_))
            exact ⟨i + 1, by omega, by omega, by omega, V4, ⟨hnb2.h, rfl⟩, ⟨hV4.h.1.set (fun hn => by have := hV4.h.2 1 hn; omega) _, hV4.h.2⟩⟩
      · have hiN : i = s.xs.length := by omega
        subst hiN
        have hall : (gs.map (lookD p.facts.xs l)).take s.xs.length = gs.map (lookD p.facts.xs l) := by
          rw [hsxH.h]; exact List.take_of_length_le (by simp)
        rw [hall] at hb hV
        have hres : Hide (∀ o, FrzK (H.set 0 o) false 10 V ((Sl.of (gs.map (lookD p.facts.xs l))).pv seenF 1)) := ⟨fun o => (hV.h.1.set (fun hn => by have := hV.h.2 0 hn; omega) o).res (n := 8) (fun _ => rfl)⟩
        have hVo := hV.h.1.1.one
        have hVo1 := hVo.1
        have hVo2 := hVo.2
        have hDe := hDeH.h
        rw [hb] at hDe
        have hDb : D.empty = b := by rw [hDe]
        have hDs : Hide (D.seens = gs.map (lookD p.facts.xs l)) := ⟨by rw [hDe]⟩
        have hDeH2 := Hide.mk hDe
        have h0n : 0 < H.nx := by omega
        obtain ⟨ids, hids⟩ := FrzK.aggV (n := 10) (FrzL.cons (FrzK.pure (.bool b)) (.cons (hres.h (.cells true [.pure (.bool b), V])) .nil))
        rw [← hDs.h] at hids
        clear hV hVo hlk2 hDeH hDe hb hall hres
        (repeat' first | simp [*, initEnv] | (refine wpIf_two (fun _ h => ?_) (fun _ h => ?_) <;> try simp [-Nat.le_zero_eq] at h) | (apply wpE_appendV; (focus (first | assumption | (repeat' first | assumption | with_reducible apply GrowV.setNew | with_reducible apply GrowV.alloc | with_reducible apply GrowV.set | (with_reducible show ¬ Names _ _; simp [*]; done)))); (focus (exact fun _ => rfl)); (focus decide); (focus (intro a; first | rfl | simp)); (focus (simp [maxCells] <;> omega))) | (refine after_intro fun v2 H2 hv2 hnx2 hget2 hnew2 hone2 hcel2 => ?_))
end Go.Proofs.Ytmghcpdpilgplaa.Vm

namespace Go.Proofs.Ytmghcpdpilgplaa.Vm
open Go
set_option linter.unusedSimpArgs false
set_option linter.unusedVariables false
set_option maxHeartbeats 4000000
set_option maxRecDepth 4000
def SolvedOut (p : Problem) (D : FoundD) (e : Int) : Prop := (checkS p ≠ 0 ∧ D = ⟨false, []⟩ ∧ e = checkS p) ∨ (checkS p = 0 ∧ FindOut p D e)
theorem sh45 : G.shared 45 = false := by decide
theorem e45 (n : Nat) (p : Problem) (D : FoundD) (e : Int) (h : SolvedOut p D e) : callP G (n + 52) 45 [.agg p.cells] = some (.tup [.agg D.cells, .int .i64 e]) := by
  refine callP_of (ext_none _) rfl g45 rfl ?_
  have hc := fun H => call_pureC (G := G) (n := n + 51) (H := H) (caps := []) (ps := [.agg p.cells]) sh11 (e11 (n + 48) p)
  rcases h with ⟨h0, rfl, rfl⟩ | ⟨h0, hf⟩
  · generalize checkS p = c at *
    simp only [Problem.cells, List.map_cons, List.map_nil] at hc
    (repeat' first | simp [*, initEnv, c45, Problem.cells] | (refine wpIf_two (fun _ h => ?_) (fun _ h => ?_) <;> try simp [-Nat.le_zero_eq] at h))
  · have hn := fun H => call_pureC (G := G) (n := n + 51) (H := H) (caps := []) (ps := [.agg p.cells]) sh48 (e48 n p (check_ok.1 h0) D e hf)
    rw [h0] at hc
    obtain ⟨De, Ds⟩ := D
    simp only [Problem.cells, FoundD.cells, List.map_cons, List.map_nil] at hc hn ⊢
    clear h0 hf
    (repeat' first | simp [*, initEnv, c45, Problem.cells] | (refine wpIf_two (fun _ h => ?_) (fun _ h => ?_) <;> try simp [-Nat.le_zero_eq] at h))
def countL : List Nat → Int → Option Int
  | [], n => some n
  | c :: cs, n => if 4611686018427387904 / n < (c : Int) then none else countL cs (n * c)
def countF (D : FoundD) (e : Int) : Int × Int := if e ≠ 0 ∨ D.empty = true then (0, e) else match countL (D.seens.map (·.n)) 1 with
  | none => (0, 3)
  | some n => (n, 0)
theorem quo_le {n c : Int} (hn : 1 ≤ n) (hc : 0 ≤ c) (h : ¬ 4611686018427387904 / n < c) : n * c ≤ 4611686018427387904 := by
  have h1 : c ≤ 4611686018427387904 / n := by omega
  have h2 := Int.mul_le_mul_of_nonneg_left h1 (show (0 : Int) ≤ n by omega)
  have h3 := Int.mul_ediv_self_le (x := (4611686018427387904 : Int)) (k := n) (by omega)
  omega
theorem sh21 : G.shared 21 = false := by decide
theorem e21 (n : Nat) (p : Problem) (D : FoundD) (e : Int) (h : SolvedOut p D e) (hl : D.seens.length ≤ 12) (hz : D.empty = false → ∀ s ∈ D.seens, s.n ≠ 0) : callP G (n + 53) 21 [.agg p.cells] = some (.tup [.int .i64 (countF D e).1, .int .i64 (countF D e).2]) := by
  refine callP_of (ext_none _) rfl g21 rfl ?_
  have hn := fun H => call_pureC (G := G) (n := n + 52) (H := H) (caps := []) (ps := [.agg p.cells]) sh45 (e45 n p D e h)
  simp only [Problem.cells, FoundD.cells, List.map_cons, List.map_nil] at hn
  clear h
  by_cases h1 : e = 0
  case neg =>
    have hr : countF D e = (0, e) := by unfold countF; rw [if_pos (.inl h1)]
    rw [hr]
    clear hr hz
    (repeat' first | simp [*, initEnv, c21, Problem.cells] | (refine wpIf_two (fun _ h => ?_) (fun _ h => ?_) <;> try simp [-Nat.le_zero_eq] at h))
  case pos =>
    subst h1
    cases hD : D.empty with
    | true =>
      have hr : countF D 0 = (0, 0) := by unfold countF; rw [if_pos (.inr hD)]
      rw [hr]
      rw [hD] at hn
      clear hr hz
      (repeat' first | simp [*, initEnv, c21, Problem.cells] | (refine wpIf_two (fun _ h => ?_) (fun _ h => ?_) <;> try simp [-Nat.le_zero_eq] at h))
    | false =>
      obtain ⟨R, hR⟩ : ∃ R, countL (D.seens.map (·.n)) 1 = R := ⟨_, rfl⟩
      have hr : countF D 0 = match (generalizing := false) R with
          | none => (0, 3)
          | some n => (n, 0) := by unfold countF; rw [if_neg (by simp [hD]), hR]
      rw [hr]
      rw [hD] at hn
      have hzH := Hide.mk (hz hD)
      have hRH := Hide.mk hR
      clear hr hz hR hD
      obtain ⟨s, hs⟩ : ∃ s, s = Sl.of D.seens := ⟨_, rfl⟩
      have hsx : s.xs = D.seens := by rw [hs, Sl.xs_of]
      rw [← hs] at hn
      rw [← hsx] at hzH hRH hl
      clear hs hsx
      (repeat' first | simp [*, initEnv, c21, Problem.cells] | (refine wpIf_two (fun _ h => ?_) (fun _ h => ?_) <;> try simp [-Nat.le_zero_eq] at h))
      refine wp_loopF [(2, 3), (6, 6), (8, 8), (24, 41)] (fun (i : Nat) env H => env 24 = .pure (.int .i64 i) ∧ i ≤ s.xs.length ∧ ∃ m : Int, env 6 = .pure (.int .i64 m) ∧ 1 ≤ m ∧ m ≤ 4611686018427387904 ∧ Hide (countL ((s.xs.map (·.n)).drop i) m = R)) (fun i => s.xs.length - i) 0 ?_ ?_ ?_ ?_
      · decide
      · exact ⟨by simp, by omega, 1, by simp, by omega, by omega, hRH⟩
      · simp only [loopFuel]; omega
      clear hRH
      rintro i env H ⟨g24, hi, m, g6, hm1, hm2, hR⟩
      by_cases hlt : i < s.xs.length
      · have w1 : IntKind.i64.wrap ((i : Int) + 1) = (i + 1 : Nat) := by rw [wrap64 (by omega) (by omega)]; omega
        have hltI : (i : Int) < s.xs.length := by omega
        have hnz := hzH.h _ (List.getElem_mem hlt)
        have hd : (s.xs.map (·.n)).drop i = s.xs[i].n :: (s.xs.map (·.n)).drop (i + 1) := by
          rw [List.drop_eq_getElem_cons (by simpa using hlt)]
          simp
        rw [hd] at hR
        have hR1 := hR.h
        unfold countL at hR1
        obtain ⟨D', hD'⟩ : ∃ D', s.xs[i] = D' := ⟨_, rfl⟩
        rw [hD'] at hR1 hnz
        have hse : seenF s.xs[i] = [.ptr false [partPV D'.part, .int .i64 D'.n, .slice false 4 (chunks 4 D'.part.length (D'.ends.map optPV)), optPV D'.first] 0] := by rw [hD']; rfl
        generalize partPV D'.part = pp at *
        generalize chunks 4 D'.part.length (D'.ends.map optPV) = cc at *
        generalize optPV D'.first = oo at *
        have hc0 : (1 : Int) ≤ D'.n := by omega
        generalize (D'.n : Int) = c at *
        have htd : (4611686018427387904 : Int).tdiv m = 4611686018427387904 / m := Int.tdiv_eq_ediv_of_nonneg (by omega)
        have hq1 : 0 ≤ (4611686018427387904 : Int) / m := Int.ediv_nonneg (by omega) (by omega)
        have hq2 : (4611686018427387904 : Int) / m ≤ 4611686018427387904 := Int.ediv_le_self m (by omega)
        have hwq : IntKind.i64.wrap ((4611686018427387904 : Int) / m) = 4611686018427387904 / m := wrap64 (by omega) (by omega)
        have hm0 : m ≠ 0 := by omega
        by_cases hc : 4611686018427387904 / m < c
        · rw [if_pos hc] at hR1
          subst hR1
          generalize (4611686018427387904 : Int) / m = qq at *
          clear hR hd hD' hzH hnz
          (repeat' first | simp [*, initEnv] | (refine wpIf_two (fun _ h => ?_) (fun _ h => ?_) <;> try simp [-Nat.le_zero_eq] at h))
        · rw [if_neg hc] at hR1
          have hle := quo_le hm1 (by omega) hc
          have hge : 1 ≤ m * c := by
            have := Int.mul_le_mul hm1 hc0 (by omega) (by omega)
            omega
          have hwm : IntKind.i64.wrap (m * c) = m * c := wrap64 (by omega) (by omega)
          have hR1H := Hide.mk hR1
          generalize (4611686018427387904 : Int) / m = qq at *
          clear hR hR1 hd hD' hzH hnz
          (repeat' first | simp [*, initEnv] | (refine wpIf_two (fun _ h => ?_) (fun _ h => ?_) <;> try simp [-Nat.le_zero_eq] at h))
          exact ⟨i + 1, by omega, by omega, by omega, hR1H⟩
      · have hiN : i = s.xs.length := by omega
        subst hiN
        have hd : (s.xs.map (·.n)).drop s.xs.length = [] := List.drop_eq_nil_of_le (by simp)
        rw [hd] at hR
        have hR1 := hR.h
        unfold countL at hR1
        subst hR1
        clear hR hd hzH
        (repeat' first | simp [*, initEnv] | (refine wpIf_two (fun _ h => ?_) (fun _ h => ?_) <;> try simp [-Nat.le_zero_eq] at h))
end Go.Proofs.Ytmghcpdpilgplaa.Vm

namespace Go.Proofs.Ytmghcpdpilgplaa.Vm
open Go
set_option linter.unusedSimpArgs false
set_option linter.unusedVariables false
set_option maxHeartbeats 4000000
set_option maxRecDepth 4000
def endP (s : SeenD) (j k : Nat) : Pt := match s.ends[j]! with
  | some c => c[k]!
  | none => ⟨0, 0⟩
def hullP (s : SeenD) (k : Nat) : Box := ⟨⟨(endP s (4 * k) k).x, (endP s (4 * k + 1) k).x⟩, ⟨(endP s (4 * k + 2) k).y, (endP s (4 * k + 3) k).y⟩⟩
def hullL (pt : Nat) : List SeenD → Nat → Box × Int × Int
  | [], _ => (⟨⟨0, 0⟩, ⟨0, 0⟩⟩, -1, -1)
  | s :: ss, i => if pt ∈ s.part then (hullP s (s.part.idxOf pt), (i : Int), (s.part.idxOf pt : Nat)) else hullL pt ss (i + 1)
structure SeenGood (s : SeenD) : Prop where
  few : s.part.length ≤ 12
  len : s.ends.length = 4 * s.part.length
  all : ∀ o ∈ s.ends, ∃ c, o = some c ∧ c.length = s.part.length
theorem SeenGood.at {s : SeenD} (h : SeenGood s) {j k : Nat} (hj : j < s.ends.length) (hk : k < s.part.length) : ∃ (c : List Pt) (hc : k < c.length), s.ends[j] = some c ∧ endP s j k = c[k] := by
  obtain ⟨c, h1, h2⟩ := h.all _ (List.getElem_mem hj)
  refine ⟨c, by omega, h1, ?_⟩
  unfold endP
  rw [getElem!_pos s.ends j hj, h1]
  simp only
  rw [getElem!_pos c k (by omega)]
theorem addr_opt {c : List Pt} {k : Nat} (h : k < c.length) : addrV 2 (.pure (optPV (some c))) (.pure (.int .i64 k)) = some (.val (.pure (.ptr false [.int .i64 c[k].x, .int .i64 c[k].y] 0))) := by
  have := addrV_sl (k := .i64) (f := Pt.cells) (sz := 2) (s := Sl.mk false c) (n := k) (by simpa using h)
  simpa [optPV, Sl.hot] using this
theorem take4 {α : Type} {L : List α} {k : Nat} (h : 4 * k + 3 < L.length) : (L.drop (4 * k)).take 4 = [L[4 * k], L[4 * k + 1], L[4 * k + 2], L[4 * k + 3]] := by
  refine List.ext_getElem (by simp; omega) fun i h1 h2 => ?_
  have : i = 0 ∨ i = 1 ∨ i = 2 ∨ i = 3 := by simp at h2; omega
  rcases this with rfl | rfl | rfl | rfl <;> simp
theorem sh46 : G.shared 46 = false := by decide
theorem e46 (n : Nat) (D : FoundD) (pt : Nat) (hl : D.seens.length ≤ 12) (hg : ∀ s ∈ D.seens, SeenGood s) : callP G (n + 2) 46 [.agg D.cells, .int .i64 pt] = some (.tup [.agg (hullL pt D.seens 0).1.cells, .int .i64 (hullL pt D.seens 0).2.1, .int .i64 (hullL pt D.seens 0).2.2]) := by
  refine callP_of (ext_none _) rfl g46 rfl ?_
  obtain ⟨R, hR⟩ : ∃ R, hullL pt D.seens 0 = R := ⟨_, rfl⟩
  rw [hR]
  have hRH := Hide.mk hR
  have hgH := Hide.mk hg
  clear hR hg
  obtain ⟨De, Ds⟩ := D
  simp only [FoundD.cells] at *
  obtain ⟨s, hs⟩ : ∃ s, s = Sl.of Ds := ⟨_, rfl⟩
  have hsx : s.xs = Ds := by rw [hs, Sl.xs_of]
  rw [← hs]
  rw [← hsx] at hgH hRH hl
  clear hs hsx
  (repeat' first | simp [*, initEnv, c46, st_nilCheck] | (refine wpIf_two (fun _ h => ?_) (fun _ h => ?_) <;> try simp [-Nat.le_zero_eq] at h))
  refine wp_loopF [(5, 10), (14, 63)] (fun (i : Nat) env H => env 14 = .pure (.int .i64 i) ∧ i ≤ s.xs.length ∧ H.get 0 = .cells true [.pure (.int .i64 0), .pure (.int .i64 0), .pure (.int .i64 0), .pure (.int .i64 0)] ∧ Hide (hullL pt (s.xs.drop i) i = R)) (fun i => s.xs.length - i) 0 ?_ ?_ ?_ ?_
  · decide
  · exact ⟨by simp, by omega, by simp, by simpa using hRH⟩
  · simp only [loopFuel]; omega
  clear hRH
  rintro i env H ⟨g14, hi, h0, hR⟩
  have hn0 := nx_of_get h0
  have hne0 : (0 : Nat) ≠ H.nx := by omega
  by_cases hlt : i < s.xs.length
  · have w1 : IntKind.i64.wrap ((i : Int) + 1) = (i + 1 : Nat) := by rw [wrap64 (by omega) (by omega)]; omega
    have hltI : (i : Int) < s.xs.length := by omega
    have hD := hgH.h _ (List.getElem_mem hlt)
    have hd := List.drop_eq_getElem_cons hlt
    rw [hd] at hR
    have hR1 := hR.h
    unfold hullL at hR1
    obtain ⟨D', hD'⟩ : ∃ D', s.xs[i] = D' := ⟨_, rfl⟩
    rw [hD'] at hR1 hD
    have hse : seenF s.xs[i] = [.ptr false [partPV D'.part, .int .i64 D'.n, .slice false 4 (chunks 4 D'.part.length (D'.ends.map optPV)), optPV D'.first] 0] := by rw [hD']; rfl
    have c1 := fun H => call_pureC (G := G) (n := n + 1) (H := H) (caps := []) (ps := [(Sl.mk false (intsN D'.part)).pv intF 1, .int .i64 pt]) sh76 (e76 n (Sl.mk false (intsN D'.part)) pt (idxI D'.part pt) (by rw [Sl.xs_mk, intsN_length]; have := hD.few; omega) (idxI_ok D'.part pt))
    rw [← partPV_sl] at c1
    simp only [List.map_cons, List.map_nil] at c1
    by_cases hm : pt ∈ D'.part
    · rw [if_pos hm] at hR1
      have hk := List.idxOf_lt_length_of_mem hm
      rw [idxI_in (by omega) (by simpa using hm)] at c1
      simp only [Int.toNat_natCast] at c1
      generalize D'.part.idxOf pt = k at *
      have hlen := hD.len
      obtain ⟨a0, q0, z0, y0⟩ := hD.at (j := 4 * k) (k := k) (by omega) hk
      obtain ⟨a1, q1, z1, y1⟩ := hD.at (j := 4 * k + 1) (k := k) (by omega) hk
      obtain ⟨a2, q2, z2, y2⟩ := hD.at (j := 4 * k + 2) (k := k) (by omega) hk
      obtain ⟨a3, q3, z3, y3⟩ := hD.at (j := 4 * k + 3) (k := k) (by omega) hk
      have hca : addrV 4 (.pure (.slice false 4 (chunks 4 D'.part.length (D'.ends.map optPV)))) (.pure (.int .i64 k)) = some (.val (.pure (.ptr false [optPV (some a0), optPV (some a1), optPV (some a2), optPV (some a3)] 0))) := by
        refine addrV_pure ?_
        rw [chunk_get _ _ _ hk, take4 (by simp; omega)]
        simp [z0, z1, z2, z3]
      have hb : hullP D' k = ⟨⟨a0[k].x, a1[k].x⟩, ⟨a2[k].y, a3[k].y⟩⟩ := by unfold hullP; rw [y0, y1, y2, y3]
      rw [hb] at hR1
      have d0 := addr_opt q0
      have d1 := addr_opt q1
      have d2 := addr_opt q2
      have d3 := addr_opt q3
      subst hR1
      have hkI : ¬ (k : Int) < 0 := by omega
      clear hR hd hD' hgH hD hb y0 y1 y2 y3 z0 z1 z2 z3 hm
      generalize a0[k] = b0 at *
      generalize a1[k] = b1 at *
      generalize a2[k] = b2 at *
      generalize a3[k] = b3 at *
      generalize partPV D'.part = pp at *
      generalize (chunks 4 D'.part.length (D'.ends.map optPV)) = cc at *
      generalize optPV D'.first = oo at *
      generalize (D'.n : Int) = nn at *
      (repeat' first | simp [*, initEnv, st_nilCheck, st_indexA, addrA] | (refine wpIf_two (fun _ h => ?_) (fun _ h => ?_) <;> try simp [-Nat.le_zero_eq] at h))
    · rw [if_neg hm] at hR1
      have hi1 : idxI D'.part pt = -1 := by
        have h1 := idxI_ok D'.part pt
        rcases h1 with ⟨q, hq, _, e, _⟩ | ⟨h1, _⟩
        · exfalso
          apply hm
          have := List.getElem_mem hq
          rw [e] at this
          have := (mem_ints (part := D'.part) (x := pt) (by omega)).1 this
          simpa using this
        · exact h1
      rw [hi1] at c1
      have hR1H := Hide.mk hR1
      clear hR hR1 hd hD' hgH hD hm
      generalize partPV D'.part = pp at *
      generalize (chunks 4 D'.part.length (D'.ends.map optPV)) = cc at *
      generalize optPV D'.first = oo at *
      generalize (D'.n : Int) = nn at *
      (repeat' first | simp [*, initEnv, st_nilCheck] | (refine wpIf_two (fun _ h => ?_) (fun _ h => ?_) <;> try simp [-Nat.le_zero_eq] at h))
      exact ⟨i + 1, by omega, by omega, by omega, hR1H⟩
  · have hiN : i = s.xs.length := by omega
    subst hiN
    rw [List.drop_length] at hR
    have hR1 := hR.h
    unfold hullL at hR1
    subst hR1
    clear hR hgH
    (repeat' first | simp [*, initEnv] | (refine wpIf_two (fun _ h => ?_) (fun _ h => ?_) <;> try simp [-Nat.le_zero_eq] at h))
def hullF (D : FoundD) (e : Int) (N : Nat) : List Box × Int := if e ≠ 0 then ([], e) else if D.empty = true then ([], 9) else ((List.range N).map fun i => (hullL i D.seens 0).1, 0)
theorem sh25 : G.shared 25 = false := by decide
theorem e25 (n : Nat) (p : Problem) (D : FoundD) (e : Int) (h : SolvedOut p D e) (hb : p.boxes.xs.length ≤ 12 ∨ e ≠ 0) (hl : D.seens.length ≤ 12) (hg : D.empty = false → ∀ s ∈ D.seens, SeenGood s) : callP G (n + 53) 25 [.agg p.cells] = some (.tup [(Sl.of (hullF D e p.boxes.xs.length).1).pv Box.cells 4, .int .i64 (hullF D e p.boxes.xs.length).2]) := by
  refine callP_of (ext_none _) rfl g25 rfl ?_
  have hn := fun H => call_pureC (G := G) (n := n + 52) (H := H) (caps := []) (ps := [.agg p.cells]) sh45 (e45 n p D e h)
  simp only [Problem.cells, FoundD.cells, List.map_cons, List.map_nil] at hn
  clear h
  by_cases h1 : e = 0
  case neg =>
    have hr : hullF D e p.boxes.xs.length = ([], e) := by unfold hullF; rw [if_pos h1]
    rw [hr]
    clear hr hg
    (repeat' first | simp [*, initEnv, c25, Problem.cells] | (refine wpIf_two (fun _ h => ?_) (fun _ h => ?_) <;> try simp [-Nat.le_zero_eq] at h) | (apply wpE_appendV; (focus (first | assumption | (repeat' first | assumption | with_reducible apply GrowV.setNew | with_reducible apply GrowV.alloc | with_reducible apply GrowV.set | (with_reducible show ¬ Names _ _; simp [*]; done)))); (focus (exact fun _ => rfl)); (focus decide); (focus (intro a; first | rfl | simp)); (focus (simp [maxCells] <;> omega))) | (refine after_intro fun v2 H2 hv2 hnx2 hget2 hnew2 hone2 hcel2 => ?_))
  case pos =>
    subst h1
    cases hD : D.empty with
    | true =>
      have hr : hullF D 0 p.boxes.xs.length = ([], 9) := by unfold hullF; rw [if_neg (by simp), if_pos hD]
      rw [hr]
      rw [hD] at hn
      clear hr hg
      (repeat' first | simp [*, initEnv, c25, Problem.cells] | (refine wpIf_two (fun _ h => ?_) (fun _ h => ?_) <;> try simp [-Nat.le_zero_eq] at h) | (apply wpE_appendV; (focus (first | assumption | (repeat' first | assumption | with_reducible apply GrowV.setNew | with_reducible apply GrowV.alloc | with_reducible apply GrowV.set | (with_reducible show ¬ Names _ _; simp [*]; done)))); (focus (exact fun _ => rfl)); (focus decide); (focus (intro a; first | rfl | simp)); (focus (simp [maxCells] <;> omega))) | (refine after_intro fun v2 H2 hv2 hnx2 hget2 hnew2 hone2 hcel2 => ?_))
    | false =>
      have hr : hullF D 0 p.boxes.xs.length = ((List.range p.boxes.xs.length).map fun i => (hullL i D.seens 0).1, 0) := by unfold hullF; rw [if_neg (by simp), if_neg (by simp [hD])]
      rw [hr]
      have hN : p.boxes.xs.length ≤ 12 := by rcases hb with h | h; exact h; exact absurd rfl h
      have hcall := Hide.mk (fun (i : Nat) H => call_pureC (G := G) (n := n + 52) (H := H) (caps := []) (ps := [.agg D.cells, .int .i64 i]) sh46 (e46 (n + 50) D i hl (hg hD)))
      simp only [FoundD.cells, hD, List.map_cons, List.map_nil] at hcall
      rw [hD] at hn
      clear hr hg hb
      have hto : ∀ i, ((List.range (i + 1)).map fun i => (hullL i D.seens 0).1) = ((List.range i).map fun i => (hullL i D.seens 0).1) ++ [(hullL i D.seens 0).1] := fun i => by rw [List.range_succ, List.map_append]; rfl
      have hlenR : ∀ i, ((List.range i).map fun i => (hullL i D.seens 0).1).length = i := fun i => by simp
      have htoH := Hide.mk hto
      have hlenH := Hide.mk hlenR
      have h00 : Hide (((List.range 0).map fun i => (hullL i D.seens 0).1) = []) := ⟨rfl⟩
      obtain ⟨hu, hhu⟩ : ∃ hu : Nat → Box × Int × Int, hu = fun i => hullL i D.seens 0 := ⟨_, rfl⟩
      obtain ⟨T, hT⟩ : ∃ T : Nat → List Box, T = fun i => (List.range i).map fun i => (hullL i D.seens 0).1 := ⟨_, rfl⟩
      have hT1 : ((List.range p.boxes.xs.length).map fun i => (hullL i D.seens 0).1) = T p.boxes.xs.length := by rw [hT]
      rw [hT1]
      have hTn : Hide (∀ i, T (i + 1) = T i ++ [(hu i).1]) := ⟨fun i => by rw [hT, hhu]; exact htoH.h i⟩
      have hTl : Hide (∀ i, (T i).length = i) := ⟨fun i => by rw [hT]; exact hlenH.h i⟩
      have hT0 : Hide (T 0 = []) := ⟨by rw [hT]; rfl⟩
      have hcall2 : Hide (∀ (i : Nat) H, doCall (calleeOf G (n + 52)) H (.pure (.func 46 [])) [.pure (.agg [.bool false, (Sl.of D.seens).pv seenF 1]), .pure (.int .i64 i)] = some (.val (.pure (.tup [.agg (hu i).1.cells, .int .i64 (hu i).2.1, .int .i64 (hu i).2.2])))) := ⟨fun i H => by rw [hhu]; exact hcall.h i H⟩
      clear hto hlenR htoH hlenH hT hhu hT1 hcall h00 hD
      (repeat' first | simp [*, initEnv, c25, Problem.cells] | (refine wpIf_two (fun _ h => ?_) (fun _ h => ?_) <;> try simp [-Nat.le_zero_eq] at h) | (apply wpE_appendV; (focus (first | assumption | (repeat' first | assumption | with_reducible apply GrowV.setNew | with_reducible apply GrowV.alloc | with_reducible apply GrowV.set | (with_reducible show ¬ Names _ _; simp [*]; done)))); (focus (exact fun _ => rfl)); (focus decide); (focus (intro a; first | rfl | simp)); (focus (simp [maxCells] <;> omega))) | (refine after_intro fun v2 H2 hv2 hnx2 hget2 hnew2 hone2 hcel2 => ?_))
      refine wp_loopF [(6, 10), (26, 40)] (fun (i : Nat) env H => env 26 = .pure (.int .i64 i) ∧ i ≤ p.boxes.xs.length ∧ 0 < H.nx ∧ H.get 0 = .cells true [.pure (.bool false), .pure ((Sl.of D.seens).pv seenF 1)] ∧ ∃ V, env 6 = V ∧ Hide (GrowV Box.cells 4 H V (T i) ∧ ∀ id, Names V id → 0 < id)) (fun i => p.boxes.xs.length - i) 0 ?_ ?_ ?_ ?_
      · decide
      · exact ⟨by simp, by omega, by simp, by simp, .pure .nils, by simp, ⟨by rw [hT0.h]; exact GrowV.nil, fun id ⟨_, _, _, h⟩ => by simp at h⟩⟩
      · simp only [loopFuel]; omega
      rintro i env H ⟨g26, hi, hnx, h0, V, g6, hV⟩
      by_cases hlt : i < p.boxes.xs.length
      · have w1 : IntKind.i64.wrap ((i : Int) + 1) = (i + 1 : Nat) := by rw [wrap64 (by omega) (by omega)]; omega
        have hltI : (i : Int) < p.boxes.xs.length := by omega
        have hc := hcall2.h i
        have hTn1 := Hide.mk (hTn.h i)
        have hTl1 := Hide.mk (hTl.h i)
        generalize hu i = hui at *
        obtain ⟨⟨⟨x0, x1⟩, ⟨y0, y1⟩⟩, ii, kk⟩ := hui
        simp only [Box.cells, Span.cells] at hc
        have hVo := hV.h.1.1.one
        have hVo1 := hVo.1
        have hVo2 := hVo.2
        clear hcall2 hTn hTl hVo
        (repeat' first | simp [*, initEnv, Box.cells, Span.cells] | (refine wpIf_two (fun _ h => ?_) (fun _ h => ?_) <;> try simp [-Nat.le_zero_eq] at h) | (apply wpE_appendV; (focus (first | assumption | (repeat' first | assumption | with_reducible apply GrowV.setNew | with_reducible apply GrowV.alloc | with_reducible apply GrowV.set | (with_reducible show ¬ Names _ _; simp [*]; done)))); (focus (exact fun _ => rfl)); (focus decide); (focus (intro a; first | rfl | simp)); (focus (simp [maxCells] <;> omega))) | (refine after_intro fun v2 H2 hv2 hnx2 hget2 hnew2 hone2 hcel2 => ?_))
        refine wpE_appendV (f := Box.cells) (sz := 4) (l := T i) ((hV.h.1.setNew _ _).alloc _) (fun _ => rfl) (by decide) (fun _ => rfl) (by rw [hTl1.h]; unfold maxCells; omega) ⟨⟨⟨x0, x1⟩, ⟨y0, y1⟩⟩, by simp [Box.cells, Span.cells], ?_⟩
        intro V4 H4 hg4 ha
        have hV4 : Hide (GrowV Box.cells 4 H4 V4 (T (i + 1)) ∧ ∀ id, Names V4 id → 0 < id) := ⟨by rw [hTn1.h]; exact hg4, fun id hn => by have := ha.new id hn; simp at this; omega⟩
        have g0 : H4.get 0 = .cells true [.pure (.bool false), .pure ((Sl.of D.seens).pv seenF 1)] := by
          rw [ha.get 0 (by rw [nx_alloc, nx_set, nx_alloc]; omega) (fun hn => by have := hV.h.2 0 hn; omega), get_alloc_lt (by rw [nx_set, nx_alloc]; omega), get_set_ne (by omega), get_alloc_lt hnx]; exact h0
        have gn : 0 < H4.nx := by have := ha.nx; simp at this; omega
        clear hg4 ha hV
        (repeat' first | simp [*, initEnv] | (refine wpIf_two (fun _ h => ?_) (fun _ h => ?_) <;> try simp [-Nat.le_zero_eq] at h) | (apply wpE_appendV; (focus (first | assumption | (repeat' first | assumption | with_reducible apply GrowV.setNew | with_reducible apply GrowV.alloc | with_reducible apply GrowV.set | (with_reducible show ¬ Names _ _; simp [*]; done)))); (focus (exact fun _ => rfl)); (focus decide); (focus (intro a; first | rfl | simp)); (focus (simp [maxCells] <;> omega))) | (refine after_intro fun v2 H2 hv2 hnx2 hget2 hnew2 hone2 hcel2 => ?_))
        exact ⟨i + 1, by omega, by omega, by omega, hV4⟩
      · have hiN : i = p.boxes.xs.length := by omega
        subst hiN
        obtain ⟨ids, hids⟩ := hV.h.1.res (n := 9) (fun _ => rfl)
        clear hcall2 hTn hTl hV
        (repeat' first | simp [*, initEnv] | (refine wpIf_two (fun _ h => ?_) (fun _ h => ?_) <;> try simp [-Nat.le_zero_eq] at h) | (apply wpE_appendV; (focus (first | assumption | (repeat' first | assumption | with_reducible apply GrowV.setNew | with_reducible apply GrowV.alloc | with_reducible apply GrowV.set | (with_reducible show ¬ Names _ _; simp [*]; done)))); (focus (exact fun _ => rfl)); (focus decide); (focus (intro a; first | rfl | simp)); (focus (simp [maxCells] <;> omega))) | (refine after_intro fun v2 H2 hv2 hnx2 hget2 hnew2 hone2 hcel2 => ?_))
end Go.Proofs.Ytmghcpdpilgplaa.Vm

namespace Go.Proofs.Ytmghcpdpilgplaa.Vm
open Go
set_option linter.unusedSimpArgs false
set_option linter.unusedVariables false
set_option maxHeartbeats 4000000
set_option maxRecDepth 4000
def turnF (f : Fact) (t : Bool) : Fact := { f with nt := f.nt != t }
def withP (p : Problem) (f : Fact) (t : Bool) : Problem := ⟨p.boxes, .mk false (p.facts.xs ++ [turnF f t])⟩
theorem sh_cloneF : G.shared 80 = true := by decide
theorem cloneF_call {n : Nat} {H : Heap} {s : Sl Fact} {k : AV → Heap → Prop} (hl : s.xs.length < 1000)
    (hk : ∀ v' H', OwnV Fact.cells 9 H' v' s.xs → isNil .slice v' = some s.isNil → H.nx ≤ H'.nx → (∀ id, id < H.nx → H'.get id = H.get id) → (∀ id, Names v' id → H.nx ≤ id) → k v' H') :
    ∃ v H', Vm.call G (n + 1) (.fn 80) [.pure (s.pv Fact.cells 9)] H = some (v, H') ∧ k v H' := by
  refine clone_call (f := Fact.cells) (sz := 9) (bytes := 72) (l := s.xs) (b := s.isNil) (fun _ => rfl) g80 ?_ ?_ (fun h => ?_) (fun _ => rfl) (by decide) (fun _ => rfl) ?_ hk
  · exact sliceCells_sl' (f := Fact.cells) (sz := 9) (fun _ => rfl) _
  · simp
  · cases s with
    | nil => rfl
    | mk h l => simp [Sl.isNil] at h
  · simp only [maxCells]; omega
theorem wpE_callE {r : Option Eff} {H : Heap} {x : AV} {k : AV → Heap → Prop} {u} (h : ∃ v H', r = some (.upd v H') ∧ keeps H H' x = true ∧ k v H') : wpE 0 (match (generalizing := false) r with
    | some (.upd v H2) => if keeps H H2 x = true then some (.upd v H2) else none
    | _ => none) H k u := by
  obtain ⟨v, H', rfl, h2, h3⟩ := h
  simp only [h2, if_true, wpE_upd]
  exact h3
theorem doCall_run {n f : Nat} {H : Heap} {args : List AV} {P : AV → Heap → Prop} (hs : G.shared f = true) (h : ∃ v H', Vm.call G (n + 1) (.fn f) args H = some (v, H') ∧ P v H') : ∃ v H', doCall (calleeOf G (n + 1)) H (.pure (.func f [])) args = some (.upd v H') ∧ P v H' := by
  obtain ⟨v, H', h1, h2⟩ := h
  refine ⟨v, H', ?_, h2⟩
  have hs' : (calleeOf G (n + 1)).shared f = true := hs
  have h1' : (calleeOf G (n + 1)).run f args H = some (v, H') := h1
  simp only [doCall, List.map_nil, List.append_nil, hs', if_true, h1']
theorem sh49 : G.shared 49 = false := by decide
theorem e49 (n : Nat) (p : Problem) (f : Fact) (t : Bool) (hl : p.facts.xs.length < 900) : callP G (n + 2) 49 [.agg p.cells, .agg f.cells, .bool t] = some (.agg (withP p f t).cells) := by
  refine callP_of (ext_none _) rfl g49 rfl ?_
  obtain ⟨bs, fs⟩ := p
  obtain ⟨d1, d2, d3, da, db, dc, ⟨d4, d5⟩, d6⟩ := f
  have hl' : fs.xs.length < 900 := hl
  clear hl
  (repeat' first | simp [*, initEnv, c49, Problem.cells, Fact.cells, Span.cells, perSz, chunks] | (refine wpIf_two (fun _ h => ?_) (fun _ h => ?_) <;> try simp [-Nat.le_zero_eq] at h))
  refine wpE_callE (doCall_run (n := n) sh_cloneF (cloneF_call (s := fs) (by omega) ?_))
  intro v H' hv hvn hnx hsame hnew
  have hsm := hsame 1 (by simp)
  have k0 : H'.get 0 = .cells true [.pure (bs.pv Box.cells 4), .pure (fs.pv Fact.cells 9)] := by
    rw [hsame 0 (by simp)]; simp
  have k2 : H'.get 2 = .cells true [.pure .nils, .pure .nils] := by
    rw [hsame 2 (by simp)]; simp
  refine ⟨?_, ?_⟩
  · unfold keeps
    simp only
    rw [hsm, get_set_own (by simp)]
    simp [sameCells, PV.plainEq]
  have n3 : 2 < H'.nx := by simp at hnx; omega
  have hnw : ∀ id, Names v id → 2 < id := fun id h => by have := hnew id h; simp at this; omega
  have hvo := hv.one
  have hvo1 := hvo.1
  have hvo2 := hvo.2
  have hnwH := Hide.mk hnw
  clear hnx hsame hnew hsm hnw
  (repeat' first | simp [*, initEnv] | (refine wpIf_two (fun _ h => ?_) (fun _ h => ?_) <;> try simp [-Nat.le_zero_eq] at h))
  refine wpE_appendL (f := Fact.cells) (sz := 9) (l := fs.xs) (m := [⟨d1, d2, d3 != t, da, db, dc, ⟨d4, d5⟩, d6⟩]) hv (fun _ => rfl) (by decide) (fun _ => rfl) ?_ (by simp [maxCells]; omega) ?_
  · simp [sliceCells, rowOf, Fact.cells, Span.cells, bne]
  intro v4 H4 hv4 hnx4 hs4 hn4
  have g0 : H4.get 0 = .cells true [.pure (bs.pv Box.cells 4), .pure (fs.pv Fact.cells 9)] := by
    rw [hs4 0 (by omega) (fun h => by have := hnwH.h 0 h; omega)]; exact k0
  have g2 : H4.get 2 = .cells true [.pure .nils, .pure .nils] := by
    rw [hs4 2 (by omega) (fun h => by have := hnwH.h 2 h; omega)]; exact k2
  have gn : 2 < H4.nx := by omega
  have gn0 : 0 < H4.nx := by omega
  have o4 := hv4.one
  have o4a := o4.1
  have o4b := o4.2
  have hlow : ∀ id, Names v4 id → 2 < id := fun id h => by
    rcases hn4 id h with h | h
    · exact hnwH.h id h
    · omega
  have hres : ∀ o o2, FrzK ((H4.set 0 o).set 2 o2) false 11 v4 ((Sl.mk false (fs.xs ++ [⟨d1, d2, d3 != t, da, db, dc, ⟨d4, d5⟩, d6⟩])).pv Fact.cells 9) := fun o o2 => by
    refine OwnV.mkRes (n := 9) (hv4.keep fun id ⟨n, hn⟩ => ?_) (fun _ => rfl) (by simp)
    have := hlow id ⟨_, _, _, hn⟩
    rw [get_set_ne (by omega), get_set_ne (by omega)]
  obtain ⟨ids, hids⟩ := FrzK.aggV (n := 11) (FrzL.cons (FrzK.pure (bs.pv Box.cells 4)) (.cons (hres (.cells true [.pure (bs.pv Box.cells 4), v4]) (.cells true [.pure (bs.pv Box.cells 4), v4])) .nil))
  have hw : withP ⟨bs, fs⟩ ⟨d1, d2, d3, da, db, dc, ⟨d4, d5⟩, d6⟩ t = ⟨bs, .mk false (fs.xs ++ [⟨d1, d2, d3 != t, da, db, dc, ⟨d4, d5⟩, d6⟩])⟩ := rfl
  clear hv4 hres hs4 hn4 hlow hv hvn hnwH k0 k2 o4
  generalize (Sl.mk false (fs.xs ++ [⟨d1, d2, d3 != t, da, db, dc, ⟨d4, d5⟩, d6⟩])) = S at *
  (repeat' first | simp [*, initEnv] | (refine wpIf_two (fun _ h => ?_) (fun _ h => ?_) <;> try simp [-Nat.le_zero_eq] at h))
  exact ⟨ids, hids⟩
def furtherF (p : Problem) (f : Fact) : Int := if checkS p ≠ 0 then checkS p else if formedB f p.boxes.xs.length = true then (if p.facts.xs.length ≥ 60 then 2 else 0) else 1
theorem sh47 : G.shared 47 = false := by decide
theorem e47 (n : Nat) (p : Problem) (f : Fact) : callP G (n + 4) 47 [.agg p.cells, .agg f.cells] = some (.int .i64 (furtherF p f)) := by
  refine callP_of (ext_none _) rfl g47 rfl ?_
  have hc := fun H => call_pureC (G := G) (n := n + 3) (H := H) (caps := []) (ps := [.agg p.cells]) sh11 (e11 n p)
  simp only [Problem.cells, List.map_cons, List.map_nil] at hc
  by_cases h0 : checkS p = 0
  case neg =>
    have hr : furtherF p f = checkS p := by unfold furtherF; rw [if_pos h0]
    rw [hr]
    generalize checkS p = c at *
    clear hr
    (repeat' first | simp [*, initEnv, c47, Problem.cells, Fact.cells, Span.cells] | (refine wpIf_two (fun _ h => ?_) (fun _ h => ?_) <;> try simp [-Nat.le_zero_eq] at h))
  case pos =>
    have ok := check_ok.1 h0
    have nb := ok.nb
    have nf := ok.nf
    have hf := fun H => call_pureC (G := G) (n := n + 3) (H := H) (caps := []) (ps := [.agg f.cells, .int .i64 p.boxes.xs.length]) sh37 (e37 (n + 1) f p.boxes.xs.length (by omega))
    have hr : furtherF p f = if formedB f p.boxes.xs.length = true then (if p.facts.xs.length ≥ 60 then 2 else 0) else 1 := by unfold furtherF; rw [if_neg (by simp [h0])]
    rw [hr]
    rw [h0] at hc
    simp only [Fact.cells, Span.cells, List.map_cons, List.map_nil] at hf
    clear hr h0 ok
    cases hb : formedB f p.boxes.xs.length with
    | false =>
      rw [hb] at hf
      clear hb
      (repeat' first | simp [*, initEnv, c47, Problem.cells, Fact.cells, Span.cells] | (refine wpIf_two (fun _ h => ?_) (fun _ h => ?_) <;> try simp [-Nat.le_zero_eq] at h))
    | true =>
      rw [hb] at hf
      clear hb
      by_cases h60 : p.facts.xs.length ≥ 60
      · have h6 : (60 : Int) ≤ p.facts.xs.length := by omega
        (repeat' first | simp [*, initEnv, c47, Problem.cells, Fact.cells, Span.cells] | (refine wpIf_two (fun _ h => ?_) (fun _ h => ?_) <;> try simp [-Nat.le_zero_eq] at h))
      · have h6 : ¬ (60 : Int) ≤ p.facts.xs.length := by omega
        (repeat' first | simp [*, initEnv, c47, Problem.cells, Fact.cells, Span.cells] | (refine wpIf_two (fun _ h => ?_) (fun _ h => ?_) <;> try simp [-Nat.le_zero_eq] at h))
def decideF (e0 : Int) (D1 : FoundD) (e1 : Int) (D2 : FoundD) (e2 : Int) (D3 : FoundD) (e3 : Int) : Int × Int :=
  if e0 ≠ 0 then (0, e0) else if e1 ≠ 0 ∨ e2 ≠ 0 ∨ e3 ≠ 0 then (0, 2) else if D1.empty = true then (0, 9) else if D3.empty = true then (2, 0) else if D2.empty = true then (1, 0) else (3, 0)
theorem turn_formed {f : Fact} {t : Bool} {n : Nat} (h : formedB f n = true) : formedB (turnF f t) n = true := by
  rw [formedB_iff] at *
  exact h
theorem with_ok {p : Problem} {f : Fact} {t : Bool} (h : furtherF p f = 0) : CheckOk p ∧ CheckOk (withP p f t) ∧ formedB f p.boxes.xs.length = true := by
  unfold furtherF at h
  split at h
  · omega
  · rename_i h0
    have ok := check_ok.1 (by omega : checkS p = 0)
    split at h
    · rename_i hb
      split at h
      · simp at h
      · rename_i h60
        refine ⟨ok, ⟨ok.nb, ?_, ok.box, fun g hg => ?_⟩, hb⟩
        · show (p.facts.xs ++ [turnF f t]).length ≤ 60
          simp; omega
        · have hg' : g ∈ p.facts.xs ++ [turnF f t] := hg
          rcases List.mem_append.1 hg' with hg | hg
          · exact ok.fact g hg
          · simp at hg
            subst hg
            exact turn_formed hb
    · simp at h
theorem sh26 : G.shared 26 = false := by decide
theorem e26 (n : Nat) (p : Problem) (f : Fact) (D1 D2 D3 : FoundD) (e1 e2 e3 : Int) (h : furtherF p f = 0 → FindOut p D1 e1 ∧ FindOut (withP p f false) D2 e2 ∧ FindOut (withP p f true) D3 e3) : callP G (n + 52) 26 [.agg p.cells, .agg f.cells] = some (.tup [.int .i64 (decideF (furtherF p f) D1 e1 D2 e2 D3 e3).1, .int .i64 (decideF (furtherF p f) D1 e1 D2 e2 D3 e3).2]) := by
  refine callP_of (ext_none _) rfl g26 rfl ?_
  have hc := fun H => call_pureC (G := G) (n := n + 51) (H := H) (caps := []) (ps := [.agg p.cells, .agg f.cells]) sh47 (e47 (n + 47) p f)
  simp only [Problem.cells, Fact.cells, Span.cells, List.map_cons, List.map_nil] at hc
  by_cases h0 : furtherF p f = 0
  case neg =>
    have hr : decideF (furtherF p f) D1 e1 D2 e2 D3 e3 = (0, furtherF p f) := by unfold decideF; rw [if_pos h0]
    rw [hr]
    generalize furtherF p f = c at *
    clear hr h
    (repeat' first | simp [*, initEnv, c26, Problem.cells, Fact.cells, Span.cells] | (refine wpIf_two (fun _ h => ?_) (fun _ h => ?_) <;> try simp [-Nat.le_zero_eq] at h))
  case pos =>
    obtain ⟨f1, f2, f3⟩ := h h0
    obtain ⟨ok, ok2, hb⟩ := with_ok (t := false) h0
    obtain ⟨_, ok3, _⟩ := with_ok (t := true) h0
    have nf := ok.nf
    have b1 := fun H => call_pureC (G := G) (n := n + 51) (H := H) (caps := []) (ps := [.agg p.cells]) sh48 (e48 n p ok D1 e1 f1)
    have b2 := fun H => call_pureC (G := G) (n := n + 51) (H := H) (caps := []) (ps := [.agg (withP p f false).cells]) sh48 (e48 n (withP p f false) ok2 D2 e2 f2)
    have b3 := fun H => call_pureC (G := G) (n := n + 51) (H := H) (caps := []) (ps := [.agg (withP p f true).cells]) sh48 (e48 n (withP p f true) ok3 D3 e3 f3)
    have w2 := fun H => call_pureC (G := G) (n := n + 51) (H := H) (caps := []) (ps := [.agg p.cells, .agg f.cells, .bool false]) sh49 (e49 (n + 49) p f false (by omega))
    have w3 := fun H => call_pureC (G := G) (n := n + 51) (H := H) (caps := []) (ps := [.agg p.cells, .agg f.cells, .bool true]) sh49 (e49 (n + 49) p f true (by omega))
    rw [h0] at hc ⊢
    have hrr := Hide.mk (show decideF 0 D1 e1 D2 e2 D3 e3 = _ from rfl)
    obtain ⟨q2, hq2⟩ : ∃ q, q = PV.agg (withP p f false).cells := ⟨_, rfl⟩
    obtain ⟨q3, hq3⟩ : ∃ q, q = PV.agg (withP p f true).cells := ⟨_, rfl⟩
    rw [← hq2] at b2 w2
    rw [← hq3] at b3 w3
    simp only [Problem.cells, Fact.cells, Span.cells, FoundD.cells, List.map_cons, List.map_nil] at b1 b2 b3 w2 w3
    clear hq2 hq3 f1 f2 f3 ok ok2 ok3 hb h h0 hrr
    obtain ⟨E1, S1⟩ := D1
    obtain ⟨E2, S2⟩ := D2
    obtain ⟨E3, S3⟩ := D3
    unfold decideF
    simp only at *
    generalize (Sl.of S1) = T1 at *
    generalize (Sl.of S2) = T2 at *
    generalize (Sl.of S3) = T3 at *
    by_cases h1 : e1 = 0
    · by_cases h2 : e2 = 0
      · by_cases h3 : e3 = 0
        · subst h1 h2 h3
          cases E1 <;> cases E2 <;> cases E3 <;> (repeat' first | simp [*, initEnv, c26, Problem.cells, Fact.cells, Span.cells] | (refine wpIf_two (fun _ h => ?_) (fun _ h => ?_) <;> try simp [-Nat.le_zero_eq] at h))
        · (repeat' first | simp [*, initEnv, c26, Problem.cells, Fact.cells, Span.cells] | (refine wpIf_two (fun _ h => ?_) (fun _ h => ?_) <;> try simp [-Nat.le_zero_eq] at h))
      · (repeat' first | simp [*, initEnv, c26, Problem.cells, Fact.cells, Span.cells] | (refine wpIf_two (fun _ h => ?_) (fun _ h => ?_) <;> try simp [-Nat.le_zero_eq] at h))
    · (repeat' first | simp [*, initEnv, c26, Problem.cells, Fact.cells, Span.cells] | (refine wpIf_two (fun _ h => ?_) (fun _ h => ?_) <;> try simp [-Nat.le_zero_eq] at h))
end Go.Proofs.Ytmghcpdpilgplaa.Vm

namespace Go.Proofs.Ytmghcpdpilgplaa.Vm
open Go
set_option linter.unusedSimpArgs false
set_option linter.unusedVariables false
set_option maxHeartbeats 4000000
abbrev Solv (p : Problem) (pts : List Pt) : Prop := IsSol p.facts.xs p.boxes.xs pts
theorem at_wf (pts : List Pt) : Wf (pts.map atB) := fun b hb => by
  obtain ⟨x, _, rfl⟩ := List.mem_map.1 hb
  exact ⟨Int.le_refl _, Int.le_refl _⟩
theorem at_sub {l : List Box} {pts : List Pt} (hl : pts.length = l.length) (h : ∀ i (h : i < pts.length) (h' : i < l.length), inB' pts[i] l[i]) : SubL (pts.map atB) l :=
  ⟨by simpa using hl, fun i h1 h2 => by
    have h1' : i < pts.length := by simpa using h1
    have := h i h1' h2
    unfold inB' at this
    simp only [List.getElem_map, atB, subB, subS]
    omega⟩
theorem at_in {l : List Box} {pts : List Pt} (h : SubL (pts.map atB) l) : pts.length = l.length ∧ ∀ i (h : i < pts.length) (h' : i < l.length), inB' pts[i] l[i] :=
  ⟨by simpa using h.1, fun i h1 h2 => by
    have := h.2 i (by simpa using h1) h2
    simp only [List.getElem_map, atB, subB, subS] at this
    unfold inB'
    omega⟩
theorem strip_at (x : Pt) (k : Nat) : stripB (atB x) k = atB x := by
  unfold stripB atB
  split <;> rfl
theorem at_stable {facts : List Fact} {pts : List Pt} (h : ∀ f ∈ facts, failsS f (pts.map atB) = false) : Stable failsP facts (pts.map atB) := fun i hi k _ f hf hs => by
  unfold failsP at hs
  have hi' : i < pts.length := by simpa using hi
  have e : stripL (pts.map atB) i k = pts.map atB := by
    rw [stripL_at hi]
    have : stripB (pts.map atB)[i] k = (pts.map atB)[i] := by simp only [List.getElem_map]; exact strip_at _ _
    rw [this]
    exact List.set_getElem_self ..
  rw [e, h f hf] at hs
  simp at hs
theorem nar_sol {p : Problem} {r : Option (List Box)} (hr : IsNar failsP p.facts.xs p.boxes.xs r) {pts : List Pt} (h : Solv p pts) : ∃ l, r = some l ∧ IsSol p.facts.xs l pts := by
  have hs := at_sub h.len h.inn
  cases r with
  | none => exact absurd (at_stable h.facts) (hr _ (at_wf pts) hs)
  | some l =>
    have := at_in (hr.1.all _ (at_wf pts) hs (at_stable h.facts))
    exact ⟨l, rfl, ⟨this.1, this.2, h.facts⟩⟩
theorem sol_of {p : Problem} {l : List Box} (hs : SubL l p.boxes.xs) {pts : List Pt} (h : IsSol p.facts.xs l pts) : Solv p pts := by
  have := at_in ((at_sub h.len h.inn).trans hs)
  exact ⟨this.1, this.2, h.facts⟩
theorem nar_iff {p : Problem} {l : List Box} (hr : IsNar failsP p.facts.xs p.boxes.xs (some l)) (pts : List Pt) : Solv p pts ↔ IsSol p.facts.xs l pts :=
  ⟨fun h => by obtain ⟨l', e, h'⟩ := nar_sol hr h; simp only [Option.some.injEq] at e; rw [e]; exact h', sol_of hr.1.sub⟩
theorem FindOut.unique {p : Problem} {D D' : FoundD} {e e' : Int} (h : FindOut p D e) (h' : FindOut p D' e') : D = D' ∧ e = e' := by
  rcases h with ⟨hr, rfl, rfl⟩ | ⟨l, m, hr, hm, h⟩
  · rcases h' with ⟨hr', rfl, rfl⟩ | ⟨l', m', hr', hm', h'⟩
    · exact ⟨rfl, rfl⟩
    · have := hr.unique hr'; simp at this
  · rcases h' with ⟨hr', rfl, rfl⟩ | ⟨l', m', hr', hm', h'⟩
    · have := hr.unique hr'; simp at this
    · have e1 := hr.unique hr'
      simp only [Option.some.injEq] at e1
      subst e1
      have e2 := partsL_congr (hm.unique hm')
      rw [← e2] at h'
      rcases h with ⟨a, rfl, rfl⟩ | ⟨a, rfl, rfl⟩ <;> rcases h' with ⟨b, rfl, rfl⟩ | ⟨b, rfl, rfl⟩
      · exact ⟨rfl, rfl⟩
      · omega
      · omega
      · exact ⟨rfl, rfl⟩
theorem cls_more' {n : Nat} : ∀ (E E0 : List (Nat × Nat)) (m0 : Nat → Nat), IsCls E0 n m0 → (∀ e ∈ E, e.1 < n ∧ e.2 < n) → ∃ m, IsCls (E0 ++ E) n m
  | [], E0, m0, h, _ => ⟨m0, by rw [List.append_nil]; exact h⟩
  | e :: E, E0, m0, h, hE => by
    have h1 := hE e List.mem_cons_self
    obtain ⟨m, hm⟩ := cls_more' E (E0 ++ [e]) _ (h.join h1.1 h1.2) fun x hx => hE x (List.mem_cons_of_mem _ hx)
    exact ⟨m, by rw [List.append_assoc] at hm; exact hm⟩
theorem cls_ex' {fs : List Fact} {n : Nat} (h : ∀ f ∈ fs, formedB f n = true) : ∃ m, IsCls (edgesL fs) n m := cls_more' (edgesL fs) [] _ (IsCls.nil n) fun e he => by
  obtain ⟨f, hf, he⟩ := mem_edgesL.1 he
  have hn := named_ok (h f hf)
  have h1 := hn.a
  have h2 := hn.b
  have h3 := hn.c
  unfold edgesF at he
  split at he
  · simp only [List.mem_cons, List.not_mem_nil, or_false] at he
    rcases he with rfl | rfl <;> exact ⟨by simp only; omega, by simp only; omega⟩
  · simp only [List.mem_cons, List.not_mem_nil, or_false] at he
    subst he
    exact ⟨by simp only; omega, by simp only; omega⟩
theorem find_ex {p : Problem} (ok : CheckOk p) : ∃ D e, FindOut p D e := by
  obtain ⟨r, hr⟩ := nar_ex (nar_anti ok) (nar_wf ok)
  cases r with
  | none => exact ⟨_, _, .inl ⟨hr, rfl, rfl⟩⟩
  | some l =>
    obtain ⟨m, hm⟩ := cls_ex' ok.fact
    by_cases hv : volL l (partsL' m p.boxes.xs.length) ≤ 65536
    · exact ⟨_, _, .inr ⟨l, m, hr, hm, .inr ⟨hv, rfl, rfl⟩⟩⟩
    · exact ⟨_, _, .inr ⟨l, m, hr, hm, .inl ⟨by omega, rfl, rfl⟩⟩⟩
theorem SolvedOut.unique {p : Problem} {D D' : FoundD} {e e' : Int} (h : SolvedOut p D e) (h' : SolvedOut p D' e') : D = D' ∧ e = e' := by
  rcases h with ⟨h0, rfl, rfl⟩ | ⟨h0, hf⟩
  · rcases h' with ⟨_, rfl, rfl⟩ | ⟨h1, _⟩
    · exact ⟨rfl, rfl⟩
    · exact absurd h1 h0
  · rcases h' with ⟨h1, _⟩ | ⟨_, hf'⟩
    · exact absurd h0 h1
    · exact hf.unique hf'
structure FindIn (p : Problem) (D : FoundD) (l : List Box) (gs : List (List Nat)) : Prop where
  nar : IsNar failsP p.facts.xs p.boxes.xs (some l)
  div : IsDiv p.facts.xs l.length gs
  seens : D.seens = gs.map (lookD p.facts.xs l)
  seen : ∀ g ∈ gs, SeenOk p.facts.xs l g (lookD p.facts.xs l g)
  empty : D.empty = emptyB D.seens
  few : gs.length ≤ 12 ∧ ∀ g ∈ gs, g.length ≤ 12
theorem find_in {p : Problem} (ok : CheckOk p) {D : FoundD} {e : Int} (h : FindOut p D e) : (e = 0 ∧ D = ⟨true, []⟩ ∧ IsNar failsP p.facts.xs p.boxes.xs none) ∨ (e = 2 ∧ D = ⟨false, []⟩) ∨ (e = 0 ∧ ∃ l gs, FindIn p D l gs) := by
  rcases h with ⟨hr, rfl, rfl⟩ | ⟨l, m, hr, hm, h⟩
  · exact .inl ⟨rfl, rfl, hr⟩
  · rcases h with ⟨hv, rfl, rfl⟩ | ⟨hv, rfl, rfl⟩
    · exact .inr (.inl ⟨rfl, rfl⟩)
    · refine .inr (.inr ⟨rfl, l, partsL' m p.boxes.xs.length, ?_⟩)
      have hl : l.length = p.boxes.xs.length := hr.1.sub.1
      have hd := parts_div hm (fact_named ok)
      have hpl := parts_ok m p.boxes.xs.length
      have nb := ok.nb
      refine ⟨hr, by rw [hl]; exact hd, rfl, fun g hg => ?_, rfl, ⟨by omega, fun g hg => by have := (hpl.2 g hg).1; omega⟩⟩
      refine look_ok (fun k hk => by rw [hl]; exact (hd.one g hg).2 k hk) hr.1.wf (fun f hf ha => hd.within f hf g hg ha) fun f hf => ?_
      have h1 := (formedB_iff f _).1 (ok.fact f hf)
      exact ⟨by omega, by omega, by omega⟩
theorem emptyB_iff {L : List SeenD} : emptyB L = true ↔ ∃ s ∈ L, s.n = 0 := by simp [emptyB]
theorem FindIn.some {p : Problem} {D : FoundD} {l : List Box} {gs : List (List Nat)} (h : FindIn p D l gs) (he : D.empty = false) {g : List Nat} (hg : g ∈ gs) {c : List Pt} (hc : c ∈ solsC p.facts.xs l g) : ∃ pts, Solv p pts ∧ pick pts g = c := by
  have hne : ∀ g' ∈ gs, ∃ c', c' ∈ solsC p.facts.xs l g' := fun g' hg' => by
    have h1 := (h.seen g' hg').n
    have h2 : (lookD p.facts.xs l g').n ≠ 0 := fun e => by
      have : D.empty = true := by
        rw [h.empty, emptyB_iff, h.seens]
        exact ⟨_, List.mem_map.2 ⟨g', hg', rfl⟩, e⟩
      rw [this] at he
      simp at he
    exact ⟨_, List.head_mem (l := solsC p.facts.xs l g') (fun e => h2 (by rw [h1, e]; rfl))⟩
  obtain ⟨ch, hch⟩ : ∃ ch : List Nat → List Pt, ∀ g' ∈ gs, ch g' ∈ solsC p.facts.xs l g' ∧ (g' = g → ch g' = c) := by
    refine ⟨fun g' => if g' = g then c else if h' : g' ∈ gs then (hne g' h').choose else [], fun g' hg' => ?_⟩
    simp only
    by_cases e : g' = g
    · subst e; simp [hc]
    · rw [if_neg e, dif_pos hg']
      exact ⟨(hne g' hg').choose_spec, fun h => absurd h e⟩
  have hm : gs.map ch ∈ prodC (gs.map (solsC p.facts.xs l)) := mem_prodC.2 ⟨by simp, fun k a b => by
    simp only [List.getElem_map]
    exact (hch _ (List.getElem_mem _)).1⟩
  obtain ⟨h1, h2⟩ := put_sol h.div hm (p0 := List.replicate l.length ⟨0, 0⟩) (by simp)
  refine ⟨_, (nar_iff h.nar _).2 h1, ?_⟩
  have := List.map_inj_left.1 h2 g hg
  rw [this]
  exact (hch g hg).2 rfl
theorem FindIn.empty_iff {p : Problem} {D : FoundD} {l : List Box} {gs : List (List Nat)} (h : FindIn p D l gs) : D.empty = true ↔ ¬ ∃ pts, Solv p pts := by
  constructor
  · rintro he ⟨pts, hp⟩
    rw [h.empty, emptyB_iff, h.seens] at he
    obtain ⟨s, hs, h0⟩ := he
    obtain ⟨g, hg, rfl⟩ := List.mem_map.1 hs
    have h1 := pick_sol h.div ((nar_iff h.nar _).1 hp) g hg
    rw [(h.seen g hg).n] at h0
    rw [List.eq_nil_of_length_eq_zero h0] at h1
    simp at h1
  · intro hn
    cases he : D.empty with
    | true => rfl
    | false =>
      exfalso
      refine hn ?_
      -- one choice of each part
      have hne : ∀ g' ∈ gs, solsC p.facts.xs l g' ≠ [] := fun g' hg' e => by
        have : D.empty = true := by
          rw [h.empty, emptyB_iff, h.seens]
          exact ⟨_, List.mem_map.2 ⟨g', hg', rfl⟩, by rw [(h.seen g' hg').n, e]; rfl⟩
        rw [this] at he
        simp at he
      have hm : (gs.map fun g => (solsC p.facts.xs l g).headD []) ∈ prodC (gs.map (solsC p.facts.xs l)) := mem_prodC.2 ⟨by simp, fun k a b => by
        simp only [List.getElem_map]
        have := hne _ (List.getElem_mem (l := gs) (n := k) (by simpa using a))
        cases hs : solsC p.facts.xs l (gs[k]'(by simpa using a)) with
        | nil => exact absurd hs this
        | cons c cs => simp⟩
      obtain ⟨h1, _⟩ := put_sol h.div hm (p0 := List.replicate l.length ⟨0, 0⟩) (by simp)
      exact ⟨_, (nar_iff h.nar _).2 h1⟩
theorem find_empty {p : Problem} (ok : CheckOk p) {D : FoundD} (h : FindOut p D 0) : D.empty = true ↔ ¬ ∃ pts, Solv p pts := by
  rcases find_in ok h with ⟨_, rfl, hr⟩ | ⟨he, _⟩ | ⟨_, l, gs, hi⟩
  · refine ⟨fun _ ⟨pts, hp⟩ => ?_, fun _ => rfl⟩
    obtain ⟨l, e, _⟩ := nar_sol hr hp
    simp at e
  · omega
  · exact hi.empty_iff
theorem find_seens {p : Problem} (ok : CheckOk p) {D : FoundD} {e : Int} (h : FindOut p D e) : D.seens.length ≤ 12 ∧ (D.empty = false → ∀ s ∈ D.seens, s.n ≠ 0 ∧ SeenGood s) := by
  rcases find_in ok h with ⟨_, rfl, _⟩ | ⟨_, rfl⟩ | ⟨_, l, gs, hi⟩
  · exact ⟨by simp, fun _ s hs => by simp at hs⟩
  · exact ⟨by simp, fun _ s hs => by simp at hs⟩
  · refine ⟨by rw [hi.seens, List.length_map]; exact hi.few.1, fun he s hs => ?_⟩
    have hn : s.n ≠ 0 := fun e => by
      have : D.empty = true := by rw [hi.empty, emptyB_iff]; exact ⟨s, hs, e⟩
      rw [this] at he
      simp at he
    rw [hi.seens] at hs
    obtain ⟨g, hg, rfl⟩ := List.mem_map.1 hs
    have ho := hi.seen g hg
    have hone := hi.div.one g hg
    refine ⟨hn, ⟨by rw [ho.same]; exact hi.few.2 g hg, by rw [ho.same]; exact ho.len, fun o ho' => ?_⟩⟩
    obtain ⟨j, hj, rfl⟩ := List.mem_iff_getElem.1 ho'
    obtain ⟨c, hc, h1, _⟩ := ho.ends hn j hj
    refine ⟨c, h1, ?_⟩
    rw [ho.same]
    exact ((mem_sols hone.1 (fun f hf ha => hi.div.within f hf g hg ha)).1 hc).1.1
end Go.Proofs.Ytmghcpdpilgplaa.Vm

namespace Go.Proofs.Ytmghcpdpilgplaa.Vm
open Go
set_option linter.unusedSimpArgs false
set_option linter.unusedVariables false
set_option maxHeartbeats 4000000
structure HullAt (p : Problem) (i : Nat) (b : Box) : Prop where
  all : ∀ pts, Solv p pts → inB' pts[i]! b
  x0 : ∃ pts, Solv p pts ∧ pts[i]!.x = b.x.lo
  x1 : ∃ pts, Solv p pts ∧ pts[i]!.x = b.x.hi
  y0 : ∃ pts, Solv p pts ∧ pts[i]!.y = b.y.lo
  y1 : ∃ pts, Solv p pts ∧ pts[i]!.y = b.y.hi
theorem HullAt.unique {p : Problem} {i : Nat} {b c : Box} (h : HullAt p i b) (h' : HullAt p i c) : b = c := by
  have key : ∀ {b c : Box}, HullAt p i b → HullAt p i c → c.x.lo ≤ b.x.lo ∧ b.x.hi ≤ c.x.hi ∧ c.y.lo ≤ b.y.lo ∧ b.y.hi ≤ c.y.hi := fun {b c} h h' => by
    obtain ⟨p0, s0, e0⟩ := h.x0
    obtain ⟨p1, s1, e1⟩ := h.x1
    obtain ⟨p2, s2, e2⟩ := h.y0
    obtain ⟨p3, s3, e3⟩ := h.y1
    have a0 := h'.all _ s0
    have a1 := h'.all _ s1
    have a2 := h'.all _ s2
    have a3 := h'.all _ s3
    unfold inB' at a0 a1 a2 a3
    omega
  have k1 := key h h'
  have k2 := key h' h
  obtain ⟨⟨b1, b2⟩, b3, b4⟩ := b
  obtain ⟨⟨c1, c2⟩, c3, c4⟩ := c
  simp only [Box.mk.injEq, Span.mk.injEq] at *
  omega
theorem hullL_find {pt : Nat} : ∀ (ss : List SeenD) (i : Nat) (s : SeenD), s ∈ ss → pt ∈ s.part → (∀ s' ∈ ss, pt ∈ s'.part → s' = s) → (hullL pt ss i).1 = hullP s (s.part.idxOf pt)
  | a :: ss, i, s, hs, hp, hu => by
    unfold hullL
    by_cases h : pt ∈ a.part
    · rw [if_pos h, hu a List.mem_cons_self h]
    · rw [if_neg h]
      rcases List.mem_cons.1 hs with rfl | hs
      · exact absurd hp h
      · exact hullL_find ss (i + 1) s hs hp fun s' h' => hu s' (List.mem_cons_of_mem _ h')
theorem FindIn.hull {p : Problem} {D : FoundD} {l : List Box} {gs : List (List Nat)} (h : FindIn p D l gs) (he : D.empty = false) {i : Nat} (hi : i < l.length) : HullAt p i (hullL i D.seens 0).1 := by
  obtain ⟨g, hg, hig⟩ := List.mem_flatten.1 ((h.div.all i).1 hi)
  have hone := h.div.one g hg
  have ho := h.seen g hg
  have hn : (lookD p.facts.xs l g).n ≠ 0 := fun e => by
    have : D.empty = true := by rw [h.empty, emptyB_iff, h.seens]; exact ⟨_, List.mem_map.2 ⟨g, hg, rfl⟩, e⟩
    rw [this] at he
    simp at he
  have hf : (hullL i D.seens 0).1 = hullP (lookD p.facts.xs l g) (g.idxOf i) := by
    rw [hullL_find D.seens 0 (lookD p.facts.xs l g) (by rw [h.seens]; exact List.mem_map.2 ⟨g, hg, rfl⟩) (by rw [ho.same]; exact hig) (fun s' hs' hi' => ?_), ho.same]
    rw [h.seens] at hs'
    obtain ⟨g', hg', rfl⟩ := List.mem_map.1 hs'
    rw [(h.seen g' hg').same] at hi'
    have : g' = g := by
      have hnd := (List.pairwise_flatten.1 h.div.nodup).2
      refine Classical.byContradiction fun hne => ?_
      obtain ⟨a, ha, rfl⟩ := List.mem_iff_getElem.1 hg
      obtain ⟨b, hb, rfl⟩ := List.mem_iff_getElem.1 hg'
      rcases Nat.lt_trichotomy a b with hl | hl | hl
      · exact List.pairwise_iff_getElem.1 hnd a b ha hb hl i hig i hi' rfl
      · subst hl; exact hne rfl
      · exact List.pairwise_iff_getElem.1 hnd b a hb ha hl i hi' i hig rfl
    rw [this]
  rw [hf]
  have hk := List.idxOf_lt_length_of_mem hig
  have hgk : g[g.idxOf i] = i := List.getElem_idxOf hk
  generalize g.idxOf i = k at *
  have hlen := ho.len
  -- what stands at a side
  have side : ∀ t, t < 4 → ∃ pts, Solv p pts ∧ endP (lookD p.facts.xs l g) (4 * k + t) k = pts[i]! ∧ ∀ pts', Solv p pts' → keyS pts[i]! t ≤ keyS pts'[i]! t := fun t ht => by
    have hj : 4 * k + t < (lookD p.facts.xs l g).ends.length := by omega
    obtain ⟨c, hc, h1, h2⟩ := ho.ends hn _ hj
    obtain ⟨pts, hs, hpk⟩ := h.some he hg hc
    have hcl : c.length = g.length := by rw [← hpk]; simp [pick]
    have hkc : k < c.length := by omega
    have hck : c[k]! = pts[i]! := by
      rw [getElem!_pos c k hkc]
      have : c[k] = (pick pts g)[k]'(by simpa [pick] using hk) := by simp only [hpk]
      rw [this]
      simp only [pick, List.getElem_map, hgk]
    refine ⟨pts, hs, ?_, fun pts' hs' => ?_⟩
    · unfold endP
      rw [getElem!_pos (lookD p.facts.xs l g).ends (4 * k + t) hj, h1]
      exact hck
    · have h3 := h2 _ (pick_sol h.div ((nar_iff h.nar _).1 hs') g hg)
      unfold keyC at h3
      rw [show (4 * k + t) / 4 = k by omega, show (4 * k + t) % 4 = t by omega, hck] at h3
      have hkp : k < (pick pts' g).length := by simpa [pick] using hk
      rw [getElem!_pos (pick pts' g) k hkp] at h3
      simp only [pick, List.getElem_map, hgk] at h3
      exact h3
  obtain ⟨p0, s0, e0, m0⟩ := side 0 (by omega)
  obtain ⟨p1, s1, e1, m1⟩ := side 1 (by omega)
  obtain ⟨p2, s2, e2, m2⟩ := side 2 (by omega)
  obtain ⟨p3, s3, e3, m3⟩ := side 3 (by omega)
  rw [Nat.add_zero] at e0
  have hb : hullP (lookD p.facts.xs l g) k = ⟨⟨p0[i]!.x, p1[i]!.x⟩, ⟨p2[i]!.y, p3[i]!.y⟩⟩ := by unfold hullP; rw [e0, e1, e2, e3]
  rw [hb]
  refine ⟨fun pts hs => ?_, ⟨p0, s0, rfl⟩, ⟨p1, s1, rfl⟩, ⟨p2, s2, rfl⟩, ⟨p3, s3, rfl⟩⟩
  have a0 := m0 pts hs
  have a1 := m1 pts hs
  have a2 := m2 pts hs
  have a3 := m3 pts hs
  have k0 : ∀ p : Pt, keyS p 0 = p.x := fun p => rfl
  have k1 : ∀ p : Pt, keyS p 1 = -p.x := fun p => rfl
  have k2 : ∀ p : Pt, keyS p 2 = p.y := fun p => rfl
  have k3 : ∀ p : Pt, keyS p 3 = -p.y := fun p => rfl
  rw [k0, k0] at a0
  rw [k1, k1] at a1
  rw [k2, k2] at a2
  rw [k3, k3] at a3
  unfold inB'
  simp only
  omega
theorem hull_sem {p : Problem} {D : FoundD} {e : Int} (h : SolvedOut p D e) (h0 : (hullF D e p.boxes.xs.length).2 = 0) : checkS p = 0 ∧ (∃ pts, Solv p pts) ∧ (hullF D e p.boxes.xs.length).1.length = p.boxes.xs.length ∧ ∀ i, i < p.boxes.xs.length → HullAt p i (hullF D e p.boxes.xs.length).1[i]! := by
  unfold hullF at h0 ⊢
  split at h0
  · exact absurd h0 (by assumption)
  · rename_i he
    have he' : e = 0 := Classical.byContradiction fun hc => he hc
    subst he'
    split at h0
    · simp at h0
    · rename_i hD
      have hD' : D.empty = false := by simpa using hD
      rw [if_neg (by simp), if_neg hD]
      rcases h with ⟨h1, _, h2⟩ | ⟨h1, hf⟩
      · exact absurd h2.symm h1
      · have ok := check_ok.1 h1
        refine ⟨h1, ?_, by simp, fun i hi => ?_⟩
        · have := find_empty ok hf
          rw [hD'] at this
          exact Classical.byContradiction fun hc => by simpa using this.2 hc
        · rw [getElem!_pos _ i (by simpa using hi)]
          simp only [List.getElem_map, List.getElem_range]
          rcases find_in ok hf with ⟨_, rfl, _⟩ | ⟨h2, _⟩ | ⟨_, l, gs, hin⟩
          · simp at hD'
          · omega
          · exact hin.hull hD' (by rw [hin.nar.1.sub.1]; exact hi)
def DecSem (p : Problem) (f : Fact) (v : Int) : Prop := (∃ pts, Solv p pts) ∧
  ((v = 2 ∧ ∀ pts, Solv p pts → failsS f (pts.map atB) = false) ∨
   (v = 1 ∧ ∀ pts, Solv p pts → failsS f (pts.map atB) = true) ∨
   (v = 3 ∧ (∃ pts, Solv p pts ∧ failsS f (pts.map atB) = true) ∧ ∃ pts, Solv p pts ∧ failsS f (pts.map atB) = false))
theorem DecSem.unique {p : Problem} {f : Fact} {v w : Int} (h : DecSem p f v) (h' : DecSem p f w) : v = w := by
  obtain ⟨⟨pts, hp⟩, h⟩ := h
  obtain ⟨_, h'⟩ := h'
  rcases h with ⟨rfl, a⟩ | ⟨rfl, a⟩ | ⟨rfl, ⟨x, hx, fx⟩, y, hy, fy⟩ <;> rcases h' with ⟨rfl, b⟩ | ⟨rfl, b⟩ | ⟨rfl, ⟨x', hx', fx'⟩, y', hy', fy'⟩
  · rfl
  · have := a _ hp; rw [b _ hp] at this; simp at this
  · have := a _ hx'; rw [fx'] at this; simp at this
  · have := a _ hp; rw [b _ hp] at this; simp at this
  · rfl
  · have := a _ hy'; rw [fy'] at this; simp at this
  · have := b _ hx; rw [fx] at this; simp at this
  · have := b _ hy; rw [fy] at this; simp at this
  · rfl
theorem DecSem.more {p q : Problem} {f : Fact} {v w : Int} (hs : ∀ pts, Solv q pts → Solv p pts) (h : DecSem p f v) (h' : DecSem q f w) : v = 3 ∨ v = w := by
  obtain ⟨_, h⟩ := h
  obtain ⟨⟨pts, hp⟩, h'⟩ := h'
  rcases h with ⟨rfl, a⟩ | ⟨rfl, a⟩ | ⟨rfl, _⟩
  · right
    rcases h' with ⟨rfl, b⟩ | ⟨rfl, b⟩ | ⟨rfl, ⟨x', hx', fx'⟩, _⟩
    · rfl
    · have := a _ (hs _ hp); rw [b _ hp] at this; simp at this
    · have := a _ (hs _ hx'); rw [fx'] at this; simp at this
  · right
    rcases h' with ⟨rfl, b⟩ | ⟨rfl, b⟩ | ⟨rfl, _, y', hy', fy'⟩
    · have := a _ (hs _ hp); rw [b _ hp] at this; simp at this
    · rfl
    · have := a _ (hs _ hy'); rw [fy'] at this; simp at this
  · left; rfl
theorem decide_ex (p : Problem) (f : Fact) : ∃ D1 e1 D2 e2 D3 e3, (furtherF p f = 0 → FindOut p D1 e1 ∧ FindOut (withP p f false) D2 e2 ∧ FindOut (withP p f true) D3 e3) := by
  by_cases h : furtherF p f = 0
  · obtain ⟨ok, ok2, _⟩ := with_ok (t := false) h
    obtain ⟨_, ok3, _⟩ := with_ok (t := true) h
    obtain ⟨D1, e1, h1⟩ := find_ex ok
    obtain ⟨D2, e2, h2⟩ := find_ex ok2
    obtain ⟨D3, e3, h3⟩ := find_ex ok3
    exact ⟨D1, e1, D2, e2, D3, e3, fun _ => ⟨h1, h2, h3⟩⟩
  · exact ⟨⟨false, []⟩, 0, ⟨false, []⟩, 0, ⟨false, []⟩, 0, fun hc => absurd hc h⟩
end Go.Proofs.Ytmghcpdpilgplaa.Vm

namespace Go.Proofs.Ytmghcpdpilgplaa.Vm
open Go
set_option linter.unusedSimpArgs false
set_option linter.unusedVariables false
set_option maxHeartbeats 4000000
def moveS (d : Int) (s : Span) : Span := ⟨s.lo + d, s.hi + d⟩
def moveB (v : Pt) (b : Box) : Box := ⟨moveS v.x b.x, moveS v.y b.y⟩
def moveP (v p : Pt) : Pt := ⟨p.x + v.x, p.y + v.y⟩
def backP (v : Pt) : Pt := ⟨-v.x, -v.y⟩
theorem move_back (v : Pt) (b : Box) : moveB v (moveB (backP v) b) = b := by
  obtain ⟨⟨a, b⟩, c, d⟩ := b
  simp [moveB, moveS, backP]
  omega
theorem moveP_back (v p : Pt) : moveP v (moveP (backP v) p) = p := by
  obtain ⟨a, b⟩ := p
  simp [moveP, backP]
  omega
theorem back_back (v : Pt) : backP (backP v) = v := by obtain ⟨a, b⟩ := v; simp [backP]
theorem map_back (v : Pt) (l : List Box) : (l.map (moveB (backP v))).map (moveB v) = l := by
  rw [List.map_map]
  have : (moveB v ∘ moveB (backP v)) = id := funext (move_back v)
  rw [this, List.map_id]
theorem mapP_back (v : Pt) (l : List Pt) : (l.map (moveP (backP v))).map (moveP v) = l := by
  rw [List.map_map]
  have : (moveP v ∘ moveP (backP v)) = id := funext (moveP_back v)
  rw [this, List.map_id]
theorem less_move (d : Int) (a b : Span) : lessS (moveS d a) (moveS d b) = lessS a b := by
  unfold lessS moveS
  simp only [Span.mk.injEq]
  omega
theorem corners_move (v : Pt) (b : Box) : cornersB (moveB v b) = (cornersB b).map (moveP v) := rfl
theorem turnV_move (v a b c : Pt) : turnV (moveP v a) (moveP v b) (moveP v c) = turnV a b c := by
  unfold turnV moveP
  simp only
  rw [show b.x + v.x - (a.x + v.x) = b.x - a.x by omega, show c.y + v.y - (a.y + v.y) = c.y - a.y by omega, show b.y + v.y - (a.y + v.y) = b.y - a.y by omega, show c.x + v.x - (a.x + v.x) = c.x - a.x by omega]
theorem turns_move (v : Pt) (a b c : Box) : turnsL (moveB v a) (moveB v b) (moveB v c) = turnsL a b c := by
  unfold turnsL
  simp only [corners_move, List.flatMap_map, List.map_map]
  refine flatMap_congr' fun p _ => flatMap_congr' fun q _ => List.map_congr_left fun r _ => ?_
  exact turnV_move v p q r
theorem bare3_move (v : Pt) (f : Fact) (a b c : Box) : bare3 f (moveB v a) (moveB v b) (moveB v c) = bare3 f a b c := by
  have hx : lessS (moveB v b).x (moveB v a).x = lessS b.x a.x := less_move v.x b.x a.x
  have hy : lessS (moveB v b).y (moveB v a).y = lessS b.y a.y := less_move v.y b.y a.y
  have ht : turnS (moveB v a) (moveB v b) (moveB v c) = turnS a b c := by unfold turnS; rw [turns_move]
  unfold bare3
  simp only [hx, hy, ht]
theorem map_at {v : Pt} {l : List Box} {i : Nat} (h : i < l.length) : (l.map (moveB v))[i]! = moveB v l[i]! := by
  rw [getElem!_pos _ i (by simpa using h), getElem!_pos l i h, List.getElem_map]
theorem fails_move {v : Pt} {f : Fact} {l : List Box} (h : Named f l.length) : failsS f (l.map (moveB v)) = failsS f l := by
  have h1 := h.a
  have h2 := h.b
  have h3 := h.c
  unfold failsS
  rw [bareS_3, bareS_3, map_at (by omega), map_at (by omega), map_at (by omega), bare3_move]
theorem sub_move (v : Pt) {l m : List Box} : SubL (l.map (moveB v)) (m.map (moveB v)) ↔ SubL l m := by
  unfold SubL
  simp only [List.length_map, List.getElem_map]
  constructor
  · rintro ⟨h1, h2⟩
    refine ⟨h1, fun i a b => ?_⟩
    have := h2 i a b
    unfold subB subS moveB moveS at this
    simp only at this
    unfold subB subS
    omega
  · rintro ⟨h1, h2⟩
    refine ⟨h1, fun i a b => ?_⟩
    have := h2 i a b
    unfold subB subS at this
    unfold subB subS moveB moveS
    simp only
    omega
theorem wf_move (v : Pt) {l : List Box} : Wf (l.map (moveB v)) ↔ Wf l := by
  unfold Wf
  simp only [List.mem_map]
  constructor
  · intro h b hb
    have := h _ ⟨b, hb, rfl⟩
    unfold wfB moveB moveS at this
    simp only at this
    unfold wfB
    omega
  · rintro h _ ⟨b, hb, rfl⟩
    have := h b hb
    unfold wfB at this
    unfold wfB moveB moveS
    simp only
    omega
theorem strip_move (v : Pt) (b : Box) (k : Nat) : stripB (moveB v b) k = moveB v (stripB b k) := by
  unfold stripB
  split <;> rfl
theorem stripL_move (v : Pt) {l : List Box} {i : Nat} (h : i < l.length) (k : Nat) : stripL (l.map (moveB v)) i k = (stripL l i k).map (moveB v) := by
  rw [stripL_at h, stripL_at (by simpa using h), List.map_set, List.getElem_map, strip_move]
theorem stripL_len (l : List Box) (i k : Nat) : (stripL l i k).length = l.length := by
  unfold stripL
  split <;> simp
structure Mv (v : Pt) (p q : Problem) : Prop where
  boxes : q.boxes.xs = p.boxes.xs.map (moveB v)
  facts : ∀ f, f ∈ q.facts.xs ↔ f ∈ p.facts.xs
section
variable {v : Pt} {p q : Problem}
theorem Mv.len (h : Mv v p q) : q.boxes.xs.length = p.boxes.xs.length := by rw [h.boxes, List.length_map]
theorem stable_move {F F' : List Fact} {l : List Box} (hF : ∀ f, f ∈ F' ↔ f ∈ F) (hn : ∀ f ∈ F, Named f l.length) : Stable failsP F' (l.map (moveB v)) ↔ Stable failsP F l := by
  unfold Stable
  simp only [List.length_map]
  constructor
  · intro h i hi k hk f hf hs
    refine h i hi k hk f ((hF f).2 hf) ?_
    unfold failsP at hs ⊢
    rw [stripL_move v hi, fails_move (by rw [stripL_len]; exact hn f hf)]
    exact hs
  · intro h i hi k hk f hf hs
    have hf' := (hF f).1 hf
    refine h i hi k hk f hf' ?_
    unfold failsP at hs ⊢
    rw [stripL_move v hi, fails_move (by rw [stripL_len]; exact hn f hf')] at hs
    exact hs
theorem nar_move (h : Mv v p q) (ok : CheckOk p) {r : Option (List Box)} (hr : IsNar failsP p.facts.xs p.boxes.xs r) : IsNar failsP q.facts.xs q.boxes.xs (r.map (·.map (moveB v))) := by
  have hn := fact_named ok
  have hst : ∀ m : List Box, m.length = p.boxes.xs.length → (Stable failsP q.facts.xs (m.map (moveB v)) ↔ Stable failsP p.facts.xs m) := fun m hm => stable_move h.facts fun f hf => by rw [hm]; exact hn f hf
  rw [h.boxes]
  cases r with
  | none =>
    intro m hm hs hst'
    have hlen : m.length = p.boxes.xs.length := by simpa using hs.1
    rw [← map_back v m] at hm hs hst'
    exact hr _ ((wf_move v).1 hm) ((sub_move v).1 hs) ((hst _ (by simpa using hlen)).1 hst')
  | some l =>
    refine ⟨⟨(wf_move v).2 hr.1.wf, (sub_move v).2 hr.1.sub, fun m hm hs hst' => ?_⟩, (hst l hr.1.sub.1).2 hr.2⟩
    have hlen : m.length = p.boxes.xs.length := by simpa using hs.1
    rw [← map_back v m] at hm hs hst' ⊢
    exact (sub_move v).2 (hr.1.all _ ((wf_move v).1 hm) ((sub_move v).1 hs) ((hst _ (by simpa using hlen)).1 hst'))
theorem edges_same {F F' : List Fact} (hF : ∀ f, f ∈ F' ↔ f ∈ F) (e : Nat × Nat) : e ∈ edgesL F' ↔ e ∈ edgesL F := by
  rw [mem_edgesL, mem_edgesL]
  constructor
  · rintro ⟨f, hf, h⟩; exact ⟨f, (hF f).1 hf, h⟩
  · rintro ⟨f, hf, h⟩; exact ⟨f, (hF f).2 hf, h⟩
theorem cls_same {F F' : List Fact} (hF : ∀ f, f ∈ F' ↔ f ∈ F) {n : Nat} {m : Nat → Nat} (h : IsCls (edgesL F) n m) : IsCls (edgesL F') n m :=
  ⟨h.le, fun i hi => (h.conn i hi).mono fun e he => (edges_same hF e).2 he, fun e he => h.keep e ((edges_same hF e).1 he)⟩
theorem area_move (b : Box) : areaB (moveB v b) = areaB b := by
  unfold areaB moveB moveS
  simp only
  rw [show b.x.hi + v.x - (b.x.lo + v.x) + 1 = b.x.hi - b.x.lo + 1 by omega, show b.y.hi + v.y - (b.y.lo + v.y) + 1 = b.y.hi - b.y.lo + 1 by omega]
theorem volG_move {l : List Box} : ∀ (part : List Nat) (n : Int), (∀ k ∈ part, k < l.length) → volG (l.map (moveB v)) n part = volG l n part
  | [], n, _ => rfl
  | i :: part, n, h => by
    rw [volG, volG, map_at (h i List.mem_cons_self), area_move]
    exact volG_move part _ fun k hk => h k (List.mem_cons_of_mem _ hk)
theorem volL_move {l : List Box} {gs : List (List Nat)} (h : ∀ g ∈ gs, ∀ k ∈ g, k < l.length) : volL (l.map (moveB v)) gs = volL l gs := by
  have key : ∀ (gs : List (List Nat)) (x : Int), (∀ g ∈ gs, ∀ k ∈ g, k < l.length) → gs.foldl (fun x g => max x (volP (l.map (moveB v)) g)) x = gs.foldl (fun x g => max x (volP l g)) x := by
    intro gs
    induction gs with
    | nil => intro x _; rfl
    | cons g gs ih =>
      intro x hg
      rw [List.foldl_cons, List.foldl_cons]
      have : volP (l.map (moveB v)) g = volP l g := by
        unfold volP
        rw [volG_move g 1 (hg g List.mem_cons_self)]
      rw [this]
      exact ih _ fun g' h' => hg g' (List.mem_cons_of_mem _ h')
  exact key gs 0 h
theorem at_move (x : Pt) : atB (moveP v x) = moveB v (atB x) := rfl
theorem map_at_move (pts : List Pt) : (pts.map (moveP v)).map atB = (pts.map atB).map (moveB v) := by
  rw [List.map_map, List.map_map]; rfl
theorem inB_move {x : Pt} {b : Box} : inB' (moveP v x) (moveB v b) ↔ inB' x b := by
  unfold inB' moveP moveB moveS
  simp only
  omega
theorem sol_move (h : Mv v p q) (ok : CheckOk p) (pts : List Pt) : Solv q (pts.map (moveP v)) ↔ Solv p pts := by
  have hb : ∀ i (h1 : i < q.boxes.xs.length) (h2 : i < p.boxes.xs.length), q.boxes.xs[i] = moveB v p.boxes.xs[i] := fun i h1 h2 => by simp only [h.boxes, List.getElem_map]
  have hl := h.len
  constructor
  · rintro ⟨h1, h2, h3⟩
    have h1' : pts.length = p.boxes.xs.length := by rw [List.length_map] at h1; omega
    refine ⟨h1', fun i a b => ?_, fun f hf => ?_⟩
    · have := h2 i (by simpa using a) (by omega)
      rw [hb i (by omega) b, List.getElem_map] at this
      exact inB_move.1 this
    · have := h3 f ((h.facts f).2 hf)
      rwa [map_at_move, fails_move (by rw [List.length_map, h1']; exact fact_named ok f hf)] at this
  · rintro ⟨h1, h2, h3⟩
    refine ⟨by rw [List.length_map]; omega, fun i a b => ?_, fun f hf => ?_⟩
    · rw [hb i b (by omega), List.getElem_map]
      exact inB_move.2 (h2 i (by simpa using a) (by omega))
    · have hf' := (h.facts f).1 hf
      rw [map_at_move, fails_move (by rw [List.length_map, h1]; exact fact_named ok f hf')]
      exact h3 f hf'
theorem sol_move' (h : Mv v p q) (ok : CheckOk p) {pts : List Pt} (hs : Solv q pts) : ∃ pts', pts = pts'.map (moveP v) ∧ Solv p pts' :=
  ⟨pts.map (moveP (backP v)), (mapP_back v pts).symm, (sol_move h ok _).1 (by rw [mapP_back]; exact hs)⟩
theorem sols_move {F F' : List Fact} (hF : ∀ f, f ∈ F' ↔ f ∈ F) {l : List Box} (hn : ∀ f ∈ F, Named f l.length) {g : List Nat} (hg : g.Nodup) (hgl : ∀ k ∈ g, k < l.length) (hw : ∀ f ∈ F, f.a.toNat ∈ g → Within g f) (c : List Pt) :
    c.map (moveP v) ∈ solsC F' (l.map (moveB v)) g ↔ c ∈ solsC F l g := by
  rw [mem_sols hg (fun f hf ha => hw f ((hF f).1 hf) ha), mem_sols hg hw]
  have hset : ∀ (part : List Nat) (c : List Pt) (here : List Box), setAll part (c.map (moveP v)) (here.map (moveB v)) = (setAll part c here).map (moveB v) := by
    intro part
    induction part with
    | nil => intro c here; cases c <;> rfl
    | cons i part ih =>
      intro c here
      cases c with
      | nil => rfl
      | cons x c =>
        rw [List.map_cons, setAll, setAll, at_move, ← List.map_set]
        exact ih c _
  have hfail : ∀ f ∈ F, failsS f (setAll g (c.map (moveP v)) (l.map (moveB v))) = failsS f (setAll g c l) := fun f hf => by
    rw [hset, fails_move (by rw [setAll_length]; exact hn f hf)]
  simp only [List.length_map, List.getElem_map]
  constructor
  · rintro ⟨⟨h1, h2⟩, h3⟩
    refine ⟨⟨h1, fun k a b => ?_⟩, fun f hf ha => ?_⟩
    · have := h2 k a b
      rw [map_at (hgl _ (List.getElem_mem a))] at this
      exact inB_move.1 this
    · rw [← hfail f hf]; exact h3 f ((hF f).2 hf) ha
  · rintro ⟨⟨h1, h2⟩, h3⟩
    refine ⟨⟨h1, fun k a b => ?_⟩, fun f hf ha => ?_⟩
    · rw [map_at (hgl _ (List.getElem_mem a))]
      exact inB_move.2 (h2 k a b)
    · have hf' := (hF f).1 hf
      rw [hfail f hf']; exact h3 f hf' ha
theorem sols_len {F F' : List Fact} (hF : ∀ f, f ∈ F' ↔ f ∈ F) {l : List Box} (hn : ∀ f ∈ F, Named f l.length) {g : List Nat} (hg : g.Nodup) (hgl : ∀ k ∈ g, k < l.length) (hw : ∀ f ∈ F, f.a.toNat ∈ g → Within g f) :
    (solsC F' (l.map (moveB v)) g).length = (solsC F l g).length := by
  have h1 : ((solsC F l g).map (·.map (moveP v))).Nodup := nodup_map' (fun a b e => by
    have : (a.map (moveP v)).map (moveP (backP v)) = (b.map (moveP v)).map (moveP (backP v)) := by rw [e]
    have h2 := mapP_back (backP v) a
    have h3 := mapP_back (backP v) b
    rw [back_back] at h2 h3
    rwa [h2, h3] at this) (sols_nodup F l g)
  have := nodup_eq (sols_nodup F' (l.map (moveB v)) g) h1 fun c => by
    rw [List.mem_map]
    constructor
    · intro hc
      refine ⟨c.map (moveP (backP v)), ?_, mapP_back v c⟩
      rw [← sols_move hF hn hg hgl hw, mapP_back]
      exact hc
    · rintro ⟨c', hc', rfl⟩
      exact (sols_move hF hn hg hgl hw c').2 hc'
  simpa using this
theorem find_move (h : Mv v p q) (ok : CheckOk p) (ok' : CheckOk q) {D D' : FoundD} {e e' : Int} (hf : FindOut p D e) (hf' : FindOut q D' e') : e = e' ∧ D.empty = D'.empty ∧ D.seens.map (·.n) = D'.seens.map (·.n) := by
  have hl := h.len
  rcases hf with ⟨hr, rfl, rfl⟩ | ⟨l, m, hr, hm, hc⟩
  · have hr' := nar_move h ok hr
    obtain ⟨rfl, rfl⟩ := hf'.unique (.inl ⟨hr', rfl, rfl⟩)
    exact ⟨rfl, rfl, rfl⟩
  · have hr' := nar_move h ok hr
    have hm' : IsCls (edgesL q.facts.xs) q.boxes.xs.length m := by rw [hl]; exact cls_same h.facts hm
    have hlen : l.length = p.boxes.xs.length := hr.1.sub.1
    have hd := parts_div hm (fact_named ok)
    have hd' := parts_div hm' (fact_named ok')
    have hgl : ∀ g ∈ partsL' m p.boxes.xs.length, ∀ k ∈ g, k < l.length := fun g hg k hk => by rw [hlen]; exact (hd.one g hg).2 k hk
    have hv : volL (l.map (moveB v)) (partsL' m q.boxes.xs.length) = volL l (partsL' m p.boxes.xs.length) := by rw [hl]; exact volL_move hgl
    rcases hc with ⟨hc, rfl, rfl⟩ | ⟨hc, rfl, rfl⟩
    · obtain ⟨rfl, rfl⟩ := hf'.unique (.inr ⟨_, m, hr', hm', .inl ⟨by rw [hv]; exact hc, rfl, rfl⟩⟩)
      exact ⟨rfl, rfl, rfl⟩
    · obtain ⟨rfl, rfl⟩ := hf'.unique (.inr ⟨_, m, hr', hm', .inr ⟨by rw [hv]; exact hc, rfl, rfl⟩⟩)
      have hns : ((partsL' m p.boxes.xs.length).map (lookD p.facts.xs l)).map (·.n) = ((partsL' m q.boxes.xs.length).map (lookD q.facts.xs (l.map (moveB v)))).map (·.n) := by
        rw [hl, List.map_map, List.map_map]
        refine List.map_congr_left fun g hg => ?_
        have hone := hd.one g hg
        have hapart : ∀ (P : Problem), CheckOk P → ∀ f ∈ P.facts.xs, 0 ≤ f.a ∧ 0 ≤ f.b ∧ f.a ≠ f.b := fun P hP f hf => by
          have h1 := (formedB_iff f _).1 (hP.fact f hf)
          exact ⟨by omega, by omega, by omega⟩
        have s1 := (look_ok (hgl g hg) hr.1.wf (fun f hf ha => hd.within f hf g hg ha) (hapart p ok)).n
        have s2 := (look_ok (l := l.map (moveB v)) (fun k hk => by rw [List.length_map]; exact hgl g hg k hk) ((wf_move v).2 hr.1.wf) (fun f hf ha => hd.within f ((h.facts f).1 hf) g hg ha) (hapart q ok')).n
        have s3 := sols_len (v := v) h.facts (fun f hf => by rw [hlen]; exact fact_named ok f hf) hone.1 (hgl g hg) (fun f hf ha => hd.within f hf g hg ha)
        show (lookD p.facts.xs l g).n = (lookD q.facts.xs (l.map (moveB v)) g).n
        rw [s1, s2, s3]
      refine ⟨rfl, ?_, hns⟩
      have hE : ∀ L : List SeenD, emptyB L = (L.map (·.n)).any (· == 0) := fun L => by unfold emptyB; rw [List.any_map]; rfl
      show emptyB _ = emptyB _
      rw [hE, hE, hns]
theorem hull_move (h : Mv v p q) (ok : CheckOk p) {i : Nat} (hi : i < p.boxes.xs.length) {b : Box} (hb : HullAt p i b) : HullAt q i (moveB v b) := by
  have hat : ∀ pts, Solv p pts → (pts.map (moveP v))[i]! = moveP v pts[i]! := fun pts hs => by
    have : i < pts.length := by rw [hs.len]; exact hi
    rw [getElem!_pos _ i (by simpa using this), getElem!_pos pts i this, List.getElem_map]
  refine ⟨fun pts hs => ?_, ?_, ?_, ?_, ?_⟩
  · obtain ⟨pts', rfl, hs'⟩ := sol_move' h ok hs
    rw [hat _ hs']
    exact inB_move.2 (hb.all _ hs')
  · obtain ⟨pts, hs, e⟩ := hb.x0
    exact ⟨_, (sol_move h ok pts).2 hs, by rw [hat _ hs]; show pts[i]!.x + v.x = b.x.lo + v.x; rw [e]⟩
  · obtain ⟨pts, hs, e⟩ := hb.x1
    exact ⟨_, (sol_move h ok pts).2 hs, by rw [hat _ hs]; show pts[i]!.x + v.x = b.x.hi + v.x; rw [e]⟩
  · obtain ⟨pts, hs, e⟩ := hb.y0
    exact ⟨_, (sol_move h ok pts).2 hs, by rw [hat _ hs]; show pts[i]!.y + v.y = b.y.lo + v.y; rw [e]⟩
  · obtain ⟨pts, hs, e⟩ := hb.y1
    exact ⟨_, (sol_move h ok pts).2 hs, by rw [hat _ hs]; show pts[i]!.y + v.y = b.y.hi + v.y; rw [e]⟩
end
end Go.Proofs.Ytmghcpdpilgplaa.Vm
