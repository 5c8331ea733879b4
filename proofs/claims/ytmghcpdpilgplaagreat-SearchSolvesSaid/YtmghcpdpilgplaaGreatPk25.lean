/- Narrow, Parts and Volume: the program's, walked. find and solved: what is seen of all parts, walked. solved, Count: the program's, walked. found.hull and Hull: the program's, walked. with, further and Decide: the program's, walked. Few, boxes, ints, With and lies of the laws, walked. -/
import Derived.Test.YtmghcpdpilgplaaGreatPk22
import Derived.Test.YtmghcpdpilgplaaGreatPk24
import Derived.Test.YtmghcpdpilgplaaGreatPk17
namespace Go.Proofs.YtmghcpdpilgplaaGreat.Vm
open Go
set_option linter.unusedSimpArgs false
set_option linter.unusedVariables false
set_option maxHeartbeats 4000000
set_option maxRecDepth 4000
theorem nar_sl {p : Problem} {l : List Box} (hl : l.length = p.boxes.xs.length) : ∃ q : Sl Box,narPV p (some l) = q.pv Box.cells 4 ∧ q.xs = l := by
 obtain ⟨bs,fs⟩ := p
 cases bs with
 | nil =>
  have : l = [] := List.eq_nil_of_length_eq_zero hl
  subst this
  exact ⟨.nil,rfl,rfl⟩
 | mk h xs => exact ⟨.mk false l,rfl,rfl⟩
theorem parts_ok (m : Nat → Nat) (n : Nat) : (partsL' m n).length ≤ n ∧ ∀ l ∈ partsL' m n,l.length ≤ n ∧ ∀ k ∈ l,k < n := by
 refine ⟨partsTo_len m n n,fun l hl => ?_⟩
 obtain ⟨i,_,_,rfl⟩ := mem_parts.1 hl
 exact ⟨partTo_len m i n,fun k hk => (mem_partL.1 hk).1⟩
end Go.Proofs.YtmghcpdpilgplaaGreat.Vm

namespace Go.Proofs.YtmghcpdpilgplaaGreat.Vm
open Go
set_option linter.unusedSimpArgs false
set_option linter.unusedVariables false
set_option maxHeartbeats 4000000
set_option maxRecDepth 4000
structure FoundD where
 empty : Bool
 seens : List SeenD
def seenF (s : SeenD) : List PV := [s.pv]
@[simp] def FoundD.cells (D : FoundD) : List PV := [.bool D.empty,(Sl.of D.seens).pv seenF 1]
def emptyB (L : List SeenD) : Bool := L.any fun s => s.n == 0
theorem emptyB_snoc (L : List SeenD) (s : SeenD) : emptyB (L ++ [s]) = (emptyB L || decide ((s.n : Int) = 0)) := by
 unfold emptyB
 rw [List.any_append]
 simp only [List.any_cons,List.any_nil,Bool.or_false]
 congr 1
 rw [Bool.eq_iff_iff]
 simp
def FindOut (p : Problem) (D : FoundD) (e : Int) : Prop := (IsNar failsP p.facts.xs p.boxes.xs none ∧ D = ⟨true,[]⟩ ∧ e = 0) ∨
 ∃ l m,IsNar failsP p.facts.xs p.boxes.xs (some l) ∧ IsCls (edgesL p.facts.xs) p.boxes.xs.length m ∧
  ((65536 < volL l (partsL' m p.boxes.xs.length) ∧ D = ⟨false,[]⟩ ∧ e = 2) ∨
   (volL l (partsL' m p.boxes.xs.length) ≤ 65536 ∧ D = ⟨emptyB ((partsL' m p.boxes.xs.length).map (lookD p.facts.xs l)),(partsL' m p.boxes.xs.length).map (lookD p.facts.xs l)⟩ ∧ e = 0))
theorem volL_max {b : List Box} : ∀ {ps : List (List Nat)} {x : Int} {g : List Nat},g ∈ ps → volP b g ≤ ps.foldl (fun x l => max x (volP b l)) x
 | a :: ps,x,g,h => by
  rw [List.foldl_cons]
  rcases List.mem_cons.1 h with rfl | h
  ·have mono : ∀ (ps : List (List Nat)) (x : Int),x ≤ ps.foldl (fun x l => max x (volP b l)) x := by
    intro ps
    induction ps with
    | nil => intro x; exact Int.le_refl _
    | cons a ps ih => intro x; have := ih (max x (volP b a)); rw [List.foldl_cons]; omega
   have := mono ps (max x (volP b g))
   omega
  ·exact volL_max h
theorem fact_named {p : Problem} (ok : CheckOk p) : ∀ f ∈ p.facts.xs,Named f p.boxes.xs.length := fun f hf => named_ok (ok.fact f hf)
theorem fact_apart {p : Problem} (ok : CheckOk p) : ∀ f ∈ p.facts.xs,f.a ≠ f.b ∧ (f.kind = 2 → f.c ≠ f.a) := fun f hf => by
 have h := (formedB_iff f _).1 (ok.fact f hf)
 refine ⟨by omega,fun hk => ?_⟩
 have := h.2.2.2.2.2.1 hk
 omega
theorem look_in {p : Problem} (ok : CheckOk p) {l : List Box} {m : Nat → Nat} (hr : IsNar failsP p.facts.xs p.boxes.xs (some l)) (hm : IsCls (edgesL p.facts.xs) p.boxes.xs.length m) (hv : volL l (partsL' m p.boxes.xs.length) ≤ 65536) {q : Sl Box} (hq : q.xs = l) {g : List Nat} (hg : g ∈ partsL' m p.boxes.xs.length) : LookIn p q g := by
 have hd := parts_div hm (fact_named ok)
 have hlen : l.length = p.boxes.xs.length := hr.1.sub.1
 obtain ⟨i,hi,hri,rfl⟩ := mem_parts.1 hg
 have hpo := part_one hm (fact_named ok) (fact_apart ok) hi hri
 have h1 := hd.one _ hg
 have hpl := parts_ok m p.boxes.xs.length
 refine ⟨ok,by rw [hq]; exact hr.1.sub,by rw [hq]; exact hr.1.wf,h1.1,fun k hk => by rw [hq,hlen]; exact h1.2 k hk,hpo.2.1,by have := (hpl.2 _ hg).1; have := ok.nb; omega,fun f hf ha => hd.within f hf _ hg ha,fun h => ?_⟩
 rw [hq]
 refine sols_few hr.1.wf (fun k hk => by rw [hlen]; exact h1.2 k hk) h ?_
 have := volL_max (b := l) (x := 0) hg
 unfold volL at hv
 omega
theorem sh77 : G.shared 77 = false := by decide
theorem e77 (n : Nat) (p : Problem) (ok : CheckOk p) (D : FoundD) (e : Int) (h : FindOut p D e) : callP G (n + 51) 77 [.agg p.cells] = some (.tup [.agg D.cells,.int .i64 e]) := by
 refine callP_of (ext_none _) rfl g77 rfl ?_
 rcases h with ⟨hr,rfl,rfl⟩ | ⟨l,m,hr,hm,h⟩
 ·have hn := fun H => call_pureC (G := G) (n := n + 50) (H := H) (caps := []) (ps := [.agg p.cells]) sh62 (e62 (n + 43) p ok none hr)
  have hnone : narPV p none = .nils := rfl
  rw [hnone] at hn
  simp only [Problem.cells,List.map_cons,List.map_nil] at hn
  clear hr hnone
  (repeat' first | simp [*,initEnv,c77,Problem.cells] | (apply wpIf_two <;> intro _ h <;> try simp [-Nat.le_zero_eq] at h) | (show wpE 0 (doAppend ..) ..; refine wpE_appW ?_) | (refine after_intro fun v2 H2 hv2 hnx2 hget2 hnew2 hone2 hcel2 => ?_))
 ·have hl : l.length = p.boxes.xs.length := hr.1.sub.1
  obtain ⟨q,hq,hqx⟩ := nar_sl hl
  have hn := fun H => call_pureC (G := G) (n := n + 50) (H := H) (caps := []) (ps := [.agg p.cells]) sh62 (e62 (n + 43) p ok (some l) hr)
  have hp := fun H => call_pureC (G := G) (n := n + 50) (H := H) (caps := []) (ps := [.agg p.cells]) sh65 (e65 (n + 48) p ok m hm)
  have hpo := parts_ok m p.boxes.xs.length
  have nb := ok.nb
  have hv := fun H => call_pureC (G := G) (n := n + 50) (H := H) (caps := []) (ps := [q.pv Box.cells 4,(Sl.of (partsL' m p.boxes.xs.length)).pv partF 1]) sh64 (e64 (n + 48) q (Sl.of (partsL' m p.boxes.xs.length)) (by rw [hqx]; omega) (by rw [Sl.xs_of]; omega) (by rw [hqx]; exact valid_sub ok hr.1.sub hr.1.wf) (by rw [Sl.xs_of,hqx,hl]; exact fun x hx => ⟨by have := (hpo.2 x hx).1; omega,(hpo.2 x hx).2⟩))
  have hlk := Hide.mk (fun (hvol : volL l (partsL' m p.boxes.xs.length) ≤ 65536) (g : List Nat) (hg : g ∈ partsL' m p.boxes.xs.length) H => call_pureC (G := G) (n := n + 50) (H := H) (caps := []) (ps := [.agg p.cells,q.pv Box.cells 4,partPV g]) sh126 (e126 n p q g (look_in ok hr hm hvol hqx hg)))
  rw [hqx] at hlk
  rw [partsPV_sl] at hp
  rw [Sl.xs_of,hqx] at hv
  have hps : Hide ((partsL' m p.boxes.xs.length).length ≤ 12) := ⟨by omega⟩
  generalize partsL' m p.boxes.xs.length = gs at *
  rcases h with ⟨hvol,rfl,rfl⟩ | ⟨hvol,hDe,rfl⟩
  ·have hvol' : 65536 < volL l gs := hvol
   rw [hq] at hn
   simp only [Problem.cells,List.map_cons,List.map_nil] at hn hp hv
   clear hr hm hpo hqx hq ok nb hl hlk hvol
   generalize volL l gs = x at *
   generalize q.pv Box.cells 4 = y at *
   generalize (Sl.of gs).pv partF 1 = w at *
   (repeat' first | simp [*,initEnv,c77,Problem.cells] | (apply wpIf_two <;> intro _ h <;> try simp [-Nat.le_zero_eq] at h) | (show wpE 0 (doAppend ..) ..; refine wpE_appW ?_) | (refine after_intro fun v2 H2 hv2 hnx2 hget2 hnew2 hone2 hcel2 => ?_))
  ·have hvol' : ¬ 65536 < volL l gs := by omega
   have hlk2 := Hide.mk (hlk.h hvol)
   rw [hq] at hn
   simp only [Problem.cells,List.map_cons,List.map_nil] at hn hp hv
   clear hr hm hpo hqx hq ok nb hl hlk hvol
   generalize volL l gs = x at *
   generalize hy : q.pv Box.cells 4 = y at *
   obtain ⟨s,hs⟩ : ∃ s,s = Sl.of gs := ⟨_,rfl⟩
   have hsx : s.xs = gs := by rw [hs,Sl.xs_of]
   rw [← hs] at hp hv
   have hsl : s.xs.length ≤ 12 := by rw [hsx]; exact hps.h
   have hsxH := Hide.mk hsx
   have hDeH := Hide.mk hDe
   clear hs hsx hy hDe
   (repeat' first | simp [*,initEnv,c77,Problem.cells] | (apply wpIf_two <;> intro _ h <;> try simp [-Nat.le_zero_eq] at h) | (show wpE 0 (doAppend ..) ..; refine wpE_appW ?_) | (refine after_intro fun v2 H2 hv2 hnx2 hget2 hnew2 hone2 hcel2 => ?_))
   refine wp_loopF [(9,10),(28,52)] (fun (i : Nat) env H => env 28 = .pure (.int .i64 i) ∧ i ≤ s.xs.length ∧ 1 < H.nx ∧ H.get 0 = .cells true [.pure (.bool false),.pure .nils] ∧ ∃ V,H.get 1 = .cells true [.pure (.bool (emptyB ((gs.map (lookD p.facts.xs l)).take i))),V] ∧ Hide (GrowV seenF 1 H V ((gs.map (lookD p.facts.xs l)).take i) ∧ ∀ id,Names V id → 1 < id)) (fun i => s.xs.length - i) 0 ?_ ?_ ?_ ?_
   ·decide
   ·exact ⟨by simp,by omega,by simp,by simp,.pure .nils,by simp [emptyB],⟨by simpa using GrowV.nil,fun id ⟨_,_,_,h⟩ => by simp at h⟩⟩
   ·simp only [loopFuel]; omega
   rintro i env H ⟨g28,hi,hnx,h0,V,h1,hV⟩
   generalize hb : emptyB ((gs.map (lookD p.facts.xs l)).take i) = b at *
   by_cases hlt : i < s.xs.length
   ·have w1 : IntKind.i64.wrap ((i : Int) + 1) = (i + 1 : Nat) := by rw [wrap64 (by omega) (by omega)]; omega
    have hltI : (i : Int) < s.xs.length := by omega
    have hig : i < gs.length := by rw [← hsxH.h]; exact hlt
    have hme : s.xs[i] ∈ gs := by rw [← hsxH.h]; exact List.getElem_mem hlt
    have hlk3 := hlk2.h s.xs[i] hme
    have hnext : (gs.map (lookD p.facts.xs l)).take (i + 1) = (gs.map (lookD p.facts.xs l)).take i ++ [lookD p.facts.xs l s.xs[i]] := by
     have e := hsxH.h
     subst e
     rw [List.take_add_one,List.getElem?_eq_getElem (by simpa using hlt)]
     simp
    obtain ⟨g,hg⟩ : ∃ g,s.xs[i] = g := ⟨_,rfl⟩
    rw [hg] at hlk3 hnext
    have hnb : Hide (emptyB ((gs.map (lookD p.facts.xs l)).take (i + 1)) = (b || decide (((lookD p.facts.xs l g).n : Int) = 0))) := ⟨by
     rw [hnext,emptyB_snoc,hb]⟩
    have hlen : ((gs.map (lookD p.facts.xs l)).take i).length ≤ 12 := by rw [List.length_take]; have := hps.h; omega
    have hnextH := Hide.mk hnext
    generalize lookD p.facts.xs l g = D' at *
    generalize (gs.map (lookD p.facts.xs l)).take i = L at *
    simp only [Problem.cells,partPV_sl,List.map_cons,List.map_nil] at hlk3
    have hVo := hV.h.1.1.one
    have hVo1 := hVo.1
    have hVo2 := hVo.2
    have hpvE : D'.pv = .ptr false [partPV D'.part,.int .i64 D'.n,.slice false 4 (chunks 4 D'.part.length (D'.ends.map optPV)),optPV D'.first] 0 := rfl
    have hDH := Hide.mk hpvE
    rw [hpvE] at hlk3
    clear hlk2 hnext hb hVo hpvE
    obtain ⟨pp,hpp⟩ : ∃ pp,pp = partPV D'.part := ⟨_,rfl⟩
    obtain ⟨cc,hcc⟩ : ∃ cc,cc = chunks 4 D'.part.length (D'.ends.map optPV) := ⟨_,rfl⟩
    obtain ⟨oo,hoo⟩ : ∃ oo,oo = optPV D'.first := ⟨_,rfl⟩
    have hDc : Hide (D'.pv = .ptr false [pp,.int .i64 D'.n,.slice false 4 cc,oo] 0) := ⟨by rw [hDH.h,← hpp,← hcc,← hoo]⟩
    rw [← hpp,← hcc,← hoo] at hlk3
    have hseE : seenF D' = [D'.pv] := rfl
    rw [hDc.h] at hseE
    obtain ⟨nn,hnn⟩ : ∃ nn : Int,nn = D'.n := ⟨_,rfl⟩
    rw [← hnn] at hlk3 hnb hseE
    have hseH := Hide.mk hseE
    clear hnn hseE
    clear hpp hcc hoo hDH
    cases b with
    | true =>
     have hnb2 : Hide (emptyB ((gs.map (lookD p.facts.xs l)).take (i + 1)) = true) := ⟨by rw [hnb.h]; rfl⟩
     clear hnb
     (repeat' first | simp [*,initEnv,partF] | (apply wpIf_two <;> intro _ h <;> try simp [-Nat.le_zero_eq] at h) | (show wpE 0 (doAppend ..) ..; refine wpE_appW ?_) | (refine after_intro fun v2 H2 hv2 hnx2 hget2 hnew2 hone2 hcel2 => ?_))
     refine wpE_appendV (f := seenF) (sz := 1) (l := L) ((hV.h.1.set (fun hn => by have := hV.h.2 1 hn; omega) _).alloc _) (fun _ => rfl) (by decide) (fun _ => rfl) (by unfold maxCells; omega) ⟨D',by rw [hseH.h]; simp,?_⟩
     intro V4 H4 hg4 ha
     have hV4 : Hide (GrowV seenF 1 H4 V4 ((gs.map (lookD p.facts.xs l)).take (i + 1)) ∧ ∀ id,Names V4 id → 1 < id) := ⟨by rw [hnextH.h]; exact hg4,fun id hn => by have := ha.new id hn; simp at this; omega⟩
     have g0 : H4.get 0 = .cells true [.pure (.bool false),.pure .nils] := by
      rw [ha.get 0 (by rw [nx_alloc,nx_set]; omega) (fun hn => by have := hV.h.2 0 hn; omega),get_alloc_lt (by rw [nx_set]; omega),get_set_ne (by omega)]; exact h0
     have g1 : H4.get 1 = .cells true [.pure (.bool true),V] := by
      rw [ha.get 1 (by rw [nx_alloc,nx_set]; omega) (fun hn => by have := hV.h.2 1 hn; omega),get_alloc_lt (by rw [nx_set]; omega),get_set_own hnx]
     have gn : 1 < H4.nx := by have := ha.nx; simp at this; omega
     have o4 := hg4.1.one
     have o4a := o4.1
     have o4b := o4.2
     clear hg4 ha o4 hV
     (repeat' first | simp [*,initEnv] | (apply wpIf_two <;> intro _ h <;> try simp [-Nat.le_zero_eq] at h) | (show wpE 0 (doAppend ..) ..; refine wpE_appW ?_) | (refine after_intro fun v2 H2 hv2 hnx2 hget2 hnew2 hone2 hcel2 => ?_))
     exact ⟨i + 1,by omega,by omega,by omega,V4,⟨hnb2.h,rfl⟩,⟨hV4.h.1.set (fun hn => by have := hV4.h.2 1 hn; omega) _,hV4.h.2⟩⟩
    | false =>
     by_cases hz : nn = 0
     ·have hnb2 : Hide (emptyB ((gs.map (lookD p.facts.xs l)).take (i + 1)) = true) := ⟨by rw [hnb.h,decide_eq_true hz]; rfl⟩
      subst hz
      clear hnb
      (repeat' first | simp [*,initEnv,partF] | (apply wpIf_two <;> intro _ h <;> try simp [-Nat.le_zero_eq] at h) | (show wpE 0 (doAppend ..) ..; refine wpE_appW ?_) | (refine after_intro fun v2 H2 hv2 hnx2 hget2 hnew2 hone2 hcel2 => ?_))
      refine wpE_appendV (f := seenF) (sz := 1) (l := L) ((hV.h.1.set (fun hn => by have := hV.h.2 1 hn; omega) _).alloc _) (fun _ => rfl) (by decide) (fun _ => rfl) (by unfold maxCells; omega) ⟨D',by rw [hseH.h]; simp,?_⟩
      intro V4 H4 hg4 ha
      have hV4 : Hide (GrowV seenF 1 H4 V4 ((gs.map (lookD p.facts.xs l)).take (i + 1)) ∧ ∀ id,Names V4 id → 1 < id) := ⟨by rw [hnextH.h]; exact hg4,fun id hn => by have := ha.new id hn; simp at this; omega⟩
      have g0 : H4.get 0 = .cells true [.pure (.bool false),.pure .nils] := by
       rw [ha.get 0 (by rw [nx_alloc,nx_set]; omega) (fun hn => by have := hV.h.2 0 hn; omega),get_alloc_lt (by rw [nx_set]; omega),get_set_ne (by omega)]; exact h0
      have g1 : H4.get 1 = .cells true [.pure (.bool true),V] := by
       rw [ha.get 1 (by rw [nx_alloc,nx_set]; omega) (fun hn => by have := hV.h.2 1 hn; omega),get_alloc_lt (by rw [nx_set]; omega),get_set_own hnx]
      have gn : 1 < H4.nx := by have := ha.nx; simp at this; omega
      have o4 := hg4.1.one
      have o4a := o4.1
      have o4b := o4.2
      clear hg4 ha o4 hV
      (repeat' first | simp [*,initEnv] | (apply wpIf_two <;> intro _ h <;> try simp [-Nat.le_zero_eq] at h) | (show wpE 0 (doAppend ..) ..; refine wpE_appW ?_) | (refine after_intro fun v2 H2 hv2 hnx2 hget2 hnew2 hone2 hcel2 => ?_))
      exact ⟨i + 1,by omega,by omega,by omega,V4,⟨hnb2.h,rfl⟩,⟨hV4.h.1.set (fun hn => by have := hV4.h.2 1 hn; omega) _,hV4.h.2⟩⟩
     ·have hnb2 : Hide (emptyB ((gs.map (lookD p.facts.xs l)).take (i + 1)) = false) := ⟨by rw [hnb.h,decide_eq_false hz]; rfl⟩
      clear hnb
      (repeat' first | simp [*,initEnv,partF] | (apply wpIf_two <;> intro _ h <;> try simp [-Nat.le_zero_eq] at h) | (show wpE 0 (doAppend ..) ..; refine wpE_appW ?_) | (refine after_intro fun v2 H2 hv2 hnx2 hget2 hnew2 hone2 hcel2 => ?_))
      refine wpE_appendV (f := seenF) (sz := 1) (l := L) ((hV.h.1.set (fun hn => by have := hV.h.2 1 hn; omega) _).alloc _) (fun _ => rfl) (by decide) (fun _ => rfl) (by unfold maxCells; omega) ⟨D',by rw [hseH.h]; simp,?_⟩
      intro V4 H4 hg4 ha
      have hV4 : Hide (GrowV seenF 1 H4 V4 ((gs.map (lookD p.facts.xs l)).take (i + 1)) ∧ ∀ id,Names V4 id → 1 < id) := ⟨by rw [hnextH.h]; exact hg4,fun id hn => by have := ha.new id hn; simp at this; omega⟩
      have g0 : H4.get 0 = .cells true [.pure (.bool false),.pure .nils] := by
       rw [ha.get 0 (by rw [nx_alloc,nx_set]; omega) (fun hn => by have := hV.h.2 0 hn; omega),get_alloc_lt (by rw [nx_set]; omega),get_set_ne (by omega)]; exact h0
      have g1 : H4.get 1 = .cells true [.pure (.bool false),V] := by
       rw [ha.get 1 (by rw [nx_alloc,nx_set]; omega) (fun hn => by have := hV.h.2 1 hn; omega),get_alloc_lt (by rw [nx_set]; omega),get_set_own hnx]
      have gn : 1 < H4.nx := by have := ha.nx; simp at this; omega
      have o4 := hg4.1.one
      have o4a := o4.1
      have o4b := o4.2
      clear hg4 ha o4 hV
      (repeat' first | simp [*,initEnv] | (apply wpIf_two <;> intro _ h <;> try simp [-Nat.le_zero_eq] at h) | (show wpE 0 (doAppend ..) ..; refine wpE_appW ?_) | (refine after_intro fun v2 H2 hv2 hnx2 hget2 hnew2 hone2 hcel2 => ?_))
      exact ⟨i + 1,by omega,by omega,by omega,V4,⟨hnb2.h,rfl⟩,⟨hV4.h.1.set (fun hn => by have := hV4.h.2 1 hn; omega) _,hV4.h.2⟩⟩
   ·have hiN : i = s.xs.length := by omega
    subst hiN
    have hall : (gs.map (lookD p.facts.xs l)).take s.xs.length = gs.map (lookD p.facts.xs l) := by
     rw [hsxH.h]; exact List.take_of_length_le (by simp)
    rw [hall] at hb hV
    have hres : Hide (∀ o,FrzK (H.set 0 o) false 10 V ((Sl.of (gs.map (lookD p.facts.xs l))).pv seenF 1)) := ⟨fun o => (hV.h.1.set (fun hn => by have := hV.h.2 0 hn; omega) o).res (n := 8) (fun _ => rfl)⟩
    have hVo := hV.h.1.1.one
    have hVo1 := hVo.1
    have hVo2 := hVo.2
    have hDe := hDeH.h
    rw [hb] at hDe
    have hDb : D.empty = b := by rw [hDe]
    have hDs : Hide (D.seens = gs.map (lookD p.facts.xs l)) := ⟨by rw [hDe]⟩
    have hDeH2 := Hide.mk hDe
    have h0n : 0 < H.nx := by omega
    obtain ⟨ids,hids⟩ := FrzK.aggV (n := 10) (FrzL.cons (FrzK.pure (.bool b)) (.cons (hres.h (.cells true [.pure (.bool b),V])) .nil))
    rw [← hDs.h] at hids
    clear hV hVo hlk2 hDeH hDe hb hall hres
    (repeat' first | simp [*,initEnv] | (apply wpIf_two <;> intro _ h <;> try simp [-Nat.le_zero_eq] at h) | (show wpE 0 (doAppend ..) ..; refine wpE_appW ?_) | (refine after_intro fun v2 H2 hv2 hnx2 hget2 hnew2 hone2 hcel2 => ?_))
end Go.Proofs.YtmghcpdpilgplaaGreat.Vm

namespace Go.Proofs.YtmghcpdpilgplaaGreat.Vm
open Go
set_option linter.unusedSimpArgs false
set_option linter.unusedVariables false
set_option maxHeartbeats 4000000
set_option maxRecDepth 4000
def SolvedOut (p : Problem) (D : FoundD) (e : Int) : Prop := (checkS p ≠ 0 ∧ D = ⟨false,[]⟩ ∧ e = checkS p) ∨ (checkS p = 0 ∧ FindOut p D e)
theorem sh69 : G.shared 69 = false := by decide
theorem e69 (n : Nat) (p : Problem) (D : FoundD) (e : Int) (h : SolvedOut p D e) : callP G (n + 52) 69 [.agg p.cells] = some (.tup [.agg D.cells,.int .i64 e]) := by
 refine callP_of (ext_none _) rfl g69 rfl ?_
 have hc := fun H => call_pureC (G := G) (n := n + 51) (H := H) (caps := []) (ps := [.agg p.cells]) sh49 (e49 (n + 48) p)
 rcases h with ⟨h0,rfl,rfl⟩ | ⟨h0,hf⟩
 ·generalize checkS p = c at *
  simp only [Problem.cells,List.map_cons,List.map_nil] at hc
  (repeat' first | simp [*,initEnv,c69,Problem.cells] | (apply wpIf_two <;> intro _ h <;> try simp [-Nat.le_zero_eq] at h))
 ·have hn := fun H => call_pureC (G := G) (n := n + 51) (H := H) (caps := []) (ps := [.agg p.cells]) sh77 (e77 n p (check_ok.1 h0) D e hf)
  rw [h0] at hc
  obtain ⟨De,Ds⟩ := D
  simp only [Problem.cells,FoundD.cells,List.map_cons,List.map_nil] at hc hn ⊢
  clear h0 hf
  (repeat' first | simp [*,initEnv,c69,Problem.cells] | (apply wpIf_two <;> intro _ h <;> try simp [-Nat.le_zero_eq] at h))
def countL : List Nat → Int → Option Int
 | [],n => some n
 | c :: cs,n => if 4611686018427387904 / n < (c : Int) then none else countL cs (n * c)
def countF (D : FoundD) (e : Int) : Int × Int := if e ≠ 0 ∨ D.empty = true then (0,e) else match countL (D.seens.map (·.n)) 1 with
 | none => (0,3)
 | some n => (n,0)
theorem quo_le {n c : Int} (hn : 1 ≤ n) (hc : 0 ≤ c) (h : ¬ 4611686018427387904 / n < c) : n * c ≤ 4611686018427387904 := by
 have h1 : c ≤ 4611686018427387904 / n := by omega
 have h2 := Int.mul_le_mul_of_nonneg_left h1 (show (0 : Int) ≤ n by omega)
 have h3 := Int.mul_ediv_self_le (x := (4611686018427387904 : Int)) (k := n) (by omega)
 omega
theorem sh32 : G.shared 32 = false := by decide
theorem e32 (n : Nat) (p : Problem) (D : FoundD) (e : Int) (h : SolvedOut p D e) (hl : D.seens.length ≤ 12) (hz : D.empty = false → ∀ s ∈ D.seens,s.n ≠ 0) : callP G (n + 53) 32 [.agg p.cells] = some (.tup [.int .i64 (countF D e).1,.int .i64 (countF D e).2]) := by
 refine callP_of (ext_none _) rfl g32 rfl ?_
 have hn := fun H => call_pureC (G := G) (n := n + 52) (H := H) (caps := []) (ps := [.agg p.cells]) sh69 (e69 n p D e h)
 simp only [Problem.cells,FoundD.cells,List.map_cons,List.map_nil] at hn
 clear h
 by_cases h1 : e = 0
 case neg =>
  have hr : countF D e = (0,e) := by unfold countF; rw [if_pos (.inl h1)]
  rw [hr]
  clear hr hz
  (repeat' first | simp [*,initEnv,c32,Problem.cells] | (apply wpIf_two <;> intro _ h <;> try simp [-Nat.le_zero_eq] at h))
 case pos =>
  subst h1
  cases hD : D.empty with
  | true =>
   have hr : countF D 0 = (0,0) := by unfold countF; rw [if_pos (.inr hD)]
   rw [hr]
   rw [hD] at hn
   clear hr hz
   (repeat' first | simp [*,initEnv,c32,Problem.cells] | (apply wpIf_two <;> intro _ h <;> try simp [-Nat.le_zero_eq] at h))
  | false =>
   obtain ⟨R,hR⟩ : ∃ R,countL (D.seens.map (·.n)) 1 = R := ⟨_,rfl⟩
   have hr : countF D 0 = match (generalizing := false) R with
     | none => (0,3)
     | some n => (n,0) := by unfold countF; rw [if_neg (by simp [hD]),hR]
   rw [hr]
   rw [hD] at hn
   have hzH := Hide.mk (hz hD)
   have hRH := Hide.mk hR
   clear hr hz hR hD
   obtain ⟨s,hs⟩ : ∃ s,s = Sl.of D.seens := ⟨_,rfl⟩
   have hsx : s.xs = D.seens := by rw [hs,Sl.xs_of]
   rw [← hs] at hn
   rw [← hsx] at hzH hRH hl
   clear hs hsx
   (repeat' first | simp [*,initEnv,c32,Problem.cells] | (apply wpIf_two <;> intro _ h <;> try simp [-Nat.le_zero_eq] at h))
   refine wp_loopF [(2,3),(6,6),(8,8),(24,41)] (fun (i : Nat) env H => env 24 = .pure (.int .i64 i) ∧ i ≤ s.xs.length ∧ ∃ m : Int,env 6 = .pure (.int .i64 m) ∧ 1 ≤ m ∧ m ≤ 4611686018427387904 ∧ Hide (countL ((s.xs.map (·.n)).drop i) m = R)) (fun i => s.xs.length - i) 0 ?_ ?_ ?_ ?_
   ·decide
   ·exact ⟨by simp,by omega,1,by simp,by omega,by omega,hRH⟩
   ·simp only [loopFuel]; omega
   clear hRH
   rintro i env H ⟨g24,hi,m,g6,hm1,hm2,hR⟩
   by_cases hlt : i < s.xs.length
   ·have w1 : IntKind.i64.wrap ((i : Int) + 1) = (i + 1 : Nat) := by rw [wrap64 (by omega) (by omega)]; omega
    have hltI : (i : Int) < s.xs.length := by omega
    have hnz := hzH.h _ (List.getElem_mem hlt)
    have hd : (s.xs.map (·.n)).drop i = s.xs[i].n :: (s.xs.map (·.n)).drop (i + 1) := by
     rw [List.drop_eq_getElem_cons (by simpa using hlt)]
     simp
    rw [hd] at hR
    have hR1 := hR.h
    unfold countL at hR1
    obtain ⟨D',hD'⟩ : ∃ D',s.xs[i] = D' := ⟨_,rfl⟩
    rw [hD'] at hR1 hnz
    have hse : seenF s.xs[i] = [.ptr false [partPV D'.part,.int .i64 D'.n,.slice false 4 (chunks 4 D'.part.length (D'.ends.map optPV)),optPV D'.first] 0] := by rw [hD']; rfl
    generalize partPV D'.part = pp at *
    generalize chunks 4 D'.part.length (D'.ends.map optPV) = cc at *
    generalize optPV D'.first = oo at *
    have hc0 : (1 : Int) ≤ D'.n := by omega
    generalize (D'.n : Int) = c at *
    have htd : (4611686018427387904 : Int).tdiv m = 4611686018427387904 / m := Int.tdiv_eq_ediv_of_nonneg (by omega)
    have hq1 : 0 ≤ (4611686018427387904 : Int) / m := Int.ediv_nonneg (by omega) (by omega)
    have hq2 : (4611686018427387904 : Int) / m ≤ 4611686018427387904 := Int.ediv_le_self m (by omega)
    have hwq : IntKind.i64.wrap ((4611686018427387904 : Int) / m) = 4611686018427387904 / m := wrap64 (by omega) (by omega)
    have hm0 : m ≠ 0 := by omega
    by_cases hc : 4611686018427387904 / m < c
    ·rw [if_pos hc] at hR1
     subst hR1
     generalize (4611686018427387904 : Int) / m = qq at *
     clear hR hd hD' hzH hnz
     (repeat' first | simp [*,initEnv] | (apply wpIf_two <;> intro _ h <;> try simp [-Nat.le_zero_eq] at h))
    ·rw [if_neg hc] at hR1
     have hle := quo_le hm1 (by omega) hc
     have hge : 1 ≤ m * c := by
      have := Int.mul_le_mul hm1 hc0 (by omega) (by omega)
      omega
     have hwm : IntKind.i64.wrap (m * c) = m * c := wrap64 (by omega) (by omega)
     have hR1H := Hide.mk hR1
     generalize (4611686018427387904 : Int) / m = qq at *
     clear hR hR1 hd hD' hzH hnz
     (repeat' first | simp [*,initEnv] | (apply wpIf_two <;> intro _ h <;> try simp [-Nat.le_zero_eq] at h))
     exact ⟨i + 1,by omega,by omega,by omega,hR1H⟩
   ·have hiN : i = s.xs.length := by omega
    subst hiN
    have hd : (s.xs.map (·.n)).drop s.xs.length = [] := List.drop_eq_nil_of_le (by simp)
    rw [hd] at hR
    have hR1 := hR.h
    unfold countL at hR1
    subst hR1
    clear hR hd hzH
    (repeat' first | simp [*,initEnv] | (apply wpIf_two <;> intro _ h <;> try simp [-Nat.le_zero_eq] at h))
end Go.Proofs.YtmghcpdpilgplaaGreat.Vm

namespace Go.Proofs.YtmghcpdpilgplaaGreat.Vm
open Go
set_option linter.unusedSimpArgs false
set_option linter.unusedVariables false
set_option maxHeartbeats 4000000
set_option maxRecDepth 4000
def endP (s : SeenD) (j k : Nat) : Pt := match s.ends[j]! with
 | some c => c[k]!
 | none => ⟨0,0⟩
def hullP (s : SeenD) (k : Nat) : Box := ⟨⟨(endP s (4 * k) k).x,(endP s (4 * k + 1) k).x⟩,⟨(endP s (4 * k + 2) k).y,(endP s (4 * k + 3) k).y⟩⟩
def hullL (pt : Nat) : List SeenD → Nat → Box × Int × Int
 | [],_ => (⟨⟨0,0⟩,⟨0,0⟩⟩,-1,-1)
 | s :: ss,i => if pt ∈ s.part then (hullP s (s.part.idxOf pt),(i : Int),(s.part.idxOf pt : Nat)) else hullL pt ss (i + 1)
structure SeenGood (s : SeenD) : Prop where
 few : s.part.length ≤ 12
 len : s.ends.length = 4 * s.part.length
 all : ∀ o ∈ s.ends,∃ c,o = some c ∧ c.length = s.part.length
theorem SeenGood.at {s : SeenD} (h : SeenGood s) {j k : Nat} (hj : j < s.ends.length) (hk : k < s.part.length) : ∃ (c : List Pt) (hc : k < c.length),s.ends[j] = some c ∧ endP s j k = c[k] := by
 obtain ⟨c,h1,h2⟩ := h.all _ (List.getElem_mem hj)
 refine ⟨c,by omega,h1,?_⟩
 unfold endP
 rw [getElem!_pos s.ends j hj,h1]
 simp only
 rw [getElem!_pos c k (by omega)]
end Go.Proofs.YtmghcpdpilgplaaGreat.Vm

namespace Go.Proofs.YtmghcpdpilgplaaGreat.Vm
open Go
set_option linter.unusedSimpArgs false
set_option linter.unusedVariables false
set_option maxHeartbeats 4000000
set_option maxRecDepth 4000
end Go.Proofs.YtmghcpdpilgplaaGreat.Vm

namespace Go.Proofs.YtmghcpdpilgplaaGreat.Vm
open Go
set_option linter.unusedSimpArgs false
set_option linter.unusedVariables false
set_option maxHeartbeats 4000000
set_option maxRecDepth 4000
def wideB (b : Box) : Bool := validB b && (decide (60 < b.x.hi - b.x.lo) || decide (60 < b.y.hi - b.y.lo))
def fewB (p : Problem) : Bool := decide (p.boxes.xs.length ≤ 5) && decide (p.facts.xs.length ≤ 16) && p.boxes.xs.all fun b => !wideB b
def noWide (l : List Box) (i : Nat) : Prop := ∀ j (h : j < l.length),j < i → wideB l[j] = false
theorem sh21 : G.shared 21 = false := by decide
theorem e21 (n : Nat) (p : Problem) : callP G (n + 3) 21 [.agg p.cells] = some (.bool (fewB p)) := by
 refine callP_of (ext_none _) rfl g21 rfl ?_
 obtain ⟨bs,fs⟩ := p
 have hvd : Hide (∀ b : Box,∀ H,doCall (calleeOf G (n + 2)) H (.pure (.func 61 [])) [.pure (.agg b.cells)] = some (.val (.pure (.bool (validB b))))) := ⟨fun b H => call_pureC (caps := []) (ps := [_]) sh61 (e61 n b)⟩
 by_cases h1 : 5 < bs.xs.length
 ·have h1I : (5 : Int) < bs.xs.length := by omega
  have hR : fewB ⟨bs,fs⟩ = false := by
   have : decide (bs.xs.length ≤ 5) = false := by simp; omega
   simp [fewB,this]
  rw [hR]
  (repeat' first | simp [*,initEnv,c21,Problem.cells] | (apply wpIf_two <;> intro _ h <;> try simp [-Nat.le_zero_eq] at h))
 have h1I : ¬ (5 : Int) < bs.xs.length := by omega
 by_cases h2 : 16 < fs.xs.length
 ·have h2I : (16 : Int) < fs.xs.length := by omega
  have hR : fewB ⟨bs,fs⟩ = false := by
   have : decide (fs.xs.length ≤ 16) = false := by simp; omega
   simp [fewB,this]
  rw [hR]
  (repeat' first | simp [*,initEnv,c21,Problem.cells] | (apply wpIf_two <;> intro _ h <;> try simp [-Nat.le_zero_eq] at h))
 have h2I : ¬ (16 : Int) < fs.xs.length := by omega
 have hRe : Hide (fewB ⟨bs,fs⟩ = bs.xs.all fun b => !wideB b) := ⟨by
  have a1 : decide (bs.xs.length ≤ 5) = true := by simp; omega
  have a2 : decide (fs.xs.length ≤ 16) = true := by simp; omega
  simp [fewB,a1,a2]⟩
 generalize hR : fewB ⟨bs,fs⟩ = R
 rw [hR] at hRe
 clear hR
 (repeat' first | simp [*,initEnv,c21,Problem.cells] | (apply wpIf_two <;> intro _ h <;> try simp [-Nat.le_zero_eq] at h))
 refine wp_loopF [(2,5),(16,50)] (fun (i : Nat) env H => env 3 = .pure (.int .i64 i) ∧ i ≤ bs.xs.length ∧ Hide (noWide bs.xs i)) (fun i => bs.xs.length - i) 0 ?_ ?_ ?_ ?_
 ·decide
 ·exact ⟨by simp,by omega,⟨fun _ _ h => by omega⟩⟩
 ·simp only [loopFuel]; omega
 rintro i env H ⟨g3,hi,hn⟩
 by_cases hlt : i < bs.xs.length
 ·have w1 : IntKind.i64.wrap ((i : Int) + 1) = (i + 1 : Nat) := by rw [wrap64 (by omega) (by omega)]; omega
  have hltI : (i : Int) < bs.xs.length := by omega
  have c1 := hvd.h bs.xs[i]
  simp only [Box.cells,Span.cells] at c1
  by_cases hw : wideB bs.xs[i] = true
  ·have hRf : R = false := by
    rw [hRe.h,List.all_eq_false]
    exact ⟨_,List.getElem_mem hlt,by simp [hw]⟩
   subst hRf
   unfold wideB at hw
   rw [Bool.and_eq_true,Bool.or_eq_true,decide_eq_true_eq,decide_eq_true_eq] at hw
   obtain ⟨hv,hw⟩ := hw
   have hvv := valid_iff.1 hv
   have x1 : IntKind.i64.wrap (bs.xs[i].x.hi - bs.xs[i].x.lo) = bs.xs[i].x.hi - bs.xs[i].x.lo := wrap64 (by omega) (by omega)
   have x2 : IntKind.i64.wrap (bs.xs[i].y.hi - bs.xs[i].y.lo) = bs.xs[i].y.hi - bs.xs[i].y.lo := wrap64 (by omega) (by omega)
   rw [hv] at c1
   clear hRe hn hvv hv hvd
   by_cases hx : 60 < bs.xs[i].x.hi - bs.xs[i].x.lo
   ·clear hw
    (repeat' first | simp [*,initEnv,Box.cells,Span.cells] | (apply wpIf_two <;> intro _ h <;> try simp [-Nat.le_zero_eq] at h))
   ·have hy : 60 < bs.xs[i].y.hi - bs.xs[i].y.lo := by omega
    clear hw
    (repeat' first | simp [*,initEnv,Box.cells,Span.cells] | (apply wpIf_two <;> intro _ h <;> try simp [-Nat.le_zero_eq] at h))
  ·have hw' : wideB bs.xs[i] = false := by simpa using hw
   have hn' : Hide (noWide bs.xs (i + 1)) := ⟨fun j h hj => by
    by_cases e : j = i
    ·subst e; exact hw'
    ·exact hn.h j h (by omega)⟩
   clear hw hn
   unfold wideB at hw'
   cases hv : validB bs.xs[i] with
   | false =>
    rw [hv] at c1
    clear hw' hRe hvd hv
    (repeat' first | simp [*,initEnv,Box.cells,Span.cells] | (apply wpIf_two <;> intro _ h <;> try simp [-Nat.le_zero_eq] at h))
    exact ⟨i + 1,by omega,by omega,by omega,hn'⟩
   | true =>
    rw [hv] at hw' c1
    rw [Bool.true_and,Bool.or_eq_false_iff,decide_eq_false_iff_not,decide_eq_false_iff_not] at hw'
    obtain ⟨hx,hy⟩ := hw'
    have hvv := valid_iff.1 hv
    have x1 : IntKind.i64.wrap (bs.xs[i].x.hi - bs.xs[i].x.lo) = bs.xs[i].x.hi - bs.xs[i].x.lo := wrap64 (by omega) (by omega)
    have x2 : IntKind.i64.wrap (bs.xs[i].y.hi - bs.xs[i].y.lo) = bs.xs[i].y.hi - bs.xs[i].y.lo := wrap64 (by omega) (by omega)
    clear hRe hvv hv hvd
    (repeat' first | simp [*,initEnv,Box.cells,Span.cells] | (apply wpIf_two <;> intro _ h <;> try simp [-Nat.le_zero_eq] at h))
    exact ⟨i + 1,by omega,by omega,by omega,hn'⟩
 ·have hiN : i = bs.xs.length := by omega
  subst hiN
  have hRt : R = true := by
   rw [hRe.h,List.all_eq_true]
   intro b hb
   obtain ⟨j,hj,rfl⟩ := List.mem_iff_getElem.1 hb
   rw [hn.h j hj hj]
   rfl
  subst hRt
  clear hn hRe hvd
  (repeat' first | simp [*,initEnv] | (apply wpIf_two <;> intro _ h <;> try simp [-Nat.le_zero_eq] at h))
end Go.Proofs.YtmghcpdpilgplaaGreat.Vm
