/- The courses of a life, as the program yields them. What the functions compute that go through all courses. What Kinds and Courses compute: the program's, and the specification's. What the program tells of a course is what the specification tells: plain Lean. The specification's comparing, and which lives are few. Covering boxes; what a course tells has proper boxes; the least boxes of all courses. The least boxes of all places, as the program finds them. Extents and In, as the program answers. The specification's Tell, run in its caller's memory: its boxes are the caller's own from then on. The least boxes of all places, as the specification finds them. Extents and In, as the specification answers. -/
import Derived.Test.YtnomliioadjdgaaGreatPk16
namespace Go.Proofs.YtnomliioadjdgaaGreat.Vm
open Go
set_option linter.unusedSimpArgs false
set_option linter.unusedVariables false
set_option maxHeartbeats 4000000

/-- The course of a number: its digits to the base 3. -/
def toC : Nat → Nat → List Int
  | 0, _ => []
  | m + 1, j => ((j % 3 : Nat) : Int) :: toC m (j / 3)
def incC : List Int → Option (List Int)
  | [] => none
  | d :: r => if d < 2 then some ((d + 1) :: r) else (incC r).map (0 :: ·)
theorem toC_length : ∀ (m j : Nat), (toC m j).length = m
  | 0, _ => rfl
  | m + 1, j => by simp [toC, toC_length m]
theorem toC_kinds : ∀ (m j : Nat), ∀ k ∈ toC m j, 0 ≤ k ∧ k ≤ 2
  | 0, _ => by simp [toC]
  | m + 1, j => by
    intro k hk
    rcases List.mem_cons.1 hk with rfl | hk
    · omega
    · exact toC_kinds m _ k hk
theorem toC_zero : ∀ (m : Nat), toC m 0 = List.replicate m 0
  | 0 => rfl
  | m + 1 => by simp [toC, toC_zero m, List.replicate_succ]
theorem incC_toC : ∀ (m j : Nat), j < 3 ^ m → incC (toC m j) = if j + 1 < 3 ^ m then some (toC m (j + 1)) else none
  | 0, j, h => by
    have : ¬ (j + 1 < 3 ^ 0) := by simp
    rw [if_neg this]; rfl
  | m + 1, j, h => by
    have hj : j / 3 < 3 ^ m := by rw [Nat.pow_succ] at h; omega
    rw [toC, incC, incC_toC m _ hj]
    by_cases hd : ((j % 3 : Nat) : Int) < 2
    · have h1 : (j + 1) % 3 = j % 3 + 1 := by omega
      have h2 : (j + 1) / 3 = j / 3 := by omega
      have h3 : j + 1 < 3 ^ (m + 1) := by rw [Nat.pow_succ] at h ⊢; omega
      rw [if_pos hd, if_pos h3, toC, h1, h2]
      simp
    · have h1 : (j + 1) % 3 = 0 := by omega
      have h2 : (j + 1) / 3 = j / 3 + 1 := by omega
      rw [if_neg hd]
      by_cases h3 : j + 1 < 3 ^ (m + 1)
      · have h4 : j / 3 + 1 < 3 ^ m := by rw [Nat.pow_succ] at h3; omega
        rw [if_pos h3, if_pos h4, toC, h1, h2]; rfl
      · have h4 : ¬ (j / 3 + 1 < 3 ^ m) := by rw [Nat.pow_succ] at h3 h; omega
        rw [if_neg h3, if_neg h4]; rfl

/-! ### What tell returns names no hot memory -/
theorem cold_sl {α : Type} {f : α → List PV} {sz n : Nat} (hf : ∀ a, (f a).all (PV.coldN n) = true) (l : List α) : PV.coldN (n + 1) ((Sl.of l).pv f sz) = true := by
  cases l with
  | nil => rfl
  | cons a l => simp [Sl.of, Sl.pv, PV.coldN]; exact ⟨by simpa using hf a, fun a _ => by simpa using hf a⟩
theorem cold_tell (o : Option TellR) : (tellPV o).cold = true := by
  cases o with
  | none => rfl
  | some t =>
    have h1 := cold_sl (f := Box.cells) (sz := 4) (n := 9) (fun a => rfl) t.boxes
    have h2 := cold_sl (f := Span.cells) (sz := 2) (n := 9) (fun a => rfl) t.heights
    have h3 := cold_sl (f := strF) (sz := 1) (n := 9) (fun a => rfl) t.letters
    simp [tellPV, PV.cold, PV.coldN, TellR.told] at *
    simp [h1, h2, h3, PV.coldN]
theorem gen_call (n : Nat) (l : Life) (hr : Right l) (H : Heap) (id0 : Nat) (r : LoopR) (hr1 : r.state = .ready) (hr2 : r.pending = .normal) (hr3 : r.params.length = 2) (hid0 : id0 < H.nx) (hg : H.get id0 = .loop r)
    (J : Nat → Nat → Heap → Prop)
    (hstab : ∀ idc j H1 H2, J idc j H1 → H1.nx ≤ H2.nx → (∀ i, i < H1.nx → i ≠ idc → i ≠ id0 → H2.get i = H1.get i) → J idc j H2)
    (h0 : ∀ idc, H.nx ≤ idc → J idc 0 H)
    (hskip : ∀ idc j H1, j < 3 ^ (l.sights.xs.length - 1) → tellS l (toC (l.sights.xs.length - 1) j) = none → J idc j H1 → J idc (j + 1) H1)
    (hbody : ∀ idc j t H1, j < 3 ^ (l.sights.xs.length - 1) → tellS l (toC (l.sights.xs.length - 1) j) = some t → J idc j H1 → H.nx ≤ idc → H1.get idc = .cells true (rowOf intF (toC (l.sights.xs.length - 1) j)) → H1.get id0 = .loop r →
      wp (calleeOf G (n + 7)) r.assign ((r.params.zip [.row idc 1 0 (l.sights.xs.length - 1), .pure (.agg t.told.cells)]).foldl (fun e x => upd e x.1 x.2) r.env) H1 (fun x env2 H2 => x = .normal ∧ H2.get id0 = .loop r ∧
        wp (calleeOf G (n + 7)) r.body env2 (H2.set id0 (.loop { r with state := .busy })) (fun x _ H3 => x = .normal ∧ H3.get id0 = .loop { r with state := .busy } ∧ H3.get idc = .cells true (rowOf intF (toC (l.sights.xs.length - 1) j)) ∧ H1.nx ≤ H3.nx ∧ J idc (j + 1) H3) .mk) .mk) :
    ∃ v H', Vm.call G (n + 9) (.fn 112) [.yield id0, .pure (.ptr false l.cells 0)] H = some (v, H') ∧ H'.get id0 = .loop r ∧ ∃ idc, J idc (3 ^ (l.sights.xs.length - 1)) H' := by
  have h1 := hr.one
  have h9 := hr.nine
  have hw : IntKind.i64.wrap ((l.sights.xs.length : Int) - 1) = ((l.sights.xs.length - 1 : Nat) : Int) := wrap_pred (by omega) (by omega)
  obtain ⟨m, hm0⟩ : ∃ m, m = l.sights.xs.length - 1 := ⟨_, rfl⟩
  rw [← hm0] at hskip hbody hw ⊢
  have hm8 : m ≤ 8 := by omega
  have hmx : m * 8 ≤ maxCells := by unfold maxCells; omega
  have hmy : m ≤ maxCells := by unfold maxCells; omega
  have hm : Hide _ := ⟨hm0⟩
  clear hm0
  have hlr : Hide (r = { r with state := .ready, pending := .normal }) := ⟨by rw [← hr1, ← hr2]⟩
  refine call_of rfl g112 rfl ?_
  (repeat' first | simp [*, initEnv, c112] | (refine wpIf_two (fun _ h => ?_) (fun _ h => ?_) <;> try simp [-Nat.le_zero_eq] at h) | (apply wpE_appendV; (focus (first | assumption | (repeat' first | assumption | with_reducible apply GrowV.setNew | with_reducible apply GrowV.alloc | with_reducible apply GrowV.set | (with_reducible show ¬ Names _ _; simp [*]; done)))); (focus (exact fun _ => rfl)); (focus decide); (focus (intro a; first | rfl | simp)); (focus (simp [maxCells] <;> omega))) | (refine after_intro fun v2 H2 hv2 hnx2 hget2 hnew2 hone2 hcel2 => ?_))
  have hs0 : H.nx ≠ id0 := by omega
  refine wp_loopF [(4, 6), (12, 45)] (fun (j : Nat) env H1 => j < 3 ^ m ∧ H1.get H.nx = .cells true (rowOf intF (toC m j)) ∧ H1.get id0 = .loop r ∧ J H.nx j H1) (fun j => 3 ^ m - j) 0 ?_ ?_ ?_ ?_
  · decide
  · refine ⟨Nat.pos_of_ne_zero (by simp), ?_, ?_, ?_⟩
    · rw [get_alloc_nx, toC_zero, rowOf_zeros]; simp
    · rw [get_alloc_lt hid0]; exact hg
    · exact hstab _ _ _ _ (h0 _ (Nat.le_refl _)) (by simp) (fun i hi _ _ => get_alloc_lt hi)
  · have : 3 ^ m ≤ 3 ^ 8 := Nat.pow_le_pow_right (by decide) hm8
    simp only [loopFuel]
    have : (3 ^ 8 : Nat) = 6561 := rfl
    omega
  rintro j env H1 ⟨hj, hgc, hgl, hJ⟩
  have hidc := nx_of_get hgc
  have hid1 := lt_of_get (H := H1) (i := id0) (by rw [hgl]; simp)
  have hcl := toC_length m j
  have hown : OwnV intF 1 H1 (.row H.nx 1 0 m) (toC m j) := .inr ⟨H.nx, by rw [hcl], hgc⟩
  obtain ⟨s, hs1, hs2⟩ : ∃ s : Sl Int, s.xs = toC m j ∧ FrzK H1 true 12 (.row H.nx 1 0 m) (s.pv intF 1) := by
    rcases hown.frz (k := true) (n := 10) (fun _ => rfl) with h | ⟨h, h'⟩
    · cases hc : toC m j with
      | nil => rw [hc] at h; exact ⟨.nil, rfl, h⟩
      | cons a q => rw [hc] at h; exact ⟨.mk true (a :: q), rfl, h⟩
    · exact ⟨.mk true [], h.symm, h'⟩
  have htell : callP G (n + 8) 60 [.agg l.cells, s.pv intF 1] = some (tellPV (tellS l (toC m j))) := by
    have := e60 (n + 1) l s hr (by have := hm.h; rw [hs1, hcl]; omega) (by rw [hs1]; exact toC_kinds m j)
    rw [hs1] at this
    exact this
  (repeat' first | simp [*, initEnv] | (refine wpIf_two (fun _ h => ?_) (fun _ h => ?_) <;> try simp [-Nat.le_zero_eq] at h) | (apply wpE_appendV; (focus (first | assumption | (repeat' first | assumption | with_reducible apply GrowV.setNew | with_reducible apply GrowV.alloc | with_reducible apply GrowV.set | (with_reducible show ¬ Names _ _; simp [*]; done)))); (focus (exact fun _ => rfl)); (focus decide); (focus (intro a; first | rfl | simp)); (focus (simp [maxCells] <;> omega))) | (refine after_intro fun v2 H2 hv2 hnx2 hget2 hnew2 hone2 hcel2 => ?_))
  refine wpE_own (caps := []) sh60 (.cons (.pure (.agg l.cells)) (.cons hs2 .nil)) htell (cold_tell _) ?_
  have hs1' : ¬ (id0 = H.nx) := by omega
  cases ht : tellS l (toC m j) with
  | none =>
    obtain ⟨H9, h9e⟩ : ∃ H9, H9 = (H1.alloc (.cells true [.pure .nils, .pure .nils, .pure .nils])).set H1.nx (.cells true [.pure .nils, .pure .nils, .pure .nils]) := ⟨_, rfl⟩
    have gc9 : H9.get H.nx = .cells true (rowOf intF (toC m j)) := by rw [h9e, get_set_ne (by omega), get_alloc_lt hidc]; exact hgc
    have gl9 : H9.get id0 = .loop r := by rw [h9e, get_set_ne (by omega), get_alloc_lt hid1]; exact hgl
    have J9 : J H.nx (j + 1) H9 := hskip _ _ _ hj ht (hstab _ _ _ _ hJ (by rw [h9e]; simp) (fun i hi _ _ => by rw [h9e, get_set_ne (by omega), get_alloc_lt hi]))
    clear hskip hbody hJ
    (repeat' first | simp [*, initEnv, tellPV] | (refine wpIf_two (fun _ h => ?_) (fun _ h => ?_) <;> try simp [-Nat.le_zero_eq] at h) | (apply wpE_appendV; (focus (first | assumption | (repeat' first | assumption | with_reducible apply GrowV.setNew | with_reducible apply GrowV.alloc | with_reducible apply GrowV.set | (with_reducible show ¬ Names _ _; simp [*]; done)))); (focus (exact fun _ => rfl)); (focus decide); (focus (intro a; first | rfl | simp)); (focus (simp [maxCells] <;> omega))) | (refine after_intro fun v2 H2 hv2 hnx2 hget2 hnew2 hone2 hcel2 => ?_))
    rw [← h9e]
    clear h9e
    refine wp_loopF [(6, 6), (28, 45)] (fun (k : Nat) env2 H2 => env2 28 = .pure (.int .i64 k) ∧ k ≤ m ∧ H2.get H.nx = .cells true (rowOf intF (List.replicate k 0 ++ (toC m j).drop k)) ∧ H2.get id0 = .loop r ∧ J H.nx (j + 1) H2 ∧
        Hide (incC (toC m j) = (incC ((toC m j).drop k)).map (List.replicate k 0 ++ ·))) (fun k => m - k) 0 ?_ ?_ ?_ ?_
    · decide
    · refine ⟨by simp, by omega, by simpa using gc9, gl9, J9, ⟨by simp⟩⟩
    · simp only [loopFuel]; omega
    rintro k env2 H2 ⟨h28, hk, hgc2, hgl2, hJ2, hinc⟩
    have hfitk : k < 9223372036854775807 := by omega
    have hXl : (List.replicate k 0 ++ (toC m j).drop k).length = m := by rw [List.length_append, List.length_replicate, List.length_drop, hcl]; omega
    have hXk : ∀ (h : k < m) h', (List.replicate k 0 ++ (toC m j).drop k)[k]'h' = (toC m j)[k]'(by omega) := fun h h' => by
      rw [List.getElem_append_right (by simp)]; simp
    have hXs : ∀ (h : k < m) x, (List.replicate k 0 ++ (toC m j).drop k).set k x = List.replicate k 0 ++ x :: (toC m j).drop (k + 1) := fun h x => by
      rw [List.set_append_right _ _ (by simp), List.length_replicate, Nat.sub_self, List.drop_eq_getElem_cons (by omega), List.set_cons_zero]
    have hck : ∀ (h : k < m), 0 ≤ (toC m j)[k]'(by omega) ∧ (toC m j)[k]'(by omega) ≤ 2 := fun h => toC_kinds m j _ (List.getElem_mem _)
    have hwk : ∀ (h : k < m), IntKind.i64.wrap ((toC m j)[k]'(by omega) + 1) = (toC m j)[k]'(by omega) + 1 := fun h => by have := hck h; exact wrap64 (by omega) (by omega)
    have hi1 : ∀ (h : k < m), (toC m j)[k]'(by omega) < 2 → Hide (j + 1 < 3 ^ m ∧ toC m (j + 1) = List.replicate k 0 ++ ((toC m j)[k]'(by omega) + 1) :: (toC m j).drop (k + 1)) := fun h h2 => ⟨by
      have e1 := hinc.h
      rw [List.drop_eq_getElem_cons (by omega), incC, if_pos h2, incC_toC m j hj] at e1
      split at e1
      · rename_i h3; simp at e1; exact ⟨h3, e1⟩
      · simp at e1⟩
    have hi2 : ∀ (h : k < m), ¬ (toC m j)[k]'(by omega) < 2 → Hide (incC (toC m j) = (incC ((toC m j).drop (k + 1))).map (List.replicate (k + 1) 0 ++ ·)) := fun h h2 => ⟨by
      have e1 := hinc.h
      rw [List.drop_eq_getElem_cons (by omega), incC, if_neg h2] at e1
      rw [e1, List.replicate_succ', Option.map_map]
      simp [Function.comp_def]⟩
    have hi3 : k = m → Hide (¬ j + 1 < 3 ^ m) := fun h => ⟨fun h3 => by
      have e1 := hinc.h
      rw [List.drop_eq_nil_of_le (by omega), incC_toC m j hj, if_pos h3] at e1
      simp [incC] at e1⟩
    have hlen9 : Hide _ := ⟨hcl⟩
    obtain ⟨X, hX⟩ : ∃ X, X = List.replicate k 0 ++ (toC m j).drop k := ⟨_, rfl⟩
    have hXk' : Hide (∀ (h : k < m) h', X[k]'h' = (toC m j)[k]'(by omega)) := ⟨by subst hX; exact hXk⟩
    rw [← hX] at hgc2 hXl hXs
    have hX' : Hide _ := ⟨hX⟩
    have hXs' : Hide _ := ⟨hXs⟩
    clear hXk hX hXs hinc
    have hidc2 := nx_of_get hgc2
    have hid2 := lt_of_get (H := H2) (i := id0) (by rw [hgl2]; simp)
    have hJs : ∀ o, Hide (J H.nx (j + 1) (H2.set H.nx o)) := fun o => ⟨hstab _ _ _ _ hJ2 (by simp) (fun i _ hi _ => get_set_ne hi)⟩
    have hlw : ∀ (h : k < m) h', IntKind.i64.wrap (X[k]'h' + 1) = X[k]'h' + 1 := fun h h' => by rw [hXk'.h h]; exact hwk h
    have hs1' : ¬ (id0 = H.nx) := by omega
    have hJ2' : Hide _ := ⟨hJ2⟩
    clear hwk hJ2
    (repeat' first | simp [*, initEnv] | (refine wpIf_two (fun _ h => ?_) (fun _ h => ?_) <;> try simp [-Nat.le_zero_eq] at h) | (apply wpE_appendV; (focus (first | assumption | (repeat' first | assumption | with_reducible apply GrowV.setNew | with_reducible apply GrowV.alloc | with_reducible apply GrowV.set | (with_reducible show ¬ Names _ _; simp [*]; done)))); (focus (exact fun _ => rfl)); (focus decide); (focus (intro a; first | rfl | simp)); (focus (simp [maxCells] <;> omega))) | (refine after_intro fun v2 H2 hv2 hnx2 hget2 hnew2 hone2 hcel2 => ?_))
    · have hkm : k < m := by assumption
      have h2 : X[k]'(by omega) < 2 := by assumption
      rw [hXk'.h hkm] at h2
      obtain ⟨h3, h4⟩ := (hi1 hkm h2).h
      refine ⟨j + 1, by omega, h3, ?_, (hJs _).h⟩
      rw [h4, hXs'.h hkm, hXk'.h hkm]
    · have hkm : k < m := by assumption
      have h2 : ¬ X[k]'(by omega) < 2 := by omega
      rw [hXk'.h hkm] at h2
      refine ⟨k + 1, by omega, by simp, by omega, ?_, (hJs _).h, hi2 hkm h2⟩
      rw [hXs'.h hkm, List.replicate_succ']
      simp
    · have hkm : k = m := by omega
      have h3 := (hi3 hkm).h
      have h4 : 3 ^ m = j + 1 := by omega
      rw [h4]
      exact ⟨_, hJ2'.h⟩
  | some t =>
    (repeat' first | simp [*, initEnv, tellPV] | (refine wpIf_two (fun _ h => ?_) (fun _ h => ?_) <;> try simp [-Nat.le_zero_eq] at h) | (apply wpE_appendV; (focus (first | assumption | (repeat' first | assumption | with_reducible apply GrowV.setNew | with_reducible apply GrowV.alloc | with_reducible apply GrowV.set | (with_reducible show ¬ Names _ _; simp [*]; done)))); (focus (exact fun _ => rfl)); (focus decide); (focus (intro a; first | rfl | simp)); (focus (simp [maxCells] <;> omega))) | (refine after_intro fun v2 H2 hv2 hnx2 hget2 hnew2 hone2 hcel2 => ?_))
    obtain ⟨H9, h9e⟩ : ∃ H9, H9 = (H1.alloc (.cells true [.pure .nils, .pure .nils, .pure .nils])).set H1.nx (.cells true [.pure (Sl.pv Box.cells 4 t.told.boxes), .pure (Sl.pv Span.cells 2 t.told.heights), .pure (Sl.pv strF 1 t.told.letters)]) := ⟨_, rfl⟩
    have gc9 : H9.get H.nx = .cells true (rowOf intF (toC m j)) := by rw [h9e, get_set_ne (by omega), get_alloc_lt hidc]; exact hgc
    have gl9 : H9.get id0 = .loop r := by rw [h9e, get_set_ne (by omega), get_alloc_lt hid1]; exact hgl
    have J9 : J H.nx j H9 := hstab _ _ _ _ hJ (by rw [h9e]; simp) (fun i hi _ _ => by rw [h9e, get_set_ne (by omega), get_alloc_lt hi])
    rw [← h9e]
    refine wpE_yieldA gl9 hr1 (by rw [hr3]; rfl) ?_
    refine (hbody H.nx j t _ hj ht J9 (Nat.le_refl _) gc9 gl9).mono ?_
    rintro x env5 H5 ⟨rfl, gl5, hw5⟩
    refine ⟨rfl, gl5, hw5.mono ?_⟩
    rintro x env6 H6 ⟨rfl, g1, g2, g3, g4⟩
    refine ⟨rfl, g1, ?_⟩
    rw [← hlr.h]
    clear hskip hbody hJ J9 gc9 gl9 h9e hw5
    obtain ⟨H9, h9e⟩ : ∃ H9, H9 = H6.set id0 (.loop r) := ⟨_, rfl⟩
    have hid6 := lt_of_get (H := H6) (i := id0) (by rw [g1]; simp)
    have gc9 : H9.get H.nx = .cells true (rowOf intF (toC m j)) := by rw [h9e, get_set_ne (by omega)]; exact g2
    have gl9 : H9.get id0 = .loop r := by rw [h9e, get_set_own hid6]
    have J9 : J H.nx (j + 1) H9 := hstab _ _ _ _ g4 (by rw [h9e]; simp) (fun i hi _ hi2 => by rw [h9e, get_set_ne hi2])
    rw [← h9e]
    clear h9e g1 g2 g3 g4
    (repeat' first | simp [*, initEnv] | (refine wpIf_two (fun _ h => ?_) (fun _ h => ?_) <;> try simp [-Nat.le_zero_eq] at h) | (apply wpE_appendV; (focus (first | assumption | (repeat' first | assumption | with_reducible apply GrowV.setNew | with_reducible apply GrowV.alloc | with_reducible apply GrowV.set | (with_reducible show ¬ Names _ _; simp [*]; done)))); (focus (exact fun _ => rfl)); (focus decide); (focus (intro a; first | rfl | simp)); (focus (simp [maxCells] <;> omega))) | (refine after_intro fun v2 H2 hv2 hnx2 hget2 hnew2 hone2 hcel2 => ?_))
    refine wp_loopF [(6, 6), (28, 45)] (fun (k : Nat) env2 H2 => env2 28 = .pure (.int .i64 k) ∧ k ≤ m ∧ H2.get H.nx = .cells true (rowOf intF (List.replicate k 0 ++ (toC m j).drop k)) ∧ H2.get id0 = .loop r ∧ J H.nx (j + 1) H2 ∧
        Hide (incC (toC m j) = (incC ((toC m j).drop k)).map (List.replicate k 0 ++ ·))) (fun k => m - k) 0 ?_ ?_ ?_ ?_
    · decide
    · refine ⟨by simp, by omega, by simpa using gc9, gl9, J9, ⟨by simp⟩⟩
    · simp only [loopFuel]; omega
    rintro k env2 H2 ⟨h28, hk, hgc2, hgl2, hJ2, hinc⟩
    have hfitk : k < 9223372036854775807 := by omega
    have hXl : (List.replicate k 0 ++ (toC m j).drop k).length = m := by rw [List.length_append, List.length_replicate, List.length_drop, hcl]; omega
    have hXk : ∀ (h : k < m) h', (List.replicate k 0 ++ (toC m j).drop k)[k]'h' = (toC m j)[k]'(by omega) := fun h h' => by
      rw [List.getElem_append_right (by simp)]; simp
    have hXs : ∀ (h : k < m) x, (List.replicate k 0 ++ (toC m j).drop k).set k x = List.replicate k 0 ++ x :: (toC m j).drop (k + 1) := fun h x => by
      rw [List.set_append_right _ _ (by simp), List.length_replicate, Nat.sub_self, List.drop_eq_getElem_cons (by omega), List.set_cons_zero]
    have hck : ∀ (h : k < m), 0 ≤ (toC m j)[k]'(by omega) ∧ (toC m j)[k]'(by omega) ≤ 2 := fun h => toC_kinds m j _ (List.getElem_mem _)
    have hwk : ∀ (h : k < m), IntKind.i64.wrap ((toC m j)[k]'(by omega) + 1) = (toC m j)[k]'(by omega) + 1 := fun h => by have := hck h; exact wrap64 (by omega) (by omega)
    have hi1 : ∀ (h : k < m), (toC m j)[k]'(by omega) < 2 → Hide (j + 1 < 3 ^ m ∧ toC m (j + 1) = List.replicate k 0 ++ ((toC m j)[k]'(by omega) + 1) :: (toC m j).drop (k + 1)) := fun h h2 => ⟨by
      have e1 := hinc.h
      rw [List.drop_eq_getElem_cons (by omega), incC, if_pos h2, incC_toC m j hj] at e1
      split at e1
      · rename_i h3; simp at e1; exact ⟨h3, e1⟩
      · simp at e1⟩
    have hi2 : ∀ (h : k < m), ¬ (toC m j)[k]'(by omega) < 2 → Hide (incC (toC m j) = (incC ((toC m j).drop (k + 1))).map (List.replicate (k + 1) 0 ++ ·)) := fun h h2 => ⟨by
      have e1 := hinc.h
      rw [List.drop_eq_getElem_cons (by omega), incC, if_neg h2] at e1
      rw [e1, List.replicate_succ', Option.map_map]
      simp [Function.comp_def]⟩
    have hi3 : k = m → Hide (¬ j + 1 < 3 ^ m) := fun h => ⟨fun h3 => by
      have e1 := hinc.h
      rw [List.drop_eq_nil_of_le (by omega), incC_toC m j hj, if_pos h3] at e1
      simp [incC] at e1⟩
    have hlen9 : Hide _ := ⟨hcl⟩
    obtain ⟨X, hX⟩ : ∃ X, X = List.replicate k 0 ++ (toC m j).drop k := ⟨_, rfl⟩
    have hXk' : Hide (∀ (h : k < m) h', X[k]'h' = (toC m j)[k]'(by omega)) := ⟨by subst hX; exact hXk⟩
    rw [← hX] at hgc2 hXl hXs
    have hX' : Hide _ := ⟨hX⟩
    have hXs' : Hide _ := ⟨hXs⟩
    clear hXk hX hXs hinc
    have hidc2 := nx_of_get hgc2
    have hid2 := lt_of_get (H := H2) (i := id0) (by rw [hgl2]; simp)
    have hJs : ∀ o, Hide (J H.nx (j + 1) (H2.set H.nx o)) := fun o => ⟨hstab _ _ _ _ hJ2 (by simp) (fun i _ hi _ => get_set_ne hi)⟩
    have hlw : ∀ (h : k < m) h', IntKind.i64.wrap (X[k]'h' + 1) = X[k]'h' + 1 := fun h h' => by rw [hXk'.h h]; exact hwk h
    have hs1' : ¬ (id0 = H.nx) := by omega
    have hJ2' : Hide _ := ⟨hJ2⟩
    clear hwk hJ2
    (repeat' first | simp [*, initEnv] | (refine wpIf_two (fun _ h => ?_) (fun _ h => ?_) <;> try simp [-Nat.le_zero_eq] at h) | (apply wpE_appendV; (focus (first | assumption | (repeat' first | assumption | with_reducible apply GrowV.setNew | with_reducible apply GrowV.alloc | with_reducible apply GrowV.set | (with_reducible show ¬ Names _ _; simp [*]; done)))); (focus (exact fun _ => rfl)); (focus decide); (focus (intro a; first | rfl | simp)); (focus (simp [maxCells] <;> omega))) | (refine after_intro fun v2 H2 hv2 hnx2 hget2 hnew2 hone2 hcel2 => ?_))
    · have hkm : k < m := by assumption
      have h2 : X[k]'(by omega) < 2 := by assumption
      rw [hXk'.h hkm] at h2
      obtain ⟨h3, h4⟩ := (hi1 hkm h2).h
      refine ⟨j + 1, by omega, h3, ?_, (hJs _).h⟩
      rw [h4, hXs'.h hkm, hXk'.h hkm]
    · have hkm : k < m := by assumption
      have h2 : ¬ X[k]'(by omega) < 2 := by omega
      rw [hXk'.h hkm] at h2
      refine ⟨k + 1, by omega, by simp, by omega, ?_, (hJs _).h, hi2 hkm h2⟩
      rw [hXs'.h hkm, List.replicate_succ']
      simp
    · have hkm : k = m := by omega
      have h3 := (hi3 hkm).h
      have h4 : 3 ^ m = j + 1 := by omega
      rw [h4]
      exact ⟨_, hJ2'.h⟩

/-- A loop over all courses of a right life. -/
theorem wp_coursesA {n : Nat} {l : Life} (hr : Right l) {env : Env} {H : Heap} {f : Opnd} {params : List Nat} {assign body : VCode} {Q : VExit → Env → Heap → Prop} {u} (hf : f.eval env = .pure (.func 112 [.ptr false l.cells 0])) (hp : params.length = 2)
    (J : Nat → Nat → Heap → Prop)
    (hstab : ∀ idc j H1 H2, J idc j H1 → H1.nx ≤ H2.nx → (∀ i, i < H1.nx → i ≠ idc → i ≠ H.nx → H2.get i = H1.get i) → J idc j H2)
    (h0 : ∀ idc, H.nx < idc → J idc 0 H)
    (hskip : ∀ idc j H1, j < 3 ^ (l.sights.xs.length - 1) → tellS l (toC (l.sights.xs.length - 1) j) = none → J idc j H1 → J idc (j + 1) H1)
    (hbody : ∀ idc j t H1, j < 3 ^ (l.sights.xs.length - 1) → tellS l (toC (l.sights.xs.length - 1) j) = some t → H.nx < idc → idc < H1.nx →
      wp (calleeOf G (n + 7)) assign ((params.zip [.row idc 1 0 (l.sights.xs.length - 1), .pure (.agg t.told.cells)]).foldl (fun e x => upd e x.1 x.2) env) H1 (fun x env2 H2 => x = .normal ∧ H1.nx ≤ H2.nx ∧ (∀ i, i < H1.nx → H2.get i = H1.get i) ∧
        ∀ Hb, Hb.nx = H2.nx → (∀ i, i ≠ H.nx → Hb.get i = H2.get i) → J idc j Hb → Hb.get idc = .cells true (rowOf intF (toC (l.sights.xs.length - 1) j)) → H.nx < Hb.nx →
          wp (calleeOf G (n + 7)) body env2 Hb (fun x _ H3 => x = .normal ∧ H3.get H.nx = Hb.get H.nx ∧ H3.get idc = .cells true (rowOf intF (toC (l.sights.xs.length - 1) j)) ∧ Hb.nx ≤ H3.nx ∧ J idc (j + 1) H3) .mk) .mk)
    (hend : ∀ idc H', J idc (3 ^ (l.sights.xs.length - 1)) H' → Q .normal env H') :
    wp (calleeOf G (n + 9)) (.rangeFunc f params assign body) env H Q u := by
  refine wp_rangeFunc hf ?_
  obtain ⟨v, H2, h1, h2, idc, h3⟩ := gen_call n l hr (H.alloc (.loop { env, params, assign, body, state := .ready, pending := .normal })) H.nx { env, params, assign, body, state := .ready, pending := .normal } rfl rfl hp (by simp) (get_alloc_nx _) J hstab
    (fun idc hi => hstab idc 0 H _ (h0 idc (by simp at hi; omega)) (by simp) (fun i hi _ _ => get_alloc_lt hi)) hskip
    (fun idc j t H1 hj ht hJ hi hgc hgl => by
      have hlt := nx_of_get hgc
      have hi' : H.nx < idc := by simp at hi; omega
      refine (hbody idc j t H1 hj ht hi' hlt).mono ?_
      rintro x env2 H2 ⟨rfl, hx2, hs2, hw⟩
      have hid1 := lt_of_get (H := H1) (i := H.nx) (by rw [hgl]; simp)
      have hgl2 : H2.get H.nx = _ := (hs2 _ hid1).trans hgl
      refine ⟨rfl, hgl2, ?_⟩
      have hid := lt_of_get (H := H2) (i := H.nx) (by rw [hgl2]; simp)
      refine (hw (H2.set H.nx (.loop { env, params, assign, body, state := .busy, pending := .normal })) rfl (fun i hi => get_set_ne hi) (hstab _ _ _ _ hJ (by simpa using hx2) (fun i hi _ hi2 => by rw [get_set_ne hi2]; exact hs2 i hi)) (by rw [get_set_ne (by omega), hs2 _ hlt]; exact hgc) (by simpa using hid)).mono ?_
      rintro x env3 H3 ⟨rfl, g1, g2, g3, g4⟩
      exact ⟨rfl, by rw [g1, get_set_own hid], g2, by simp at g3; omega, g4⟩)
  refine ⟨v, H2, h1, h2, hend idc _ (hstab _ _ _ _ h3 (by simp) (fun i _ _ hi => get_set_ne hi))⟩
theorem wp_courses {n : Nat} {l : Life} (hr : Right l) {env : Env} {H : Heap} {f : Opnd} {params : List Nat} {assign body : VCode} {Q : VExit → Env → Heap → Prop} {u} (hf : f.eval env = .pure (.func 112 [.ptr false l.cells 0])) (hp : params.length = 2)
    (J : Nat → Nat → Heap → Prop)
    (hstab : ∀ idc j H1 H2, J idc j H1 → H1.nx ≤ H2.nx → (∀ i, i < H1.nx → i ≠ idc → i ≠ H.nx → H2.get i = H1.get i) → J idc j H2)
    (h0 : ∀ idc, H.nx < idc → J idc 0 H)
    (hskip : ∀ idc j H1, j < 3 ^ (l.sights.xs.length - 1) → tellS l (toC (l.sights.xs.length - 1) j) = none → J idc j H1 → J idc (j + 1) H1)
    (hbody : ∀ idc j t H1, j < 3 ^ (l.sights.xs.length - 1) → tellS l (toC (l.sights.xs.length - 1) j) = some t → H.nx < idc → idc < H1.nx →
      wp (calleeOf G (n + 7)) assign ((params.zip [.row idc 1 0 (l.sights.xs.length - 1), .pure (.agg t.told.cells)]).foldl (fun e x => upd e x.1 x.2) env) H1 (fun x env2 H2 => x = .normal ∧ H2 = H1 ∧
        ∀ Hb, J idc j Hb → Hb.get idc = .cells true (rowOf intF (toC (l.sights.xs.length - 1) j)) → H.nx < Hb.nx →
          wp (calleeOf G (n + 7)) body env2 Hb (fun x _ H3 => x = .normal ∧ H3.get H.nx = Hb.get H.nx ∧ H3.get idc = .cells true (rowOf intF (toC (l.sights.xs.length - 1) j)) ∧ Hb.nx ≤ H3.nx ∧ J idc (j + 1) H3) .mk) .mk)
    (hend : ∀ idc H', J idc (3 ^ (l.sights.xs.length - 1)) H' → Q .normal env H') :
    wp (calleeOf G (n + 9)) (.rangeFunc f params assign body) env H Q u :=
  wp_coursesA hr hf hp J hstab h0 hskip (fun idc j t H1 hj ht hi hlt => (hbody idc j t H1 hj ht hi hlt).mono fun x env2 H2 h => by
    obtain ⟨h1, rfl, h3⟩ := h
    exact ⟨h1, Nat.le_refl _, fun _ _ => rfl, fun Hb _ _ hJ hg hn => h3 Hb hJ hg hn⟩) hend
end Go.Proofs.YtnomliioadjdgaaGreat.Vm

namespace Go.Proofs.YtnomliioadjdgaaGreat.Vm
open Go
set_option linter.unusedSimpArgs false
set_option linter.unusedVariables false
set_option maxHeartbeats 4000000

def chg (c : List Int) : Nat := c.countP (fun k => !decide (k = 0))
theorem chg_succ {c : List Int} {i : Nat} (h : i < c.length) : chg (c.take (i + 1)) = chg (c.take i) + if c[i] = 0 then 0 else 1 := by
  rw [← take_succ' h, chg, List.countP_append]
  by_cases h0 : c[i] = 0 <;> simp [chg, h0]
theorem chg_le (c : List Int) : chg c ≤ c.length := List.countP_le_length
theorem sh76 : G.shared 76 = false := by decide
theorem e76 (n : Nat) (c : Sl Int) (hc : c.xs.length < 1000) : callP G (n + 1) 76 [c.pv intF 1] = some (.int .i64 (chg c.xs)) := by
  refine callP_of (ext_none _) rfl g76 rfl ?_
  (repeat' first | simp [*, initEnv, c76] | (refine wpIf_two (fun _ h => ?_) (fun _ h => ?_) <;> try simp [-Nat.le_zero_eq] at h) | (apply wpE_appendV; (focus (first | assumption | (repeat' first | assumption | with_reducible apply GrowV.setNew | with_reducible apply GrowV.alloc | with_reducible apply GrowV.set | (with_reducible show ¬ Names _ _; simp [*]; done)))); (focus (exact fun _ => rfl)); (focus decide); (focus (intro a; first | rfl | simp)); (focus (simp [maxCells] <;> omega))) | (refine after_intro fun v2 H2 hv2 hnx2 hget2 hnew2 hone2 hcel2 => ?_))
  refine wp_loopF [(3, 3), (5, 5), (8, 16)] (fun (i : Nat) env H => env 8 = .pure (.int .i64 i) ∧ env 3 = .pure (.int .i64 (chg (c.xs.take i))) ∧ i ≤ c.xs.length) (fun i => c.xs.length - i) 0 ?_ ?_ ?_ ?_
  · decide
  · simp [chg]
  · simp only [loopFuel]; omega
  rintro i env H ⟨h8, h3, hi⟩
  have hfit : i < 9223372036854775807 := by omega
  have hcl := chg_le (c.xs.take i)
  rw [List.length_take] at hcl
  have hfit2 : chg (c.xs.take i) < 9223372036854775807 := by omega
  have hs : ∀ h : i < c.xs.length, Hide (chg (c.xs.take (i + 1)) = chg (c.xs.take i) + if c.xs[i] = 0 then 0 else 1) := fun h => ⟨chg_succ h⟩
  (repeat' first | simp [*, initEnv] | (refine wpIf_two (fun _ h => ?_) (fun _ h => ?_) <;> try simp [-Nat.le_zero_eq] at h) | (apply wpE_appendV; (focus (first | assumption | (repeat' first | assumption | with_reducible apply GrowV.setNew | with_reducible apply GrowV.alloc | with_reducible apply GrowV.set | (with_reducible show ¬ Names _ _; simp [*]; done)))); (focus (exact fun _ => rfl)); (focus decide); (focus (intro a; first | rfl | simp)); (focus (simp [maxCells] <;> omega))) | (refine after_intro fun v2 H2 hv2 hnx2 hget2 hnew2 hone2 hcel2 => ?_))
  · exact ⟨i + 1, by omega, by simp, by rw [(hs (by assumption)).h, if_pos (by assumption)]; simp, by omega⟩
  · exact ⟨i + 1, by omega, by simp, by rw [(hs (by assumption)).h, if_neg (by assumption)]; simp, by omega⟩
  · rw [List.take_of_length_le (by omega)]
@[simp] theorem d76 (n : Nat) (H : Heap) (c : Sl Int) (hc : c.xs.length < 1000) : doCall (calleeOf G (n + 1)) H (.pure (.func 76 [])) [.pure (c.pv intF 1)] = some (.val (.pure (.int .i64 (chg c.xs)))) :=
  call_pureC (ps := [_]) (caps := []) sh76 (e76 n c hc)
theorem sh26 : G.shared 26 = false := by decide
theorem e26 (n : Nat) (c : Sl Int) (hc : c.xs.length < 1000) : callP G (n + 1) 26 [c.pv intF 1] = some (.int .i64 (chg c.xs)) := by
  refine callP_of (ext_none _) rfl g26 rfl ?_
  (repeat' first | simp [*, initEnv, c26] | (refine wpIf_two (fun _ h => ?_) (fun _ h => ?_) <;> try simp [-Nat.le_zero_eq] at h) | (apply wpE_appendV; (focus (first | assumption | (repeat' first | assumption | with_reducible apply GrowV.setNew | with_reducible apply GrowV.alloc | with_reducible apply GrowV.set | (with_reducible show ¬ Names _ _; simp [*]; done)))); (focus (exact fun _ => rfl)); (focus decide); (focus (intro a; first | rfl | simp)); (focus (simp [maxCells] <;> omega))) | (refine after_intro fun v2 H2 hv2 hnx2 hget2 hnew2 hone2 hcel2 => ?_))
  refine wp_loopF [(3, 17)] (fun (i : Nat) env H => env 4 = .pure (.int .i64 i) ∧ env 3 = .pure (.int .i64 (chg (c.xs.take i))) ∧ i ≤ c.xs.length) (fun i => c.xs.length - i) 0 ?_ ?_ ?_ ?_
  · decide
  · simp [chg]
  · simp only [loopFuel]; omega
  rintro i env H ⟨h8, h3, hi⟩
  have hfit : i < 9223372036854775807 := by omega
  have hcl := chg_le (c.xs.take i)
  rw [List.length_take] at hcl
  have hfit2 : chg (c.xs.take i) < 9223372036854775807 := by omega
  have hs : ∀ h : i < c.xs.length, Hide (chg (c.xs.take (i + 1)) = chg (c.xs.take i) + if c.xs[i] = 0 then 0 else 1) := fun h => ⟨chg_succ h⟩
  (repeat' first | simp [*, initEnv] | (refine wpIf_two (fun _ h => ?_) (fun _ h => ?_) <;> try simp [-Nat.le_zero_eq] at h) | (apply wpE_appendV; (focus (first | assumption | (repeat' first | assumption | with_reducible apply GrowV.setNew | with_reducible apply GrowV.alloc | with_reducible apply GrowV.set | (with_reducible show ¬ Names _ _; simp [*]; done)))); (focus (exact fun _ => rfl)); (focus decide); (focus (intro a; first | rfl | simp)); (focus (simp [maxCells] <;> omega))) | (refine after_intro fun v2 H2 hv2 hnx2 hget2 hnew2 hone2 hcel2 => ?_))
  · exact ⟨i + 1, by omega, by simp, by rw [(hs (by assumption)).h, if_pos (by assumption)]; simp, by omega⟩
  · exact ⟨i + 1, by omega, by simp, by rw [(hs (by assumption)).h, if_neg (by assumption)]; simp, by omega⟩
  · rw [List.take_of_length_le (by omega)]
@[simp] theorem d26 (n : Nat) (H : Heap) (c : Sl Int) (hc : c.xs.length < 1000) : doCall (calleeOf G (n + 1)) H (.pure (.func 26 [])) [.pure (c.pv intF 1)] = some (.val (.pure (.int .i64 (chg c.xs)))) :=
  call_pureC (ps := [_]) (caps := []) sh26 (e26 n c hc)
theorem sh92 : G.shared 92 = false := by decide
theorem e92 (n : Nat) (l : Life) (N : Nat) (hN : N = 3 ^ (l.sights.xs.length - 1)) (h1 : 1 ≤ l.sights.xs.length) (h9 : l.sights.xs.length ≤ 9) : callP G (n + 1) 92 [.agg l.cells] = some (.int .i64 (N : Nat)) := by
  refine callP_of (ext_none _) rfl g92 rfl ?_
  have hP : Hide _ := ⟨hN⟩
  clear hN
  (repeat' first | simp [*, initEnv, c92] | (refine wpIf_two (fun _ h => ?_) (fun _ h => ?_) <;> try simp [-Nat.le_zero_eq] at h) | (apply wpE_appendV; (focus (first | assumption | (repeat' first | assumption | with_reducible apply GrowV.setNew | with_reducible apply GrowV.alloc | with_reducible apply GrowV.set | (with_reducible show ¬ Names _ _; simp [*]; done)))); (focus (exact fun _ => rfl)); (focus decide); (focus (intro a; first | rfl | simp)); (focus (simp [maxCells] <;> omega))) | (refine after_intro fun v2 H2 hv2 hnx2 hget2 hnew2 hone2 hcel2 => ?_))
  refine wp_loopF [(3, 13)] (fun (s : Nat × Nat) env H => env 4 = .pure (.int .i64 s.1) ∧ env 3 = .pure (.int .i64 s.2) ∧ 1 ≤ s.1 ∧ s.1 ≤ l.sights.xs.length ∧ s.2 ≤ 6561 ∧ Hide (s.2 = 3 ^ (s.1 - 1))) (fun s => l.sights.xs.length - s.1) (1, 1) ?_ ?_ ?_ ?_
  · decide
  · simp [h1]
  · simp only [loopFuel]; omega
  rintro ⟨i, p⟩ env H ⟨h4, h3, hi1, hi, hp, hn⟩
  simp only at h4 h3 hi1 hi hp hn
  have hfit : i < 9223372036854775807 := by omega
  have hw : IntKind.i64.wrap (3 * (p : Int)) = ((3 * p : Nat) : Int) := by rw [wrap64 (by omega) (by omega)]; simp
  have hstep : Hide (3 * p = 3 ^ (i + 1 - 1)) := ⟨by
    have : i + 1 - 1 = (i - 1) + 1 := by omega
    rw [hn.h, this, Nat.pow_succ, Nat.mul_comm]⟩
  (repeat' first | simp [*, initEnv] | (refine wpIf_two (fun _ h => ?_) (fun _ h => ?_) <;> try simp [-Nat.le_zero_eq] at h) | (apply wpE_appendV; (focus (first | assumption | (repeat' first | assumption | with_reducible apply GrowV.setNew | with_reducible apply GrowV.alloc | with_reducible apply GrowV.set | (with_reducible show ¬ Names _ _; simp [*]; done)))); (focus (exact fun _ => rfl)); (focus decide); (focus (intro a; first | rfl | simp)); (focus (simp [maxCells] <;> omega))) | (refine after_intro fun v2 H2 hv2 hnx2 hget2 hnew2 hone2 hcel2 => ?_))
  · refine ⟨i + 1, by omega, by simp, 3 * p, by simp, by omega, by omega, ?_, hstep⟩
    rw [hstep.h]
    have h8 : i + 1 - 1 ≤ 8 := by omega
    have : 3 ^ (i + 1 - 1) ≤ 3 ^ 8 := Nat.pow_le_pow_right (by decide) h8
    exact this
  · have : i = l.sights.xs.length := by omega
    rw [hn.h, hP.h, this]
@[simp] theorem d92 (n : Nat) (H : Heap) (l_habit_step : Int) (l_habit_place : Int) (l_habit_sink : Int) (l_sights : Sl Sight) (l_notes : Sl Note) (N : Nat) (hN : (fun (l : Life) => N = 3 ^ (l.sights.xs.length - 1)) (⟨⟨l_habit_step, l_habit_place, l_habit_sink⟩, l_sights, l_notes⟩ : Life)) (h1 : (fun (l : Life) => 1 ≤ l.sights.xs.length) (⟨⟨l_habit_step, l_habit_place, l_habit_sink⟩, l_sights, l_notes⟩ : Life)) (h9 : (fun (l : Life) => l.sights.xs.length ≤ 9) (⟨⟨l_habit_step, l_habit_place, l_habit_sink⟩, l_sights, l_notes⟩ : Life)) : doCall (calleeOf G (n + 1)) H (.pure (.func 92 [])) [.pure (.agg [.int .i64 l_habit_step, .int .i64 l_habit_place, .int .i64 l_habit_sink, (l_sights).pv Sight.cells 9, (l_notes).pv Note.cells 4])] = some (.val (.pure (.int .i64 (N : Nat)))) :=
  call_pureC (ps := [_]) (caps := []) sh92 (e92 n (⟨⟨l_habit_step, l_habit_place, l_habit_sink⟩, l_sights, l_notes⟩ : Life) N hN h1 h9)
theorem sh93 : G.shared 93 = false := by decide
theorem e93 (n : Nat) (l : Life) (j : Nat) (h1 : 1 ≤ l.sights.xs.length) (h9 : l.sights.xs.length ≤ 9) (hj : j < 100000) : callP G (n + 1) 93 [.agg l.cells, .int .i64 (j : Nat)] = some ((Sl.of (toC (l.sights.xs.length - 1) j)).pv intF 1) := by
  refine callP_of (ext_none _) rfl g93 rfl ?_
  obtain ⟨c0, hc0⟩ : ∃ c, c = toC (l.sights.xs.length - 1) j := ⟨_, rfl⟩
  rw [← hc0]
  have hcc : Hide _ := ⟨hc0⟩
  clear hc0
  (repeat' first | simp [*, initEnv, c93] | (refine wpIf_two (fun _ h => ?_) (fun _ h => ?_) <;> try simp [-Nat.le_zero_eq] at h) | (apply wpE_appendV; (focus (first | assumption | (repeat' first | assumption | with_reducible apply GrowV.setNew | with_reducible apply GrowV.alloc | with_reducible apply GrowV.set | (with_reducible show ¬ Names _ _; simp [*]; done)))); (focus (exact fun _ => rfl)); (focus decide); (focus (intro a; first | rfl | simp)); (focus (simp [maxCells] <;> omega))) | (refine after_intro fun v2 H2 hv2 hnx2 hget2 hnew2 hone2 hcel2 => ?_))
  refine wp_loopF [(1, 1), (5, 20)] (fun (s : Nat × Nat × List Int) env H => env 6 = .pure (.int .i64 s.1) ∧ env 1 = .pure (.int .i64 s.2.1) ∧ GrowV intF 1 H (env 5) s.2.2 ∧ 1 ≤ s.1 ∧ s.1 ≤ l.sights.xs.length ∧ s.2.1 < 100000 ∧ s.2.2.length < 10 ∧ Hide (s.2.2.length = s.1 - 1 ∧ c0 = s.2.2 ++ toC (l.sights.xs.length - s.1) s.2.1)) (fun s => l.sights.xs.length - s.1) (1, j, []) ?_ ?_ ?_ ?_
  · decide
  · refine ⟨by simp, by simp [initEnv], by simpa using GrowV.nil, by omega, by omega, hj, by simp, ⟨rfl, by rw [hcc.h]; rfl⟩⟩
  · simp only [loopFuel]; omega
  rintro ⟨i, cur, out⟩ env H ⟨h6, h1', hg, hi1, hi, hcur, hol, hn⟩
  simp only at h6 h1' hg hi1 hi hcur hol hn
  have hfit : i < 9223372036854775807 := by omega
  have ht : ((cur : Int)).tmod 3 = ((cur % 3 : Nat) : Int) := rfl
  have hq : IntKind.i64.wrap ((cur : Int).tdiv 3) = ((cur / 3 : Nat) : Int) := by
    have : (cur : Int).tdiv 3 = ((cur / 3 : Nat) : Int) := rfl
    rw [this, wrap64 (by omega) (by omega)]
  obtain ⟨q, hq0⟩ : ∃ q, q = cur / 3 := ⟨_, rfl⟩
  obtain ⟨d, hd0⟩ : ∃ d, d = cur % 3 := ⟨_, rfl⟩
  rw [← hq0] at hq
  rw [← hd0] at ht
  have hq2 : IntKind.i64.wrap ((cur : Int) / 3) = q := by rw [wrap64 (by omega) (by omega), hq0]; omega
  have hd2 : (cur : Int) % 3 = d := by omega
  have hq1 : Hide _ := ⟨hq0⟩
  have hd1 : Hide _ := ⟨hd0⟩
  clear hq0 hd0
  obtain ⟨ids, hids⟩ := hg.res (n := 10) (fun _ => rfl)
  (repeat' first | simp [*, initEnv] | (refine wpIf_two (fun _ h => ?_) (fun _ h => ?_) <;> try simp [-Nat.le_zero_eq] at h) | (apply wpE_appendV; (focus (first | assumption | (repeat' first | assumption | with_reducible apply GrowV.setNew | with_reducible apply GrowV.alloc | with_reducible apply GrowV.set | (with_reducible show ¬ Names _ _; simp [*]; done)))); (focus (exact fun _ => rfl)); (focus decide); (focus (intro a; first | rfl | simp)); (focus (simp [maxCells] <;> omega))) | (refine after_intro fun v2 H2 hv2 hnx2 hget2 hnew2 hone2 hcel2 => ?_))
  · refine ⟨i + 1, by omega, by simp, q, by first | rfl | exact hq2, out ++ [(d : Int)], hv2, by omega, by omega, by have := hq1.h; omega, ?_, ⟨?_, ?_⟩⟩
    · have := hn.h.1; simp; omega
    · have := hn.h.1; simp; omega
    · have e : l.sights.xs.length - i = (l.sights.xs.length - (i + 1)) + 1 := by omega
      rw [hn.h.2, e, toC, ← hq1.h, ← hd1.h]
      simp
  · have e : l.sights.xs.length - i = 0 := by omega
    have := hn.h.2
    rw [e, toC, List.append_nil] at this
    rw [this]
    exact ⟨ids, hids⟩
@[simp] theorem d93 (n : Nat) (H : Heap) (l_habit_step : Int) (l_habit_place : Int) (l_habit_sink : Int) (l_sights : Sl Sight) (l_notes : Sl Note) (j : Nat) (h1 : (fun (l : Life) => 1 ≤ l.sights.xs.length) (⟨⟨l_habit_step, l_habit_place, l_habit_sink⟩, l_sights, l_notes⟩ : Life)) (h9 : (fun (l : Life) => l.sights.xs.length ≤ 9) (⟨⟨l_habit_step, l_habit_place, l_habit_sink⟩, l_sights, l_notes⟩ : Life)) (hj : j < 100000) : doCall (calleeOf G (n + 1)) H (.pure (.func 93 [])) [.pure (.agg [.int .i64 l_habit_step, .int .i64 l_habit_place, .int .i64 l_habit_sink, (l_sights).pv Sight.cells 9, (l_notes).pv Note.cells 4]), .pure (.int .i64 (j : Nat))] = some (.val (.pure ((fun (l : Life) => (Sl.of (toC (l.sights.xs.length - 1) j)).pv intF 1) (⟨⟨l_habit_step, l_habit_place, l_habit_sink⟩, l_sights, l_notes⟩ : Life)))) :=
  call_pureC (ps := [_, _]) (caps := []) sh93 (e93 n (⟨⟨l_habit_step, l_habit_place, l_habit_sink⟩, l_sights, l_notes⟩ : Life) j h1 h9 hj)
end Go.Proofs.YtnomliioadjdgaaGreat.Vm

namespace Go.Proofs.YtnomliioadjdgaaGreat.Vm
open Go
set_option linter.unusedSimpArgs false
set_option linter.unusedVariables false
set_option maxHeartbeats 4000000

/-! ### How many courses there are, by their changes -/
def addAt (out : List Int) (i : Nat) : List Int := out.set i (out[i]! + 1)
def byTo (p : List Int → Bool) (m : Nat) : Nat → List Int
  | 0 => List.replicate (m + 1) 0
  | j + 1 => if p (toC m j) = true then addAt (byTo p m j) (chg (toC m j)) else byTo p m j
theorem byTo_length (p : List Int → Bool) (m : Nat) : ∀ j, (byTo p m j).length = m + 1
  | 0 => by simp [byTo]
  | j + 1 => by
    rw [byTo]
    split
    · rw [addAt, List.length_set, byTo_length p m j]
    · exact byTo_length p m j
theorem byTo_le (p : List Int → Bool) (m : Nat) : ∀ j, ∀ a ∈ byTo p m j, 0 ≤ a ∧ a ≤ j
  | 0 => by
    intro a ha
    simp [byTo] at ha
    omega
  | j + 1 => by
    have ih := byTo_le p m j
    intro a ha
    rw [byTo] at ha
    split at ha
    · rcases List.mem_or_eq_of_mem_set ha with ha | rfl
      · have := ih a ha; omega
      · have hl := byTo_length p m j
        have hc := chg_le (toC m j)
        rw [toC_length] at hc
        have := ih ((byTo p m j)[chg (toC m j)]!) (by rw [getElem!_pos _ _ (by omega)]; exact List.getElem_mem _)
        omega
    · have := ih a ha; omega
theorem pow_le_of {m : Nat} (h : m ≤ 8) : 3 ^ m ≤ 6561 := by
  have : 3 ^ m ≤ 3 ^ 8 := Nat.pow_le_pow_right (by decide) h
  exact this
def fitP (l : Life) (c : List Int) : Bool := (tellS l c).isSome

theorem sh62 : G.shared 62 = false := by decide
theorem e62 (n : Nat) (l : Life) : callP G (n + 1) 62 [.agg l.cells] = some (.func 112 [.ptr false l.cells 0]) := by
  refine callP_of (ext_none _) rfl g62 rfl ?_
  (repeat' first | simp [*, initEnv, c62] | (refine wpIf_two (fun _ h => ?_) (fun _ h => ?_) <;> try simp [-Nat.le_zero_eq] at h) | (apply wpE_appendV; (focus (first | assumption | (repeat' first | assumption | with_reducible apply GrowV.setNew | with_reducible apply GrowV.alloc | with_reducible apply GrowV.set | (with_reducible show ¬ Names _ _; simp [*]; done)))); (focus (exact fun _ => rfl)); (focus decide); (focus (intro a; first | rfl | simp)); (focus (simp [maxCells] <;> omega))) | (refine after_intro fun v2 H2 hv2 hnx2 hget2 hnew2 hone2 hcel2 => ?_))
@[simp] theorem d62 (n : Nat) (H : Heap) (l_habit_step : Int) (l_habit_place : Int) (l_habit_sink : Int) (l_sights : Sl Sight) (l_notes : Sl Note) : doCall (calleeOf G (n + 1)) H (.pure (.func 62 [])) [.pure (.agg [.int .i64 l_habit_step, .int .i64 l_habit_place, .int .i64 l_habit_sink, (l_sights).pv Sight.cells 9, (l_notes).pv Note.cells 4])] = some (.val (.pure ((fun (l : Life) => .func 112 [.ptr false l.cells 0]) (⟨⟨l_habit_step, l_habit_place, l_habit_sink⟩, l_sights, l_notes⟩ : Life)))) :=
  call_pureC (ps := [_]) (caps := []) sh62 (e62 n (⟨⟨l_habit_step, l_habit_place, l_habit_sink⟩, l_sights, l_notes⟩ : Life))
theorem sh34 : G.shared 34 = false := by decide
theorem e34 (n : Nat) (l : Life) (hs : shortS l) : callP G (n + 10) 34 [.agg l.cells] = some ((if checkS l = 0 then .tup [(Sl.mk false (byTo (fitP l) (l.sights.xs.length - 1) (3 ^ (l.sights.xs.length - 1)))).pv intF 1, .int .i64 0] else .tup [.nils, .int .i64 (checkS l)])) := by
  refine callP_of (ext_none _) rfl g34 rfl ?_
  have hcc : ∀ H, doCall (calleeOf G (n + 9)) H (.pure (.func 41 [])) [.pure (.agg l.cells)] = some (.val (.pure (.int .i64 (checkS l)))) := fun H => d41 (n + 4) H l.habit.step l.habit.place l.habit.sink l.sights l.notes hs
  simp only [Life.cells] at hcc
  by_cases hck : checkS l = 0
  · have hr := (right_iff l).1 hck
    have h1 := hr.one
    have h9 := hr.nine
    have hm1 : l.sights.xs.length * 8 ≤ maxCells := by unfold maxCells; omega
    have hm2 : l.sights.xs.length ≤ maxCells := by unfold maxCells; omega
    (repeat' first | simp [*, initEnv, c34] | (refine wpIf_two (fun _ h => ?_) (fun _ h => ?_) <;> try simp [-Nat.le_zero_eq] at h) | (apply wpE_appendV; (focus (first | assumption | (repeat' first | assumption | with_reducible apply GrowV.setNew | with_reducible apply GrowV.alloc | with_reducible apply GrowV.set | (with_reducible show ¬ Names _ _; simp [*]; done)))); (focus (exact fun _ => rfl)); (focus decide); (focus (intro a; first | rfl | simp)); (focus (simp [maxCells] <;> omega))) | (refine after_intro fun v2 H2 hv2 hnx2 hget2 hnew2 hone2 hcel2 => ?_))
    refine wp_courses (n := n) (l := l) hr (by simp) rfl (fun idc j H1 => 2 < idc ∧ H1.get 0 = .cells true (rowOf intF (byTo (fitP l) (l.sights.xs.length - 1) j)) ∧ H1.get 1 = .cells true [.row 0 1 0 l.sights.xs.length]) ?_ ?_ ?_ ?_ ?_
    · rintro idc j H1 H2 ⟨hi, g0, g1⟩ hnx hsame
      have := nx_of_get g1
      refine ⟨hi, by rw [hsame 0 (by omega) (by omega) (by simp)]; exact g0, by rw [hsame 1 (by omega) (by omega) (by simp)]; exact g1⟩
    · intro idc hi
      have e : l.sights.xs.length - 1 + 1 = l.sights.xs.length := by omega
      refine ⟨by simpa using hi, ?_, by simp⟩
      simp [byTo, rowOf_zeros, e]
    · rintro idc j H1 hj ht ⟨hi, g0, g1⟩
      refine ⟨hi, ?_, g1⟩
      rw [byTo, if_neg (by simp [fitP, ht])]; exact g0
    · intro idc j t H1 hj ht hi hlt
      (repeat' first | simp [*, initEnv] | (refine wpIf_two (fun _ h => ?_) (fun _ h => ?_) <;> try simp [-Nat.le_zero_eq] at h) | (apply wpE_appendV; (focus (first | assumption | (repeat' first | assumption | with_reducible apply GrowV.setNew | with_reducible apply GrowV.alloc | with_reducible apply GrowV.set | (with_reducible show ¬ Names _ _; simp [*]; done)))); (focus (exact fun _ => rfl)); (focus decide); (focus (intro a; first | rfl | simp)); (focus (simp [maxCells] <;> omega))) | (refine after_intro fun v2 H2 hv2 hnx2 hget2 hnew2 hone2 hcel2 => ?_))
      rintro Hb hi2 g0 g1 gc hnx
      have hcl := toC_length (l.sights.xs.length - 1) j
      obtain ⟨s, hs1, hs2⟩ := row_sl (f := intF) (sz := 1) (n := 10) (fun _ => rfl) gc hcl
      have hch : callP G (n + 7) 76 [s.pv intF 1] = some (.int .i64 (chg (toC (l.sights.xs.length - 1) j))) := by
        have := e76 (n + 6) s (by rw [hs1, hcl]; omega)
        rw [hs1] at this; exact this
      have hlen := byTo_length (fitP l) (l.sights.xs.length - 1) j
      have hle := chg_le (toC (l.sights.xs.length - 1) j)
      rw [hcl] at hle
      have hj3 := pow_le_of (m := l.sights.xs.length - 1) (by omega)
      have hbd := byTo_le (fitP l) (l.sights.xs.length - 1) j
      have hst : Hide (byTo (fitP l) (l.sights.xs.length - 1) (j + 1) = addAt (byTo (fitP l) (l.sights.xs.length - 1) j) (chg (toC (l.sights.xs.length - 1) j))) := ⟨by rw [byTo, if_pos (by simp [fitP, ht])]⟩
      have hk1 : chg (toC (l.sights.xs.length - 1) j) < l.sights.xs.length := by omega
      generalize hB : byTo (fitP l) (l.sights.xs.length - 1) j = B at *
      generalize hK : chg (toC (l.sights.xs.length - 1) j) = K at *
      have hk2 : K < B.length := by omega
      have hbk := hbd B[K] (List.getElem_mem _)
      have hwr : IntKind.i64.wrap (B[K] + 1) = B[K] + 1 := wrap64 (by omega) (by omega)
      have hn0 : 0 < Hb.nx := by omega
      have hi0 : ¬ (idc = 0) := by omega
      clear hcc hlen hbd hB hK
      (repeat' first | simp [*, initEnv] | (refine wpIf_two (fun _ h => ?_) (fun _ h => ?_) <;> try simp [-Nat.le_zero_eq] at h) | (apply wpE_appendV; (focus (first | assumption | (repeat' first | assumption | with_reducible apply GrowV.setNew | with_reducible apply GrowV.alloc | with_reducible apply GrowV.set | (with_reducible show ¬ Names _ _; simp [*]; done)))); (focus (exact fun _ => rfl)); (focus decide); (focus (intro a; first | rfl | simp)); (focus (simp [maxCells] <;> omega))) | (refine after_intro fun v2 H2 hv2 hnx2 hget2 hnew2 hone2 hcel2 => ?_))
      refine wpE_own (caps := []) (by decide) (.cons hs2 .nil) hch rfl ?_
      (repeat' first | simp [*, initEnv] | (refine wpIf_two (fun _ h => ?_) (fun _ h => ?_) <;> try simp [-Nat.le_zero_eq] at h) | (apply wpE_appendV; (focus (first | assumption | (repeat' first | assumption | with_reducible apply GrowV.setNew | with_reducible apply GrowV.alloc | with_reducible apply GrowV.set | (with_reducible show ¬ Names _ _; simp [*]; done)))); (focus (exact fun _ => rfl)); (focus decide); (focus (intro a; first | rfl | simp)); (focus (simp [maxCells] <;> omega))) | (refine after_intro fun v2 H2 hv2 hnx2 hget2 hnew2 hone2 hcel2 => ?_))
      rw [hst.h, addAt, getElem!_pos B K hk2]
    · rintro idc H' ⟨hi, g0, g1⟩
      have hlen := byTo_length (fitP l) (l.sights.xs.length - 1) (3 ^ (l.sights.xs.length - 1))
      have e : l.sights.xs.length - 1 + 1 = l.sights.xs.length := by omega
      rw [e] at hlen
      obtain ⟨ids, hids⟩ := row_res (f := intF) (sz := 1) (n := 9) (fun _ => rfl) g0 hlen
      (repeat' first | simp [*, initEnv] | (refine wpIf_two (fun _ h => ?_) (fun _ h => ?_) <;> try simp [-Nat.le_zero_eq] at h) | (apply wpE_appendV; (focus (first | assumption | (repeat' first | assumption | with_reducible apply GrowV.setNew | with_reducible apply GrowV.alloc | with_reducible apply GrowV.set | (with_reducible show ¬ Names _ _; simp [*]; done)))); (focus (exact fun _ => rfl)); (focus decide); (focus (intro a; first | rfl | simp)); (focus (simp [maxCells] <;> omega))) | (refine after_intro fun v2 H2 hv2 hnx2 hget2 hnew2 hone2 hcel2 => ?_))
  · (repeat' first | simp [*, initEnv, c34] | (refine wpIf_two (fun _ h => ?_) (fun _ h => ?_) <;> try simp [-Nat.le_zero_eq] at h) | (apply wpE_appendV; (focus (first | assumption | (repeat' first | assumption | with_reducible apply GrowV.setNew | with_reducible apply GrowV.alloc | with_reducible apply GrowV.set | (with_reducible show ¬ Names _ _; simp [*]; done)))); (focus (exact fun _ => rfl)); (focus decide); (focus (intro a; first | rfl | simp)); (focus (simp [maxCells] <;> omega))) | (refine after_intro fun v2 H2 hv2 hnx2 hget2 hnew2 hone2 hcel2 => ?_))
@[simp] theorem d34 (n : Nat) (H : Heap) (l_habit_step : Int) (l_habit_place : Int) (l_habit_sink : Int) (l_sights : Sl Sight) (l_notes : Sl Note) (hs : (fun (l : Life) => shortS l) (⟨⟨l_habit_step, l_habit_place, l_habit_sink⟩, l_sights, l_notes⟩ : Life)) : doCall (calleeOf G (n + 10)) H (.pure (.func 34 [])) [.pure (.agg [.int .i64 l_habit_step, .int .i64 l_habit_place, .int .i64 l_habit_sink, (l_sights).pv Sight.cells 9, (l_notes).pv Note.cells 4])] = some (.val (.pure ((fun (l : Life) => (if checkS l = 0 then .tup [(Sl.mk false (byTo (fitP l) (l.sights.xs.length - 1) (3 ^ (l.sights.xs.length - 1)))).pv intF 1, .int .i64 0] else .tup [.nils, .int .i64 (checkS l)])) (⟨⟨l_habit_step, l_habit_place, l_habit_sink⟩, l_sights, l_notes⟩ : Life)))) :=
  call_pureC (ps := [_]) (caps := []) sh34 (e34 n (⟨⟨l_habit_step, l_habit_place, l_habit_sink⟩, l_sights, l_notes⟩ : Life) hs)

-- left out: the program of this seat has no such function

/-! ### Which kinds each gap can have -/
def bitOf (k : Int) : Int := if k = 2 then 4 else if k = 1 then 2 else 1
def addBit (a k : Int) : Int := if (a.tdiv (bitOf k)).tmod 2 = 0 then a + bitOf k else a
def kindsTo (p : List Int → Bool) (m : Nat) : Nat → List Int × Bool
  | 0 => (List.replicate m 0, false)
  | j + 1 => if p (toC m j) = true then ((kindsTo p m j).1.zipWith addBit (toC m j), true) else kindsTo p m j
theorem kindsTo_length (p : List Int → Bool) (m : Nat) : ∀ j, (kindsTo p m j).1.length = m
  | 0 => by simp [kindsTo]
  | j + 1 => by
    rw [kindsTo]
    split
    · simp [kindsTo_length p m j, toC_length]
    · exact kindsTo_length p m j
theorem bit_cases {a k : Int} (ha : 0 ≤ a ∧ a ≤ 7) (hk : 0 ≤ k ∧ k ≤ 2) : (0 ≤ addBit a k ∧ addBit a k ≤ 7) ∧ vbin .shl .num (.pure (.int .i64 1)) (.pure (.int .i64 k)) = some (.pure (.int .i64 (bitOf k))) ∧ vbin .or .num (.pure (.int .i64 a)) (.pure (.int .i64 (bitOf k))) = some (.pure (.int .i64 (addBit a k))) ∧
    IntKind.i64.wrap (a.tdiv (bitOf k)) = a.tdiv (bitOf k) ∧ IntKind.i64.wrap (a + bitOf k) = a + bitOf k := by
  have h1 : a = 0 ∨ a = 1 ∨ a = 2 ∨ a = 3 ∨ a = 4 ∨ a = 5 ∨ a = 6 ∨ a = 7 := by omega
  have h2 : k = 0 ∨ k = 1 ∨ k = 2 := by omega
  rcases h1 with rfl | rfl | rfl | rfl | rfl | rfl | rfl | rfl <;> rcases h2 with rfl | rfl | rfl <;> exact ⟨⟨by decide, by decide⟩, rfl, rfl, rfl, rfl⟩
theorem kindsTo_le (p : List Int → Bool) (m : Nat) : ∀ j, ∀ a ∈ (kindsTo p m j).1, 0 ≤ a ∧ a ≤ 7
  | 0 => by
    intro a ha
    simp [kindsTo] at ha
    omega
  | j + 1 => by
    have ih := kindsTo_le p m j
    intro a ha
    rw [kindsTo] at ha
    split at ha
    · obtain ⟨i, hi, rfl⟩ := List.getElem_of_mem ha
      simp at hi ⊢
      exact (bit_cases (ih _ (List.getElem_mem _)) (toC_kinds m j _ (List.getElem_mem (by omega)))).1
    · exact ih a ha

def mixT (Z B : List Int) (i : Nat) : List Int := Z.take i ++ B.drop i
theorem mixT_length {Z B : List Int} {i : Nat} (h : Z.length = B.length) (hi : i ≤ B.length) : (mixT Z B i).length = B.length := by simp [mixT]; omega
theorem mixT_get {Z B : List Int} {i : Nat} (h : Z.length = B.length) (hi : i < B.length) (h' : i < (mixT Z B i).length) : (mixT Z B i)[i] = B[i] := by
  simp only [mixT]
  rw [List.getElem_append_right (by simp; omega)]
  simp [Nat.min_eq_left (show i ≤ Z.length by omega)]
theorem mixT_set {Z B : List Int} {i : Nat} (h : Z.length = B.length) (hi : i < B.length) : (mixT Z B i).set i (Z[i]'(by omega)) = mixT Z B (i + 1) := by
  have hl : (Z.take i).length = i := by simp; omega
  simp only [mixT]
  rw [List.set_append_right _ _ (by omega), hl, Nat.sub_self, List.drop_eq_getElem_cons hi, List.set_cons_zero, ← take_succ' (by omega), List.append_assoc]
  rfl
theorem mixT_end {Z B : List Int} {i : Nat} (h : Z.length = B.length) (hi : i = B.length) : mixT Z B i = Z := by
  simp only [mixT]
  rw [List.take_of_length_le (by omega), List.drop_eq_nil_of_le (by omega), List.append_nil]

theorem sh27 : G.shared 27 = false := by decide
theorem e27 (n : Nat) (l : Life) (hs : shortS l) : callP G (n + 10) 27 [.agg l.cells] = some ((if checkS l = 0 then (if (kindsTo (fitP l) (l.sights.xs.length - 1) (3 ^ (l.sights.xs.length - 1))).2 = true then .tup [(Sl.mk false (kindsTo (fitP l) (l.sights.xs.length - 1) (3 ^ (l.sights.xs.length - 1))).1).pv intF 1, .int .i64 0] else .tup [.nils, .int .i64 9]) else .tup [.nils, .int .i64 (checkS l)])) := by
  refine callP_of (ext_none _) rfl g27 rfl ?_
  have hcc : ∀ H, doCall (calleeOf G (n + 9)) H (.pure (.func 41 [])) [.pure (.agg l.cells)] = some (.val (.pure (.int .i64 (checkS l)))) := fun H => d41 (n + 4) H l.habit.step l.habit.place l.habit.sink l.sights l.notes hs
  simp only [Life.cells] at hcc
  by_cases hck : checkS l = 0
  · have hr := (right_iff l).1 hck
    have h1 := hr.one
    have h9 := hr.nine
    have hw : IntKind.i64.wrap ((l.sights.xs.length : Int) - 1) = ((l.sights.xs.length - 1 : Nat) : Int) := wrap_pred (by omega) (by omega)
    obtain ⟨m, hm0⟩ : ∃ m, m = l.sights.xs.length - 1 := ⟨_, rfl⟩
    rw [← hm0] at hw ⊢
    have hm1 : m * 8 ≤ maxCells := by unfold maxCells; omega
    have hm2 : m ≤ maxCells := by unfold maxCells; omega
    have hm8 : m ≤ 8 := by omega
    have hm : Hide _ := ⟨hm0⟩
    clear hm0
    (repeat' first | simp [*, initEnv, c27] | (refine wpIf_two (fun _ h => ?_) (fun _ h => ?_) <;> try simp [-Nat.le_zero_eq] at h) | (apply wpE_appendV; (focus (first | assumption | (repeat' first | assumption | with_reducible apply GrowV.setNew | with_reducible apply GrowV.alloc | with_reducible apply GrowV.set | (with_reducible show ¬ Names _ _; simp [*]; done)))); (focus (exact fun _ => rfl)); (focus decide); (focus (intro a; first | rfl | simp)); (focus (simp [maxCells] <;> omega))) | (refine after_intro fun v2 H2 hv2 hnx2 hget2 hnew2 hone2 hcel2 => ?_))
    refine wp_courses (n := n) (l := l) hr (by simp) rfl (fun idc j H1 => 3 < idc ∧ H1.get 0 = .cells true (rowOf intF (kindsTo (fitP l) m j).1) ∧ H1.get 1 = .cells true [.row 0 1 0 m] ∧ H1.get 2 = .cells true [.pure (.bool (kindsTo (fitP l) m j).2)]) ?_ ?_ ?_ ?_ ?_
    · rintro idc j H1 H2 ⟨hi, g0, g1, g2⟩ hnx hsame
      have := nx_of_get g2
      exact ⟨hi, by rw [hsame 0 (by omega) (by omega) (by simp)]; exact g0, by rw [hsame 1 (by omega) (by omega) (by simp)]; exact g1, by rw [hsame 2 (by omega) (by omega) (by simp)]; exact g2⟩
    · intro idc hi
      refine ⟨by simpa using hi, ?_, by simp, by simp [kindsTo]⟩
      simp [kindsTo, rowOf_zeros]
    · rw [← hm.h]
      rintro idc j H1 hj ht ⟨hi, g0, g1, g2⟩
      have e : kindsTo (fitP l) m (j + 1) = kindsTo (fitP l) m j := by rw [kindsTo, if_neg (by simp [fitP, ht])]
      rw [e]
      exact ⟨hi, g0, g1, g2⟩
    · rw [← hm.h]
      intro idc j t H1 hj ht hi hlt
      (repeat' first | simp [*, initEnv] | (refine wpIf_two (fun _ h => ?_) (fun _ h => ?_) <;> try simp [-Nat.le_zero_eq] at h) | (apply wpE_appendV; (focus (first | assumption | (repeat' first | assumption | with_reducible apply GrowV.setNew | with_reducible apply GrowV.alloc | with_reducible apply GrowV.set | (with_reducible show ¬ Names _ _; simp [*]; done)))); (focus (exact fun _ => rfl)); (focus decide); (focus (intro a; first | rfl | simp)); (focus (simp [maxCells] <;> omega))) | (refine after_intro fun v2 H2 hv2 hnx2 hget2 hnew2 hone2 hcel2 => ?_))
      rintro Hb hi2 g0 g1 g2 gc hnx
      have hcl := toC_length m j
      have e : Hide (kindsTo (fitP l) m (j + 1) = ((kindsTo (fitP l) m j).1.zipWith addBit (toC m j), true)) := ⟨by rw [kindsTo, if_pos (by simp [fitP, ht])]⟩
      have hBl := kindsTo_length (fitP l) m j
      have hBb := kindsTo_le (fitP l) m j
      generalize (kindsTo (fitP l) m j).2 = S0 at *
      generalize (kindsTo (fitP l) m j).1 = B at *
      have hck := toC_kinds m j
      generalize toC m j = C at *
      have hZl : (B.zipWith addBit C).length = B.length := by simp; omega
      have hnx2 : 2 < Hb.nx := by omega
      (repeat' first | simp [*, initEnv] | (refine wpIf_two (fun _ h => ?_) (fun _ h => ?_) <;> try simp [-Nat.le_zero_eq] at h) | (apply wpE_appendV; (focus (first | assumption | (repeat' first | assumption | with_reducible apply GrowV.setNew | with_reducible apply GrowV.alloc | with_reducible apply GrowV.set | (with_reducible show ¬ Names _ _; simp [*]; done)))); (focus (exact fun _ => rfl)); (focus decide); (focus (intro a; first | rfl | simp)); (focus (simp [maxCells] <;> omega))) | (refine after_intro fun v2 H2 hv2 hnx2 hget2 hnew2 hone2 hcel2 => ?_))
      refine wp_loopF [(8, 9), (26, 39)] (fun (i : Nat) env H3 => env 26 = .pure (.int .i64 i) ∧ i ≤ m ∧ H3.nx = Hb.nx ∧ H3.get 0 = .cells true (rowOf intF (mixT (B.zipWith addBit C) B i)) ∧ H3.get 1 = .cells true [.row 0 1 0 m] ∧ H3.get 2 = .cells true [.pure (.bool true)] ∧ H3.get idc = .cells true (rowOf intF C) ∧ H3.get 3 = Hb.get 3) (fun i => m - i) 0 ?_ ?_ ?_ ?_
      · decide
      · refine ⟨by simp, by omega, by simp, by rw [get_set_ne (by decide)]; simpa [mixT] using g0, by rw [get_set_ne (by decide)]; exact g1, by rw [get_set_own hnx2], by rw [get_set_ne (by omega)]; exact gc, by rw [get_set_ne (by decide)]⟩
      · simp only [loopFuel]; omega
      rintro i env H3 ⟨h26, hi, gn, k0, k1, k2, kc, k3⟩
      have hfit : i < 9223372036854775807 := by omega
      have hXl := mixT_length (Z := B.zipWith addBit C) (B := B) (i := i) hZl (by omega)
      rw [hBl] at hXl
      have n0 := nx_of_get k0
      have hi0 : ¬ (idc = 0) := by omega
      have hi3 : ¬ (3 = 0) := by omega
      by_cases him : i < m
      · have hXg := mixT_get (Z := B.zipWith addBit C) (B := B) (i := i) hZl (by omega) (by omega)
        have hXs := mixT_set (Z := B.zipWith addBit C) (B := B) (i := i) hZl (by omega)
        have hZi : (B.zipWith addBit C)[i]'(by omega) = addBit (B[i]'(by omega)) (C[i]'(by omega)) := by simp
        rw [hZi] at hXs
        obtain ⟨b1, b2, b3, b4, b5⟩ := bit_cases (hBb _ (List.getElem_mem (l := B) (n := i) (by omega))) (hck _ (List.getElem_mem (l := C) (n := i) (by omega)))
        obtain ⟨X, k0, hXl, hXg, hXs⟩ : ∃ X : List Int, H3.get 0 = .cells true (rowOf intF X) ∧ X.length = m ∧ (∀ h, X[i]'h = B[i]'(by omega)) ∧ X.set i (addBit (B[i]'(by omega)) (C[i]'(by omega))) = mixT (B.zipWith addBit C) B (i + 1) := ⟨_, k0, hXl, fun _ => hXg, hXs⟩
        have hXs' : Hide _ := ⟨hXs⟩
        have hXg' := hXg (by omega)
        clear hXs hXg hZi b4 b5
        have hcl' : C.length = m := hcl
        (repeat' first | simp [*, initEnv] | (refine wpIf_two (fun _ h => ?_) (fun _ h => ?_) <;> try simp [-Nat.le_zero_eq] at h) | (apply wpE_appendV; (focus (first | assumption | (repeat' first | assumption | with_reducible apply GrowV.setNew | with_reducible apply GrowV.alloc | with_reducible apply GrowV.set | (with_reducible show ¬ Names _ _; simp [*]; done)))); (focus (exact fun _ => rfl)); (focus decide); (focus (intro a; first | rfl | simp)); (focus (simp [maxCells] <;> omega))) | (refine after_intro fun v2 H2 hv2 hnx2 hget2 hnew2 hone2 hcel2 => ?_))
        exact ⟨i + 1, by omega, by simp, by omega, by first | rw [hXs'.h] | rw [get_set_own n0]⟩
      · have hie : i = m := by omega
        have hXe := mixT_end (Z := B.zipWith addBit C) (B := B) (i := i) hZl (by omega)
        rw [hXe] at k0
        have e1 : (kindsTo (fitP l) m (j + 1)).1 = B.zipWith addBit C := by rw [e.h]
        have e2 : (kindsTo (fitP l) m (j + 1)).2 = true := by rw [e.h]
        (repeat' first | simp [*, initEnv] | (refine wpIf_two (fun _ h => ?_) (fun _ h => ?_) <;> try simp [-Nat.le_zero_eq] at h) | (apply wpE_appendV; (focus (first | assumption | (repeat' first | assumption | with_reducible apply GrowV.setNew | with_reducible apply GrowV.alloc | with_reducible apply GrowV.set | (with_reducible show ¬ Names _ _; simp [*]; done)))); (focus (exact fun _ => rfl)); (focus decide); (focus (intro a; first | rfl | simp)); (focus (simp [maxCells] <;> omega))) | (refine after_intro fun v2 H2 hv2 hnx2 hget2 hnew2 hone2 hcel2 => ?_))
    · rw [← hm.h]
      rintro idc H' ⟨hi, g0, g1, g2⟩
      have hlen := kindsTo_length (fitP l) m (3 ^ m)
      obtain ⟨ids, hids⟩ := row_res (f := intF) (sz := 1) (n := 9) (fun _ => rfl) g0 hlen
      (repeat' first | simp [*, initEnv] | (refine wpIf_two (fun _ h => ?_) (fun _ h => ?_) <;> try simp [-Nat.le_zero_eq] at h) | (apply wpE_appendV; (focus (first | assumption | (repeat' first | assumption | with_reducible apply GrowV.setNew | with_reducible apply GrowV.alloc | with_reducible apply GrowV.set | (with_reducible show ¬ Names _ _; simp [*]; done)))); (focus (exact fun _ => rfl)); (focus decide); (focus (intro a; first | rfl | simp)); (focus (simp [maxCells] <;> omega))) | (refine after_intro fun v2 H2 hv2 hnx2 hget2 hnew2 hone2 hcel2 => ?_))
  · (repeat' first | simp [*, initEnv, c27] | (refine wpIf_two (fun _ h => ?_) (fun _ h => ?_) <;> try simp [-Nat.le_zero_eq] at h) | (apply wpE_appendV; (focus (first | assumption | (repeat' first | assumption | with_reducible apply GrowV.setNew | with_reducible apply GrowV.alloc | with_reducible apply GrowV.set | (with_reducible show ¬ Names _ _; simp [*]; done)))); (focus (exact fun _ => rfl)); (focus decide); (focus (intro a; first | rfl | simp)); (focus (simp [maxCells] <;> omega))) | (refine after_intro fun v2 H2 hv2 hnx2 hget2 hnew2 hone2 hcel2 => ?_))
@[simp] theorem d27 (n : Nat) (H : Heap) (l_habit_step : Int) (l_habit_place : Int) (l_habit_sink : Int) (l_sights : Sl Sight) (l_notes : Sl Note) (hs : (fun (l : Life) => shortS l) (⟨⟨l_habit_step, l_habit_place, l_habit_sink⟩, l_sights, l_notes⟩ : Life)) : doCall (calleeOf G (n + 10)) H (.pure (.func 27 [])) [.pure (.agg [.int .i64 l_habit_step, .int .i64 l_habit_place, .int .i64 l_habit_sink, (l_sights).pv Sight.cells 9, (l_notes).pv Note.cells 4])] = some (.val (.pure ((fun (l : Life) => (if checkS l = 0 then (if (kindsTo (fitP l) (l.sights.xs.length - 1) (3 ^ (l.sights.xs.length - 1))).2 = true then .tup [(Sl.mk false (kindsTo (fitP l) (l.sights.xs.length - 1) (3 ^ (l.sights.xs.length - 1))).1).pv intF 1, .int .i64 0] else .tup [.nils, .int .i64 9]) else .tup [.nils, .int .i64 (checkS l)])) (⟨⟨l_habit_step, l_habit_place, l_habit_sink⟩, l_sights, l_notes⟩ : Life)))) :=
  call_pureC (ps := [_]) (caps := []) sh27 (e27 n (⟨⟨l_habit_step, l_habit_place, l_habit_sink⟩, l_sights, l_notes⟩ : Life) hs)

-- left out: the program of this seat has no such function
end Go.Proofs.YtnomliioadjdgaaGreat.Vm

namespace Go.Proofs.YtnomliioadjdgaaGreat.Vm
open Go
set_option linter.unusedSimpArgs false
set_option linter.unusedVariables false
set_option maxHeartbeats 4000000

theorem allL_full (l : List Span) : someS l = true ↔ ∀ s ∈ l, full s := by
  unfold someS
  rw [allL_iff]
  simp [full]
theorem getElem!_mem_or {c : List Int} (k : Nat) : c[k]! ∈ c ∨ c[k]! = 0 := by
  by_cases h : k < c.length
  · left; rw [getElem!_pos c k h]; exact List.getElem_mem _
  · right; rw [getElem!_neg c k h]; rfl
/-- The gaps of x and of y. -/
theorem gapsX {l : Life} (hr : Right l) (c : List Int) : Gaps (fun _ => True) (onX l c) (onX l c) := by
  have hd := fun (k : Nat) => far_le (k := c[k]!) hr.habit
  refine ⟨?_, ?_, ?_, ?_, fun _ _ _ _ => trivial⟩
  · intro k s t h; unfold sub onX onD at *; simp only; omega
  · intro k s t h; unfold sub onX onD at *; simp only; omega
  · intro k f t h
    have := hd k
    unfold sub onX onD meetS at *; simp only at *; omega
  · intro k f t _ hf ht h
    have := hd k
    unfold full sub onX onD meetS at *; simp only at *; omega
/-- The gaps of heights. -/
theorem gapsH {l : Life} (hr : Right l) (c : List Int) : Gaps (fun s => 0 ≤ s.lo ∧ s.hi ≤ 100) (onH l c) (backH l c) := by
  have hy : ∀ k, k + 1 < l.sights.xs.length → 0 ≤ l.habit.sink * yrS l.sights.xs k := fun k hk => by
    have h1 := hr.yr hk
    have h2 : yrS l.sights.xs k = l.sights.xs[k+1].year - l.sights.xs[k].year := by rw [yrS, getElem!_pos _ k (by omega), getElem!_pos _ (k+1) hk]
    rw [h2]
    exact (sink_le hr.habit h1).1
  refine ⟨?_, ?_, ?_, ?_, ?_⟩
  · intro k s t h
    unfold onH
    by_cases hk : k + 1 < l.sights.xs.length
    · rw [if_pos hk, if_pos hk]; unfold upH sub at *
      split <;> (simp only; omega)
    · rw [if_neg hk, if_neg hk]; exact h
  · intro k s t h
    unfold backH
    by_cases hk : k + 1 < l.sights.xs.length
    · rw [if_pos hk, if_pos hk]; unfold downH sub at *
      split <;> (simp only; omega)
    · rw [if_neg hk, if_neg hk]; exact h
  · intro k f t h
    unfold onH backH at *
    by_cases hk : k + 1 < l.sights.xs.length
    · rw [if_pos hk] at *; unfold upH downH sub meetS at *
      have := hy k hk
      split <;> rename_i h0 <;> simp only [h0, if_true, if_false] at h ⊢ <;> omega
    · rw [if_neg hk] at *
      rw [if_neg hk]
      exact sub_meet h (sub_refl _)
  · intro k f t hR hf ht h
    unfold onH backH at *
    by_cases hk : k + 1 < l.sights.xs.length
    · rw [if_pos hk] at *; unfold upH downH sub meetS full at *
      have := hy k hk
      split <;> rename_i h0 <;> simp only [h0, if_true, if_false] at h ⊢ <;> omega
    · rw [if_neg hk] at *
      unfold sub full meetS at *; simp only; omega
  · intro s t h1 h2
    unfold sub at h2; omega
/-- Rounds are once forth and once back. -/
theorem rounds_through {R : Span → Prop} {on back : Nat → Span → Span} {l : List Span} (g : Gaps R on back) (hR : ∀ s ∈ l, R s) {m r : Nat} (hm : m + 1 = l.length) (hr : l.length ≤ r) :
    throughS on back l = if someS (roundsS on back m r l) = true then some (roundsS on back m r l) else none := by
  by_cases h : ∀ i, i < l.length → full (fN on l i)
  · obtain ⟨h1, h2⟩ := rounds_full g hR hm hr h
    rw [through_some h, if_pos ((allL_full _).2 h2), h1]
  · have h' : ∃ i, i < l.length ∧ ¬ full (fN on l i) := Classical.byContradiction fun hc => h fun i hi => Classical.byContradiction fun hn => hc ⟨i, hi, hn⟩
    rw [through_none h', if_neg (fun e => rounds_empty g hm (by omega) h' ((allL_full _).1 e))]
section
variable {l : Life} {c : List Int}
theorem thX_eq (hr : Right l) (hc : c.length + 1 = l.sights.xs.length) : thX l c = if someS (narX l c) = true then some (narX l c) else none :=
  rounds_through (gapsX hr c) (fun _ _ => trivial) (by simpa using hc) (by simp; omega)
theorem thY_eq (hr : Right l) (hc : c.length + 1 = l.sights.xs.length) : thY l c = if someS (narY l c) = true then some (narY l c) else none :=
  rounds_through (gapsX hr c) (fun _ _ => trivial) (by simpa using hc) (by simp; omega)
theorem thH_eq (hr : Right l) (hc : c.length + 1 = l.sights.xs.length) : thH l c = if someS (narH l c) = true then some (narH l c) else none :=
  rounds_through (gapsH hr c) (fun s hs => by obtain ⟨a, ha, rfl⟩ := List.mem_map.1 hs; have := hr.sp ha; omega) (by simpa using hc) (by simp; omega)
/-- What the program tells is what the specification tells. -/
theorem tell_can (hr : Right l) (hc : c.length + 1 = l.sights.xs.length) : tellS l c = if canS l c = true then some ⟨(narX l c).zipWith Box.mk (narY l c), narH l c, (lettersS l.sights.xs c).getD []⟩ else none := by
  unfold tellS canS
  rw [thX_eq hr hc, thY_eq hr hc, thH_eq hr hc]
  by_cases h0 : allL (fun m => notedS l.sights.xs m c) l.notes.xs = true
  · rw [if_pos h0, h0]
    by_cases h1 : someS (narX l c) = true <;> by_cases h2 : someS (narY l c) = true <;> by_cases h3 : someS (narH l c) = true <;> cases h4 : lettersS l.sights.xs c <;> simp [h1, h2, h3, h4]
  · rw [if_neg h0]
    simp at h0
    simp [h0]
theorem fit_can (hr : Right l) (hc : c.length + 1 = l.sights.xs.length) : fitP l c = canS l c := by
  unfold fitP
  rw [tell_can hr hc]
  split
  · rename_i h; simp [h]
  · rename_i h; simp at h; simp [h]
theorem byTo_congr {p q : List Int → Bool} {m : Nat} (h : ∀ j, p (toC m j) = q (toC m j)) : ∀ j, byTo p m j = byTo q m j
  | 0 => rfl
  | j + 1 => by rw [byTo, byTo, byTo_congr h j, h j]
theorem kindsTo_congr {p q : List Int → Bool} {m : Nat} (h : ∀ j, p (toC m j) = q (toC m j)) : ∀ j, kindsTo p m j = kindsTo q m j
  | 0 => rfl
  | j + 1 => by rw [kindsTo, kindsTo, kindsTo_congr h j, h j]
theorem courses_eq (hr : Right l) (j : Nat) : byTo (fitP l) (l.sights.xs.length - 1) j = byTo (canS l) (l.sights.xs.length - 1) j :=
  byTo_congr (fun j => fit_can hr (by rw [toC_length]; have := hr.one; omega)) j
theorem kinds_eq (hr : Right l) (j : Nat) : kindsTo (fitP l) (l.sights.xs.length - 1) j = kindsTo (canS l) (l.sights.xs.length - 1) j :=
  kindsTo_congr (fun j => fit_can hr (by rw [toC_length]; have := hr.one; omega)) j
end
end Go.Proofs.YtnomliioadjdgaaGreat.Vm

namespace Go.Proofs.YtnomliioadjdgaaGreat.Vm
open Go
set_option linter.unusedSimpArgs false
set_option linter.unusedVariables false
set_option maxHeartbeats 4000000

theorem goL_length : ∀ (r : List (Int × List UInt8)) (p : List UInt8) (m : Nat) (t : List (List UInt8)), goL p m r = some t → t.length = m + r.length
  | [], p, m, t, h => by simp [goL] at h; subst h; simp
  | (k, x) :: r, p, m, t, h => by
    rw [goL] at h
    split at h
    · rw [Option.map_eq_some_iff] at h
      obtain ⟨u, h1, rfl⟩ := h
      have := goL_length r _ _ _ h1
      simp; omega
    · split at h
      · have := goL_length r _ _ _ h
        simp; omega
      · simp at h
theorem letters_length {l : List Sight} {c : List Int} (hl : l.length ≤ 9) : ((lettersS l c).getD []).length < 1000 := by
  unfold lettersS startL
  split
  · cases h : goL l[0].letters 1 ((gapsL l c).drop 0) with
    | none => simp
    | some t =>
      have := goL_length _ _ _ _ h
      simp [gapsL, lets] at this ⊢
      omega
  · simp

@[simp] theorem vbin_neqS (d : EqK) (a b : List UInt8) : vbin .neq d (.pure (.str ⟨a.toArray⟩)) (.pure (.str ⟨b.toArray⟩)) = some (.pure (.bool (!decide (a = b)))) := by
  simp only [vbin, strBin, toList_mk, Option.map_some]
  congr 3
  by_cases h : a = b <;> simp [h]
theorem st_aggEq {cl : Callee} {env : Env} {H : Heap} {neg : Bool} {n : Nat} {os : List Nat} {x y : Opnd} : step cl env H (.aggEq neg n os x y) = if isAggV (x.eval env) = true ∧ isAggV (y.eval env) = true ∧ (x.eval env).cells.length = n ∧ (y.eval env).cells.length = n then
      match cellsEq (x.eval env).cells (y.eval env).cells os with
      | some b => some (.val (.pure (.bool (b != neg))))
      | none => none
    else none := rfl

theorem sh14 : G.shared 14 = false := by decide
theorem e14 (n : Nat) (a : Sl Box) (ha : a.xs.length < 1000) : callP G (n + 1) 14 [a.pv Box.cells 4, a.pv Box.cells 4] = some (.bool true) := by
  refine callP_of (ext_none _) rfl g14 rfl ?_
  (repeat' first | simp [*, initEnv, c14] | (refine wpIf_two (fun _ h => ?_) (fun _ h => ?_) <;> try simp [-Nat.le_zero_eq] at h) | (apply wpE_appendV; (focus (first | assumption | (repeat' first | assumption | with_reducible apply GrowV.setNew | with_reducible apply GrowV.alloc | with_reducible apply GrowV.set | (with_reducible show ¬ Names _ _; simp [*]; done)))); (focus (exact fun _ => rfl)); (focus decide); (focus (intro a; first | rfl | simp)); (focus (simp [maxCells] <;> omega))) | (refine after_intro fun v2 H2 hv2 hnx2 hget2 hnew2 hone2 hcel2 => ?_))
  refine wp_loopF [(4, 5), (11, 25)] (fun (i : Nat) env H => env 5 = .pure (.int .i64 i) ∧ i ≤ a.xs.length) (fun i => a.xs.length - i) 0 ?_ ?_ ?_ ?_
  · decide
  · simp
  · simp only [loopFuel]; omega
  rintro i env H ⟨h5, hi⟩
  have hfit : i < 9223372036854775807 := by omega
  (repeat' first | simp [*, initEnv, st_aggEq, cellsEq, isAggV] | (refine wpIf_two (fun _ h => ?_) (fun _ h => ?_) <;> try simp [-Nat.le_zero_eq] at h) | (apply wpE_appendV; (focus (first | assumption | (repeat' first | assumption | with_reducible apply GrowV.setNew | with_reducible apply GrowV.alloc | with_reducible apply GrowV.set | (with_reducible show ¬ Names _ _; simp [*]; done)))); (focus (exact fun _ => rfl)); (focus decide); (focus (intro a; first | rfl | simp)); (focus (simp [maxCells] <;> omega))) | (refine after_intro fun v2 H2 hv2 hnx2 hget2 hnew2 hone2 hcel2 => ?_))
  all_goals try exact ⟨i + 1, by omega, by simp, by omega⟩
@[simp] theorem d14 (n : Nat) (H : Heap) (a : Sl Box) (ha : a.xs.length < 1000) : doCall (calleeOf G (n + 1)) H (.pure (.func 14 [])) [.pure (a.pv Box.cells 4), .pure (a.pv Box.cells 4)] = some (.val (.pure (.bool true))) :=
  call_pureC (ps := [_, _]) (caps := []) sh14 (e14 n a ha)
-- left out: the program of this seat has no such function
theorem sh40 : G.shared 40 = false := by decide
theorem e40 (n : Nat) (a : Sl (List UInt8)) (ha : a.xs.length < 1000) : callP G (n + 1) 40 [a.pv strF 1, a.pv strF 1] = some (.bool true) := by
  refine callP_of (ext_none _) rfl g40 rfl ?_
  (repeat' first | simp [*, initEnv, c40] | (refine wpIf_two (fun _ h => ?_) (fun _ h => ?_) <;> try simp [-Nat.le_zero_eq] at h) | (apply wpE_appendV; (focus (first | assumption | (repeat' first | assumption | with_reducible apply GrowV.setNew | with_reducible apply GrowV.alloc | with_reducible apply GrowV.set | (with_reducible show ¬ Names _ _; simp [*]; done)))); (focus (exact fun _ => rfl)); (focus decide); (focus (intro a; first | rfl | simp)); (focus (simp [maxCells] <;> omega))) | (refine after_intro fun v2 H2 hv2 hnx2 hget2 hnew2 hone2 hcel2 => ?_))
  refine wp_loopF [(4, 5), (11, 25)] (fun (i : Nat) env H => env 5 = .pure (.int .i64 i) ∧ i ≤ a.xs.length) (fun i => a.xs.length - i) 0 ?_ ?_ ?_ ?_
  · decide
  · simp
  · simp only [loopFuel]; omega
  rintro i env H ⟨h5, hi⟩
  have hfit : i < 9223372036854775807 := by omega
  (repeat' first | simp [*, initEnv, st_aggEq, cellsEq, isAggV] | (refine wpIf_two (fun _ h => ?_) (fun _ h => ?_) <;> try simp [-Nat.le_zero_eq] at h) | (apply wpE_appendV; (focus (first | assumption | (repeat' first | assumption | with_reducible apply GrowV.setNew | with_reducible apply GrowV.alloc | with_reducible apply GrowV.set | (with_reducible show ¬ Names _ _; simp [*]; done)))); (focus (exact fun _ => rfl)); (focus decide); (focus (intro a; first | rfl | simp)); (focus (simp [maxCells] <;> omega))) | (refine after_intro fun v2 H2 hv2 hnx2 hget2 hnew2 hone2 hcel2 => ?_))
  all_goals try exact ⟨i + 1, by omega, by simp, by omega⟩
@[simp] theorem d40 (n : Nat) (H : Heap) (a : Sl (List UInt8)) (ha : a.xs.length < 1000) : doCall (calleeOf G (n + 1)) H (.pure (.func 40 [])) [.pure (a.pv strF 1), .pure (a.pv strF 1)] = some (.val (.pure (.bool true))) :=
  call_pureC (ps := [_, _]) (caps := []) sh40 (e40 n a ha)
theorem sh36 : G.shared 36 = false := by decide
theorem e36 (n : Nat) (a : Sl Int) (ha : a.xs.length < 1000) : callP G (n + 1) 36 [a.pv intF 1, a.pv intF 1] = some (.bool true) := by
  refine callP_of (ext_none _) rfl g36 rfl ?_
  (repeat' first | simp [*, initEnv, c36] | (refine wpIf_two (fun _ h => ?_) (fun _ h => ?_) <;> try simp [-Nat.le_zero_eq] at h) | (apply wpE_appendV; (focus (first | assumption | (repeat' first | assumption | with_reducible apply GrowV.setNew | with_reducible apply GrowV.alloc | with_reducible apply GrowV.set | (with_reducible show ¬ Names _ _; simp [*]; done)))); (focus (exact fun _ => rfl)); (focus decide); (focus (intro a; first | rfl | simp)); (focus (simp [maxCells] <;> omega))) | (refine after_intro fun v2 H2 hv2 hnx2 hget2 hnew2 hone2 hcel2 => ?_))
  refine wp_loopF [(4, 5), (11, 25)] (fun (i : Nat) env H => env 5 = .pure (.int .i64 i) ∧ i ≤ a.xs.length) (fun i => a.xs.length - i) 0 ?_ ?_ ?_ ?_
  · decide
  · simp
  · simp only [loopFuel]; omega
  rintro i env H ⟨h5, hi⟩
  have hfit : i < 9223372036854775807 := by omega
  (repeat' first | simp [*, initEnv, st_aggEq, cellsEq, isAggV] | (refine wpIf_two (fun _ h => ?_) (fun _ h => ?_) <;> try simp [-Nat.le_zero_eq] at h) | (apply wpE_appendV; (focus (first | assumption | (repeat' first | assumption | with_reducible apply GrowV.setNew | with_reducible apply GrowV.alloc | with_reducible apply GrowV.set | (with_reducible show ¬ Names _ _; simp [*]; done)))); (focus (exact fun _ => rfl)); (focus decide); (focus (intro a; first | rfl | simp)); (focus (simp [maxCells] <;> omega))) | (refine after_intro fun v2 H2 hv2 hnx2 hget2 hnew2 hone2 hcel2 => ?_))
  all_goals try exact ⟨i + 1, by omega, by simp, by omega⟩
@[simp] theorem d36 (n : Nat) (H : Heap) (a : Sl Int) (ha : a.xs.length < 1000) : doCall (calleeOf G (n + 1)) H (.pure (.func 36 [])) [.pure (a.pv intF 1), .pure (a.pv intF 1)] = some (.val (.pure (.bool true))) :=
  call_pureC (ps := [_, _]) (caps := []) sh36 (e36 n a ha)

/-! ### Few sights -/
def fewS (l : Life) : Bool := if 9 < l.sights.xs.length ∨ 20 < l.notes.xs.length then true else allL (fun s => decide (s.letters.length ≤ 20)) l.sights.xs && decide (l.sights.xs.length ≤ 6)
theorem few_short {l : Life} (h : fewS l = true) : shortS l := by
  unfold fewS at h
  intro h1 h2 s hs
  rw [if_neg (by omega)] at h
  simp only [Bool.and_eq_true] at h
  simpa using allL_iff.1 h.1 s hs
theorem sh8 : G.shared 8 = false := by decide
theorem e8 (n : Nat) (l : Life) : callP G (n + 1) 8 [.agg l.cells] = some (.bool (fewS l)) := by
  refine callP_of (ext_none _) rfl g8 rfl ?_
  (repeat' first | simp [*, initEnv, c8] | (refine wpIf_two (fun _ h => ?_) (fun _ h => ?_) <;> try simp [-Nat.le_zero_eq] at h) | (apply wpE_appendV; (focus (first | assumption | (repeat' first | assumption | with_reducible apply GrowV.setNew | with_reducible apply GrowV.alloc | with_reducible apply GrowV.set | (with_reducible show ¬ Names _ _; simp [*]; done)))); (focus (exact fun _ => rfl)); (focus decide); (focus (intro a; first | rfl | simp)); (focus (simp [maxCells] <;> omega))) | (refine after_intro fun v2 H2 hv2 hnx2 hget2 hnew2 hone2 hcel2 => ?_))
  all_goals try (rw [fewS, if_pos (by omega)]; done)
  have hP : Hide (fewS l = (allL (fun s => decide (s.letters.length ≤ 20)) l.sights.xs && decide (l.sights.xs.length ≤ 6))) := ⟨by rw [fewS, if_neg (by omega)]⟩
  generalize fewS l = P at *
  refine wp_loopF [(2, 3), (14, 28)] (fun (i : Nat) env H => env 3 = .pure (.int .i64 i) ∧ i ≤ l.sights.xs.length ∧ Hide (allL (fun s => decide (s.letters.length ≤ 20)) l.sights.xs = allL (fun s => decide (s.letters.length ≤ 20)) (l.sights.xs.drop i))) (fun i => l.sights.xs.length - i) 0 ?_ ?_ ?_ ?_
  · decide
  · simp
  · simp only [loopFuel]; omega
  rintro i env H ⟨h3, hi, hn⟩
  have hfit : i < 9223372036854775807 := by omega
  (repeat' first | simp [*, initEnv] | (refine wpIf_two (fun _ h => ?_) (fun _ h => ?_) <;> try simp [-Nat.le_zero_eq] at h) | (apply wpE_appendV; (focus (first | assumption | (repeat' first | assumption | with_reducible apply GrowV.setNew | with_reducible apply GrowV.alloc | with_reducible apply GrowV.set | (with_reducible show ¬ Names _ _; simp [*]; done)))); (focus (exact fun _ => rfl)); (focus decide); (focus (intro a; first | rfl | simp)); (focus (simp [maxCells] <;> omega))) | (refine after_intro fun v2 H2 hv2 hnx2 hget2 hnew2 hone2 hcel2 => ?_))
  · have hlt : i < l.sights.xs.length := by assumption
    have hf : decide (l.sights.xs[i].letters.length ≤ 20) = false := by simp; omega
    rw [hP.h, hn.h, allL_drop hlt, hf]; rfl
  · have hlt : i < l.sights.xs.length := by assumption
    have hf : decide (l.sights.xs[i].letters.length ≤ 20) = true := by simp; omega
    exact ⟨i + 1, by omega, by simp, by omega, ⟨by rw [hn.h, allL_drop hlt, hf]; rfl⟩⟩
  rw [hP.h, hn.h, allL_end (by omega)]; simp; omega
@[simp] theorem d8 (n : Nat) (H : Heap) (l_habit_step : Int) (l_habit_place : Int) (l_habit_sink : Int) (l_sights : Sl Sight) (l_notes : Sl Note) : doCall (calleeOf G (n + 1)) H (.pure (.func 8 [])) [.pure (.agg [.int .i64 l_habit_step, .int .i64 l_habit_place, .int .i64 l_habit_sink, (l_sights).pv Sight.cells 9, (l_notes).pv Note.cells 4])] = some (.val (.pure ((fun (l : Life) => .bool (fewS l)) (⟨⟨l_habit_step, l_habit_place, l_habit_sink⟩, l_sights, l_notes⟩ : Life)))) :=
  call_pureC (ps := [_]) (caps := []) sh8 (e8 n (⟨⟨l_habit_step, l_habit_place, l_habit_sink⟩, l_sights, l_notes⟩ : Life))
end Go.Proofs.YtnomliioadjdgaaGreat.Vm

namespace Go.Proofs.YtnomliioadjdgaaGreat.Vm
open Go
set_option linter.unusedSimpArgs false
set_option linter.unusedVariables false
set_option maxHeartbeats 4000000

def coverS (a b : Span) : Span := ⟨min a.lo b.lo, max a.hi b.hi⟩
def coverB (a b : Box) : Box := ⟨coverS a.x b.x, coverS a.y b.y⟩
theorem sh48 : G.shared 48 = false := by decide
theorem e48 (n : Nat) (a b : Span) : callP G (n + 1) 48 [.agg a.cells, .agg b.cells] = some (.agg (coverS a b).cells) := by
  refine callP_of (ext_none _) rfl g48 rfl ?_
  (repeat' first | simp [*, initEnv, c48, Span.cells, coverS] | (refine wpIf_two (fun _ h => ?_) (fun _ h => ?_) <;> try simp [-Nat.le_zero_eq] at h) | (apply wpE_appendV; (focus (first | assumption | (repeat' first | assumption | with_reducible apply GrowV.setNew | with_reducible apply GrowV.alloc | with_reducible apply GrowV.set | (with_reducible show ¬ Names _ _; simp [*]; done)))); (focus (exact fun _ => rfl)); (focus decide); (focus (intro a; first | rfl | simp)); (focus (simp [maxCells] <;> omega))) | (refine after_intro fun v2 H2 hv2 hnx2 hget2 hnew2 hone2 hcel2 => ?_))
@[simp] theorem d48 (n : Nat) (H : Heap) (a_lo : Int) (a_hi : Int) (b_lo : Int) (b_hi : Int) : doCall (calleeOf G (n + 1)) H (.pure (.func 48 [])) [.pure (.agg [.int .i64 a_lo, .int .i64 a_hi]), .pure (.agg [.int .i64 b_lo, .int .i64 b_hi])] = some (.val (.pure ((fun (a : Span) => (fun (b : Span) => .agg (coverS a b).cells) (⟨b_lo, b_hi⟩ : Span)) (⟨a_lo, a_hi⟩ : Span)))) :=
  call_pureC (ps := [_, _]) (caps := []) sh48 (e48 n (⟨a_lo, a_hi⟩ : Span) (⟨b_lo, b_hi⟩ : Span))
theorem sh16 : G.shared 16 = false := by decide
theorem e16 (n : Nat) (a b : Box) (ha : properS a = true) (hb : properS b = true) : callP G (n + 4) 16 [.agg a.cells, .agg b.cells] = some (.tup [.agg (coverB a b).cells, .bool true]) := by
  refine callP_of (ext_none _) rfl g16 rfl ?_
  (repeat' first | simp [*, initEnv, c16, Box.cells, coverB] | (refine wpIf_two (fun _ h => ?_) (fun _ h => ?_) <;> try simp [-Nat.le_zero_eq] at h) | (apply wpE_appendV; (focus (first | assumption | (repeat' first | assumption | with_reducible apply GrowV.setNew | with_reducible apply GrowV.alloc | with_reducible apply GrowV.set | (with_reducible show ¬ Names _ _; simp [*]; done)))); (focus (exact fun _ => rfl)); (focus decide); (focus (intro a; first | rfl | simp)); (focus (simp [maxCells] <;> omega))) | (refine after_intro fun v2 H2 hv2 hnx2 hget2 hnew2 hone2 hcel2 => ?_))
@[simp] theorem d16 (n : Nat) (H : Heap) (a_x_lo : Int) (a_x_hi : Int) (a_y_lo : Int) (a_y_hi : Int) (b_x_lo : Int) (b_x_hi : Int) (b_y_lo : Int) (b_y_hi : Int) (ha : (fun (a : Box) => properS a = true) (⟨⟨a_x_lo, a_x_hi⟩, ⟨a_y_lo, a_y_hi⟩⟩ : Box)) (hb : (fun (b : Box) => properS b = true) (⟨⟨b_x_lo, b_x_hi⟩, ⟨b_y_lo, b_y_hi⟩⟩ : Box)) : doCall (calleeOf G (n + 4)) H (.pure (.func 16 [])) [.pure (.agg [.int .i64 a_x_lo, .int .i64 a_x_hi, .int .i64 a_y_lo, .int .i64 a_y_hi]), .pure (.agg [.int .i64 b_x_lo, .int .i64 b_x_hi, .int .i64 b_y_lo, .int .i64 b_y_hi])] = some (.val (.pure ((fun (a : Box) => (fun (b : Box) => .tup [.agg (coverB a b).cells, .bool true]) (⟨⟨b_x_lo, b_x_hi⟩, ⟨b_y_lo, b_y_hi⟩⟩ : Box)) (⟨⟨a_x_lo, a_x_hi⟩, ⟨a_y_lo, a_y_hi⟩⟩ : Box)))) :=
  call_pureC (ps := [_, _]) (caps := []) sh16 (e16 n (⟨⟨a_x_lo, a_x_hi⟩, ⟨a_y_lo, a_y_hi⟩⟩ : Box) (⟨⟨b_x_lo, b_x_hi⟩, ⟨b_y_lo, b_y_hi⟩⟩ : Box) ha hb)
theorem sh47 : G.shared 47 = false := by decide
theorem e47 (n : Nat) (a b : Box) (ha : properR a = true) (hb : properR b = true) : callP G (n + 4) 47 [.agg a.cells, .agg b.cells] = some (.tup [.agg (coverB a b).cells, .bool true]) := by
  refine callP_of (ext_none _) rfl g47 rfl ?_
  (repeat' first | simp [*, initEnv, c47, Box.cells, coverB, coverS] | (refine wpIf_two (fun _ h => ?_) (fun _ h => ?_) <;> try simp [-Nat.le_zero_eq] at h) | (apply wpE_appendV; (focus (first | assumption | (repeat' first | assumption | with_reducible apply GrowV.setNew | with_reducible apply GrowV.alloc | with_reducible apply GrowV.set | (with_reducible show ¬ Names _ _; simp [*]; done)))); (focus (exact fun _ => rfl)); (focus decide); (focus (intro a; first | rfl | simp)); (focus (simp [maxCells] <;> omega))) | (refine after_intro fun v2 H2 hv2 hnx2 hget2 hnew2 hone2 hcel2 => ?_))
@[simp] theorem d47 (n : Nat) (H : Heap) (a_x_lo : Int) (a_x_hi : Int) (a_y_lo : Int) (a_y_hi : Int) (b_x_lo : Int) (b_x_hi : Int) (b_y_lo : Int) (b_y_hi : Int) (ha : (fun (a : Box) => properR a = true) (⟨⟨a_x_lo, a_x_hi⟩, ⟨a_y_lo, a_y_hi⟩⟩ : Box)) (hb : (fun (b : Box) => properR b = true) (⟨⟨b_x_lo, b_x_hi⟩, ⟨b_y_lo, b_y_hi⟩⟩ : Box)) : doCall (calleeOf G (n + 4)) H (.pure (.func 47 [])) [.pure (.agg [.int .i64 a_x_lo, .int .i64 a_x_hi, .int .i64 a_y_lo, .int .i64 a_y_hi]), .pure (.agg [.int .i64 b_x_lo, .int .i64 b_x_hi, .int .i64 b_y_lo, .int .i64 b_y_hi])] = some (.val (.pure ((fun (a : Box) => (fun (b : Box) => .tup [.agg (coverB a b).cells, .bool true]) (⟨⟨b_x_lo, b_x_hi⟩, ⟨b_y_lo, b_y_hi⟩⟩ : Box)) (⟨⟨a_x_lo, a_x_hi⟩, ⟨a_y_lo, a_y_hi⟩⟩ : Box)))) :=
  call_pureC (ps := [_, _]) (caps := []) sh47 (e47 n (⟨⟨a_x_lo, a_x_hi⟩, ⟨a_y_lo, a_y_hi⟩⟩ : Box) (⟨⟨b_x_lo, b_x_hi⟩, ⟨b_y_lo, b_y_hi⟩⟩ : Box) ha hb)

theorem proper_iff {b : Box} : properS b = true ↔ (-1048576 ≤ b.x.lo ∧ b.x.lo ≤ b.x.hi ∧ b.x.hi ≤ 1048576) ∧ (-1048576 ≤ b.y.lo ∧ b.y.lo ≤ b.y.hi ∧ b.y.hi ≤ 1048576) := by
  simp only [properS, spanS, Bool.and_eq_true, decide_eq_true_eq]
  omega
theorem cover_proper {a b : Box} (ha : properS a = true) (hb : properS b = true) : properS (coverB a b) = true := by
  rw [proper_iff] at *
  simp only [coverB, coverS]
  omega
theorem nar_proper {l : Life} {c : List Int} (hr : Right l) (hc : c.length + 1 = l.sights.xs.length) (hx : someS (narX l c) = true) (hy : someS (narY l c) = true) : ∀ b ∈ (narX l c).zipWith Box.mk (narY l c), properS b = true := by
  intro b hb
  obtain ⟨i, hi, rfl⟩ := List.mem_iff_getElem.1 hb
  have hi' : i < (narX l c).length ∧ i < (narY l c).length := by simp at hi; omega
  have hl : (narX l c).length = l.sights.xs.length := by simp [narX, roundsS_length]
  have hli : i < l.sights.xs.length := by omega
  have sx := rounds_sub (on := onX l c) (back := onX l c) (l := l.sights.xs.map (·.box.x)) (2 * l.sights.xs.length) c.length (by simp; omega) i (by simpa using hli)
  have sy := rounds_sub (on := onX l c) (back := onX l c) (l := l.sights.xs.map (·.box.y)) (2 * l.sights.xs.length) c.length (by simp; omega) i (by simpa using hli)
  have fx := (allL_full _).1 hx _ (List.getElem_mem hi'.1)
  have fy := (allL_full _).1 hy _ (List.getElem_mem hi'.2)
  have hs := hr.sp (List.getElem_mem hli)
  rw [getElem!_pos (roundsS _ _ _ _ _) i (by simpa [roundsS_length] using hli), getElem!_pos (l.sights.xs.map _) i (by simpa using hli)] at sx sy
  rw [proper_iff]
  simp only [List.getElem_zipWith]
  have ex : (narX l c)[i]'hi'.1 = (roundsS (onX l c) (onX l c) c.length (2 * l.sights.xs.length) (l.sights.xs.map (·.box.x)))[i]'(by simpa [roundsS_length] using hli) := rfl
  have ey : (narY l c)[i]'hi'.2 = (roundsS (onX l c) (onX l c) c.length (2 * l.sights.xs.length) (l.sights.xs.map (·.box.y)))[i]'(by simpa [roundsS_length] using hli) := rfl
  rw [ex] at fx ⊢
  rw [ey] at fy ⊢
  simp only [List.getElem_map] at sx sy
  unfold sub at sx sy
  unfold full at fx fy
  unfold okSp at hs
  omega
theorem tell_proper {l : Life} {c : List Int} (hr : Right l) (hc : c.length + 1 = l.sights.xs.length) {t : TellR} (ht : tellS l c = some t) : t.boxes.length = l.sights.xs.length ∧ ∀ b ∈ t.boxes, properS b = true := by
  rw [tell_can hr hc] at ht
  split at ht
  · rename_i h
    simp only [Option.some.injEq] at ht
    subst ht
    unfold canS at h
    simp only [Bool.and_eq_true] at h
    refine ⟨by simp [narX, narY, roundsS_length], nar_proper hr hc (by simp [h]) (by simp [h])⟩
  · simp at ht

/-! ### The fold over all courses -/
def boxesP (l : Life) (c : List Int) : Option (List Box) := (tellS l c).map (·.boxes)
def covO (B : List Box) : Option (List Box) → List Box
  | none => B
  | some A => A.zipWith coverB B
def extTo (f : List Int → Option (List Box)) (most : Int) (m : Nat) : Nat → Option (List Box)
  | 0 => none
  | j + 1 => match f (toC m j) with
    | none => extTo f most m j
    | some B => if most < chg (toC m j) then extTo f most m j else some (covO B (extTo f most m j))
def okBs (n : Nat) (B : List Box) : Prop := B.length = n ∧ ∀ b ∈ B, properS b = true
theorem okBs_cover {n : Nat} {A B : List Box} (ha : okBs n A) (hb : okBs n B) : okBs n (A.zipWith coverB B) := by
  refine ⟨by simp [ha.1, hb.1], fun b h => ?_⟩
  obtain ⟨i, hi, rfl⟩ := List.mem_iff_getElem.1 h
  rw [List.getElem_zipWith]
  exact cover_proper (ha.2 _ (List.getElem_mem _)) (hb.2 _ (List.getElem_mem _))
theorem extTo_ok {f : List Int → Option (List Box)} {most : Int} {m n : Nat} (hf : ∀ j B, f (toC m j) = some B → okBs n B) : ∀ j A, extTo f most m j = some A → okBs n A
  | 0, A, h => by simp [extTo] at h
  | j + 1, A, h => by
    have ih := extTo_ok (most := most) hf j
    rw [extTo] at h
    split at h
    · exact ih _ h
    · rename_i B hB
      have hb := hf _ _ hB
      split at h
      · exact ih _ h
      · simp only [Option.some.injEq] at h
        subst h
        cases hA : extTo f most m j with
        | none => exact hb
        | some A' => exact okBs_cover (ih _ hA) hb
theorem boxes_ok {l : Life} (hr : Right l) : ∀ j B, boxesP l (toC (l.sights.xs.length - 1) j) = some B → okBs l.sights.xs.length B := fun j B h => by
  have h1 := hr.one
  unfold boxesP at h
  rw [Option.map_eq_some_iff] at h
  obtain ⟨t, ht, rfl⟩ := h
  exact tell_proper hr (by rw [toC_length]; omega) ht

/-! ### Lists changed place by place -/
def mixG {α : Type} (Z B : List α) (i : Nat) : List α := Z.take i ++ B.drop i
section
variable {α : Type} {Z B : List α} {i : Nat}
theorem mixG_length (h : Z.length = B.length) (hi : i ≤ B.length) : (mixG Z B i).length = B.length := by simp [mixG]; omega
theorem mixG_get (h : Z.length = B.length) (hi : i < B.length) (hj : i < (mixG Z B i).length) : (mixG Z B i)[i] = B[i] := by
  simp only [mixG]
  rw [List.getElem_append_right (by simp; omega)]
  simp [Nat.min_eq_left (show i ≤ Z.length by omega)]
theorem mixG_set (h : Z.length = B.length) (hi : i < B.length) : (mixG Z B i).set i (Z[i]'(by omega)) = mixG Z B (i + 1) := by
  have hl : (Z.take i).length = i := by simp; omega
  simp only [mixG]
  rw [List.set_append_right _ _ (by omega), hl, Nat.sub_self, List.drop_eq_getElem_cons hi, List.set_cons_zero, ← take_succ' (by omega), List.append_assoc]
  rfl
theorem mixG_end (h : Z.length = B.length) (hi : i = B.length) : mixG Z B i = Z := by
  simp only [mixG]
  rw [List.take_of_length_le (by omega), List.drop_eq_nil_of_le (by omega), List.append_nil]
end
end Go.Proofs.YtnomliioadjdgaaGreat.Vm

namespace Go.Proofs.YtnomliioadjdgaaGreat.Vm
open Go
set_option linter.unusedSimpArgs false
set_option linter.unusedVariables false
set_option maxHeartbeats 4000000

@[simp] theorem vbin_nil_row (i s o n : Nat) : vbin .eql .slice (.row i s o n) (.pure .nils) = some (.pure (.bool false)) := vbin_slNil rfl
@[simp] theorem vbin_nil_nils : vbin .eql .slice (.pure .nils) (.pure .nils) = some (.pure (.bool true)) := vbin_slNil rfl
@[simp] theorem vbin_nil_sl {α : Type} (f : α → List PV) (sz : Nat) (s : Sl α) : vbin .eql .slice (.pure (s.pv f sz)) (.pure .nils) = some (.pure (.bool s.isNil)) := vbin_slNil (by simp)
def extPV : Option (List Box) → PV
  | none => .nils
  | some B => (Sl.mk false B).pv Box.cells 4
/-- What the loop over courses leaves in the box. -/
def extJ (m idc : Nat) (H : Heap) : Option (List Box) → Prop
  | none => H.get 0 = .cells true [.pure .nils]
  | some B => ∃ id, 1 < id ∧ id ≠ idc ∧ H.get 0 = .cells true [.row id 4 0 m] ∧ H.get id = .cells true (rowOf Box.cells B)
theorem extJ.stab {m idc : Nat} {H1 H2 : Heap} {o : Option (List Box)} (hi : 1 < idc) (h : extJ m idc H1 o) (hs : ∀ i, i < H1.nx → i ≠ idc → i ≠ 1 → H2.get i = H1.get i) : extJ m idc H2 o := by
  cases o with
  | none =>
    have h : H1.get 0 = _ := h
    show H2.get 0 = _
    rw [hs 0 (nx_of_get h) (by omega) (by omega)]; exact h
  | some c =>
    obtain ⟨id, h2, h3, h0, hg⟩ := h
    exact ⟨id, h2, h3, by rw [hs 0 (nx_of_get h0) (by omega) (by omega)]; exact h0, by rw [hs id (nx_of_get hg) h3 (by omega)]; exact hg⟩

theorem sh42 : G.shared 42 = false := by decide
theorem e42 (n : Nat) (l : Life) (most : Int) (hr : Right l) : callP G (n + 10) 42 [.agg l.cells, .int .i64 most] = some (extPV (extTo (boxesP l) most (l.sights.xs.length - 1) (3 ^ (l.sights.xs.length - 1)))) := by
  refine callP_of (ext_none _) rfl g42 rfl ?_
  have h1 := hr.one
  have h9 := hr.nine
  (repeat' first | simp [*, initEnv, c42] | (refine wpIf_two (fun _ h => ?_) (fun _ h => ?_) <;> try simp [-Nat.le_zero_eq] at h) | (apply wpE_appendV; (focus (first | assumption | (repeat' first | assumption | with_reducible apply GrowV.setNew | with_reducible apply GrowV.alloc | with_reducible apply GrowV.set | (with_reducible show ¬ Names _ _; simp [*]; done)))); (focus (exact fun _ => rfl)); (focus decide); (focus (intro a; first | rfl | simp)); (focus (simp [maxCells] <;> omega))) | (refine after_intro fun v2 H2 hv2 hnx2 hget2 hnew2 hone2 hcel2 => ?_))
  refine wp_coursesA (n := n) (l := l) hr (by simp) rfl (fun idc j H1 => 1 < idc ∧ extJ l.sights.xs.length idc H1 (extTo (boxesP l) most (l.sights.xs.length - 1) j)) ?_ ?_ ?_ ?_ ?_
  · rintro idc j H1 H2 ⟨hi, hJ⟩ hnx hsame
    exact ⟨hi, hJ.stab hi hsame⟩
  · intro idc hi
    exact ⟨by simpa using hi, by simp [extTo, extJ]⟩
  · rintro idc j H1 hj ht ⟨hi, hJ⟩
    refine ⟨hi, ?_⟩
    have : boxesP l (toC (l.sights.xs.length - 1) j) = none := by unfold boxesP; rw [ht]; rfl
    rw [extTo, this]; exact hJ
  · intro idc j t H1 hj ht hi hlt
    have hi2 : 1 < idc := by simpa using hi
    clear hi
    (repeat' first | simp [*, initEnv] | (refine wpIf_two (fun _ h => ?_) (fun _ h => ?_) <;> try simp [-Nat.le_zero_eq] at h) | (apply wpE_appendV; (focus (first | assumption | (repeat' first | assumption | with_reducible apply GrowV.setNew | with_reducible apply GrowV.alloc | with_reducible apply GrowV.set | (with_reducible show ¬ Names _ _; simp [*]; done)))); (focus (exact fun _ => rfl)); (focus decide); (focus (intro a; first | rfl | simp)); (focus (simp [maxCells] <;> omega))) | (refine after_intro fun v2 H2 hv2 hnx2 hget2 hnew2 hone2 hcel2 => ?_))
    refine ⟨fun i hi => by rw [get_set_ne (by omega), get_alloc_lt hi], ?_⟩
    rintro Hb hbx hbs hJ gc hnx
    have gt := hbs H1.nx (by omega)
    rw [get_set_own (by simp)] at gt
    have lt1 := nx_of_get gt
    clear hbs hbx
    have hcl := toC_length (l.sights.xs.length - 1) j
    have hB : boxesP l (toC (l.sights.xs.length - 1) j) = some t.boxes := by unfold boxesP; rw [ht]; rfl
    obtain ⟨hbl, hbp⟩ := tell_proper hr (by omega) ht
    have hst : Hide (extTo (boxesP l) most (l.sights.xs.length - 1) (j + 1) = if most < chg (toC (l.sights.xs.length - 1) j) then extTo (boxesP l) most (l.sights.xs.length - 1) j else some (covO t.boxes (extTo (boxesP l) most (l.sights.xs.length - 1) j))) := ⟨by rw [extTo, hB]⟩
    have hAo : Hide (∀ A, extTo (boxesP l) most (l.sights.xs.length - 1) j = some A → okBs l.sights.xs.length A) := ⟨fun A => extTo_ok (boxes_ok hr) j A⟩
    obtain ⟨s1, hs1, hf1⟩ := row_sl (f := intF) (sz := 1) (n := 10) (fun _ => rfl) gc hcl
    have hc1 : callP G (n + 7) 76 [s1.pv intF 1] = some (.int .i64 (chg (toC (l.sights.xs.length - 1) j))) := by
      have := e76 (n + 6) s1 (by rw [hs1]; omega)
      rw [hs1] at this; exact this
    have hbT : t.told.boxes = Sl.mk false t.boxes := by
      show Sl.of t.boxes = _
      cases hb : t.boxes with
      | nil => rw [hb] at hbl; simp at hbl; omega
      | cons b bs => rfl
    rw [hbT] at gt
    generalize t.boxes = B at *
    generalize t.told.heights = Hs at *
    generalize t.told.letters = Ls at *
    generalize hO : extTo (boxesP l) most (l.sights.xs.length - 1) j = O at *
    generalize hm : l.sights.xs.length - 1 = m at *
    generalize hC : toC m j = C at *
    have hbp' : Hide _ := ⟨hbp⟩
    clear hO hC hj ht hlt hB hbT hbp
    (repeat' first | simp [*, initEnv] | (refine wpIf_two (fun _ h => ?_) (fun _ h => ?_) <;> try simp [-Nat.le_zero_eq] at h) | (apply wpE_appendV; (focus (first | assumption | (repeat' first | assumption | with_reducible apply GrowV.setNew | with_reducible apply GrowV.alloc | with_reducible apply GrowV.set | (with_reducible show ¬ Names _ _; simp [*]; done)))); (focus (exact fun _ => rfl)); (focus decide); (focus (intro a; first | rfl | simp)); (focus (simp [maxCells] <;> omega))) | (refine after_intro fun v2 H2 hv2 hnx2 hget2 hnew2 hone2 hcel2 => ?_))
    refine wpE_own (caps := []) (by decide) (.cons hf1 .nil) hc1 rfl ?_
    (repeat' first | simp [*, initEnv] | (refine wpIf_two (fun _ h => ?_) (fun _ h => ?_) <;> try simp [-Nat.le_zero_eq] at h) | (apply wpE_appendV; (focus (first | assumption | (repeat' first | assumption | with_reducible apply GrowV.setNew | with_reducible apply GrowV.alloc | with_reducible apply GrowV.set | (with_reducible show ¬ Names _ _; simp [*]; done)))); (focus (exact fun _ => rfl)); (focus decide); (focus (intro a; first | rfl | simp)); (focus (simp [maxCells] <;> omega))) | (refine after_intro fun v2 H2 hv2 hnx2 hget2 hnew2 hone2 hcel2 => ?_))
    · rename_i h
      rw [hst.h, if_pos h]; exact hJ
    · have hst2 : Hide (extTo (boxesP l) most m (j + 1) = some (covO B O)) := ⟨by rw [hst.h, if_neg (by omega)]⟩
      clear hst hf1 hc1 hs1
      generalize extTo (boxesP l) most m (j + 1) = O2 at *
      generalize hN : l.sights.xs.length = N at *
      cases O with
      | none =>
        have hJ : Hb.get 0 = .cells true [.pure .nils] := hJ
        have hL : O2 = some B := hst2.h
        subst hL
        have hsc : ∀ H, sliceCells H 4 (.pure ((Sl.mk false B).pv Box.cells 4)) = some (rowOf Box.cells B, B.length) := fun H => sliceCells_sl' (f := Box.cells) (sz := 4) (fun _ => rfl) _
        have hsc' : Hide _ := ⟨hsc⟩
        clear hsc hst2 hAo
        (repeat' first | simp [*, initEnv] | (refine wpIf_two (fun _ h => ?_) (fun _ h => ?_) <;> try simp [-Nat.le_zero_eq] at h) | (apply wpE_appendV; (focus (first | assumption | (repeat' first | assumption | with_reducible apply GrowV.setNew | with_reducible apply GrowV.alloc | with_reducible apply GrowV.set | (with_reducible show ¬ Names _ _; simp [*]; done)))); (focus (exact fun _ => rfl)); (focus decide); (focus (intro a; first | rfl | simp)); (focus (simp [maxCells] <;> omega))) | (refine after_intro fun v2 H2 hv2 hnx2 hget2 hnew2 hone2 hcel2 => ?_))
        refine wpE_run (caps := []) (by decide) ?_
        refine clone_call (b := false) (fun _ => rfl) g89 (hsc'.h _) rfl (fun h => by cases h) (fun _ => rfl) (by decide) (fun _ => rfl) (by simp [maxCells]; omega) ?_
        rintro v' H' hov hnl hx hsame hnew
        rcases hov with h | ⟨id', hv, g'⟩
        · exfalso; obtain ⟨ha, hb⟩ := h; rw [hb] at hnl; simp [isNil] at hnl
        subst hv
        have hid' : Hb.nx ≤ id' := hnew id' ⟨_, _, _, rfl⟩
        have g0' : H'.get 0 = .cells true [.pure .nils] := by rw [hsame 0 (by omega)]; exact hJ
        have gc' : H'.get idc = .cells true (rowOf intF C) := by rw [hsame idc (nx_of_get gc)]; exact gc
        have g1' : Hide (H'.get 1 = Hb.get 1) := ⟨hsame 1 hnx⟩
        have l0 := nx_of_get g0'
        have lc := nx_of_get gc
        have n0 : ¬ (0 = id') := by omega
        have nc : ¬ (id' = idc) := by omega
        have c0 : ¬ (idc = 0) := by omega
        clear gc hsame hnew hnl hsc' hJ
        (repeat' first | simp [*, initEnv] | (refine wpIf_two (fun _ h => ?_) (fun _ h => ?_) <;> try simp [-Nat.le_zero_eq] at h) | (apply wpE_appendV; (focus (first | assumption | (repeat' first | assumption | with_reducible apply GrowV.setNew | with_reducible apply GrowV.alloc | with_reducible apply GrowV.set | (with_reducible show ¬ Names _ _; simp [*]; done)))); (focus (exact fun _ => rfl)); (focus decide); (focus (intro a; first | rfl | simp)); (focus (simp [maxCells] <;> omega))) | (refine after_intro fun v2 H2 hv2 hnx2 hget2 hnew2 hone2 hcel2 => ?_))
        refine ⟨g1'.h, id', by omega, nc, by simp [*], ?_⟩
        rw [get_set_ne (by omega)]; exact g'
      | some A =>
        obtain ⟨id, i2, i3, g0, gi⟩ := hJ
        have hL : O2 = some (A.zipWith coverB B) := hst2.h
        subst hL
        obtain ⟨hAl, hAp⟩ := hAo.h A rfl
        have hAp' : Hide _ := ⟨hAp⟩
        obtain ⟨Z, hZ⟩ : ∃ Z, Z = A.zipWith coverB B := ⟨_, rfl⟩
        have hZl : Z.length = A.length := by rw [hZ]; simp; omega
        have hZg : Hide (∀ (k : Nat) (h : k < Z.length), Z[k] = coverB (A[k]'(by omega)) (B[k]'(by omega))) := ⟨fun k h => by subst hZ; simp⟩
        rw [← hZ]
        clear hst2 hAo hAp hZ
        have l0 := nx_of_get g0
        have li := nx_of_get gi
        have lc := nx_of_get gc
        have nt : ¬ (H1.nx = 0) := by intro e; rw [e, g0] at gt; simp at gt
        have nt1 : ¬ (H1.nx = id) := by
          intro e
          rw [e, gi] at gt
          simp only [AObj.cells.injEq, true_and] at gt
          have := congrArg List.length gt
          rw [rowOf_length (sz := 4) (fun _ => rfl)] at this
          simp at this
          omega
        (repeat' first | simp [*, initEnv] | (refine wpIf_two (fun _ h => ?_) (fun _ h => ?_) <;> try simp [-Nat.le_zero_eq] at h) | (apply wpE_appendV; (focus (first | assumption | (repeat' first | assumption | with_reducible apply GrowV.setNew | with_reducible apply GrowV.alloc | with_reducible apply GrowV.set | (with_reducible show ¬ Names _ _; simp [*]; done)))); (focus (exact fun _ => rfl)); (focus decide); (focus (intro a; first | rfl | simp)); (focus (simp [maxCells] <;> omega))) | (refine after_intro fun v2 H2 hv2 hnx2 hget2 hnew2 hone2 hcel2 => ?_))
        refine wp_loopF [(8, 8), (15, 34)] (fun (k : Nat) env H3 => env 15 = .pure (.int .i64 k) ∧ k ≤ N ∧ H3.nx = Hb.nx ∧ H3.get 0 = .cells true [.row id 4 0 N] ∧ H3.get id = .cells true (rowOf Box.cells (mixG Z A k)) ∧ H3.get idc = .cells true (rowOf intF C) ∧ H3.get 1 = Hb.get 1 ∧
          H3.get H1.nx = .cells true [.pure ((Sl.mk false B).pv Box.cells 4), .pure (Hs.pv Span.cells 2), .pure (Ls.pv strF 1)]) (fun k => N - k) 0 ?_ ?_ ?_ ?_
        · decide
        · exact ⟨by simp, Nat.zero_le _, rfl, g0, by simpa [mixG] using gi, gc, rfl, gt⟩
        · simp only [loopFuel]; omega
        rintro k env H3 ⟨h15, hk, gn, k0, ki, kc, k1, kt⟩
        have hfit : k < 9223372036854775807 := by omega
        by_cases hkN : k < N
        · have hXl := mixG_length (Z := Z) (B := A) (i := k) hZl (by omega)
          have hXg := mixG_get (Z := Z) (B := A) (i := k) hZl (by omega) (by omega)
          have hXs := mixG_set (Z := Z) (B := A) (i := k) hZl (by omega)
          rw [hZg.h k (by omega)] at hXs
          rw [hAl] at hXl
          obtain ⟨X, kX, hXl, hXg, hXs⟩ : ∃ X : List Box, H3.get id = .cells true (rowOf Box.cells X) ∧ X.length = N ∧ (∀ h, X[k]'h = A[k]'(by omega)) ∧ X.set k (coverB (A[k]'(by omega)) (B[k]'(by omega))) = mixG Z A (k + 1) := ⟨_, ki, hXl, fun _ => hXg, hXs⟩
          have hXg' := hXg (by omega)
          have hcov : ∀ H, doCall (calleeOf G (n + 7)) H (.pure (.func 16 [])) [.pure (.agg (A[k]'(by omega)).cells), .pure (.agg (B[k]'(by omega)).cells)] = some (.val (.pure (.tup [.agg (coverB (A[k]'(by omega)) (B[k]'(by omega))).cells, .bool true]))) := fun H =>
            d16 (n + 3) H _ _ _ _ _ _ _ _ (hAp'.h _ (List.getElem_mem _)) (hbp'.h _ (List.getElem_mem _))
          simp only [Box.cells] at hcov
          have hXs' : Hide _ := ⟨hXs⟩
          have li3 := nx_of_get kX
          have ni0 : ¬ (0 = id) := by omega
          have ni1 : ¬ (1 = id) := by omega
          have nic : ¬ (idc = id) := fun e => i3 e.symm
          clear hXs hXg ki gi g0 gc gt hAp' hbp' hZg
          (repeat' first | simp [*, initEnv] | (refine wpIf_two (fun _ h => ?_) (fun _ h => ?_) <;> try simp [-Nat.le_zero_eq] at h) | (apply wpE_appendV; (focus (first | assumption | (repeat' first | assumption | with_reducible apply GrowV.setNew | with_reducible apply GrowV.alloc | with_reducible apply GrowV.set | (with_reducible show ¬ Names _ _; simp [*]; done)))); (focus (exact fun _ => rfl)); (focus decide); (focus (intro a; first | rfl | simp)); (focus (simp [maxCells] <;> omega))) | (refine after_intro fun v2 H2 hv2 hnx2 hget2 hnew2 hone2 hcel2 => ?_))
          exact ⟨k + 1, by omega, by simp, by omega, by rw [hXs'.h]⟩
        · have hie : k = N := by omega
          have hXe := mixG_end (Z := Z) (B := A) (i := k) hZl (by omega)
          rw [hXe] at ki
          (repeat' first | simp [*, initEnv] | (refine wpIf_two (fun _ h => ?_) (fun _ h => ?_) <;> try simp [-Nat.le_zero_eq] at h) | (apply wpE_appendV; (focus (first | assumption | (repeat' first | assumption | with_reducible apply GrowV.setNew | with_reducible apply GrowV.alloc | with_reducible apply GrowV.set | (with_reducible show ¬ Names _ _; simp [*]; done)))); (focus (exact fun _ => rfl)); (focus decide); (focus (intro a; first | rfl | simp)); (focus (simp [maxCells] <;> omega))) | (refine after_intro fun v2 H2 hv2 hnx2 hget2 hnew2 hone2 hcel2 => ?_))
          exact ⟨id, i2, i3, k0, ki⟩
  · rintro idc H' ⟨hi, hJ⟩
    cases ho : extTo (boxesP l) most (l.sights.xs.length - 1) (3 ^ (l.sights.xs.length - 1)) with
    | none =>
      rw [ho] at hJ
      have hJ : H'.get 0 = _ := hJ
      (repeat' first | simp [*, initEnv, extPV] | (refine wpIf_two (fun _ h => ?_) (fun _ h => ?_) <;> try simp [-Nat.le_zero_eq] at h) | (apply wpE_appendV; (focus (first | assumption | (repeat' first | assumption | with_reducible apply GrowV.setNew | with_reducible apply GrowV.alloc | with_reducible apply GrowV.set | (with_reducible show ¬ Names _ _; simp [*]; done)))); (focus (exact fun _ => rfl)); (focus decide); (focus (intro a; first | rfl | simp)); (focus (simp [maxCells] <;> omega))) | (refine after_intro fun v2 H2 hv2 hnx2 hget2 hnew2 hone2 hcel2 => ?_))
    | some B =>
      rw [ho] at hJ
      obtain ⟨id, i2, i3, g0, gi⟩ := hJ
      have hl := (extTo_ok (boxes_ok hr) _ _ ho).1
      obtain ⟨ids, hids⟩ := row_res (f := Box.cells) (sz := 4) (n := 10) (fun _ => rfl) gi hl
      (repeat' first | simp [*, initEnv, extPV] | (refine wpIf_two (fun _ h => ?_) (fun _ h => ?_) <;> try simp [-Nat.le_zero_eq] at h) | (apply wpE_appendV; (focus (first | assumption | (repeat' first | assumption | with_reducible apply GrowV.setNew | with_reducible apply GrowV.alloc | with_reducible apply GrowV.set | (with_reducible show ¬ Names _ _; simp [*]; done)))); (focus (exact fun _ => rfl)); (focus decide); (focus (intro a; first | rfl | simp)); (focus (simp [maxCells] <;> omega))) | (refine after_intro fun v2 H2 hv2 hnx2 hget2 hnew2 hone2 hcel2 => ?_))
      exact ⟨ids, hids⟩
@[simp] theorem d42 (n : Nat) (H : Heap) (l_habit_step : Int) (l_habit_place : Int) (l_habit_sink : Int) (l_sights : Sl Sight) (l_notes : Sl Note) (most : Int) (hr : (fun (l : Life) => Right l) (⟨⟨l_habit_step, l_habit_place, l_habit_sink⟩, l_sights, l_notes⟩ : Life)) : doCall (calleeOf G (n + 10)) H (.pure (.func 42 [])) [.pure (.agg [.int .i64 l_habit_step, .int .i64 l_habit_place, .int .i64 l_habit_sink, (l_sights).pv Sight.cells 9, (l_notes).pv Note.cells 4]), .pure (.int .i64 most)] = some (.val (.pure ((fun (l : Life) => extPV (extTo (boxesP l) most (l.sights.xs.length - 1) (3 ^ (l.sights.xs.length - 1)))) (⟨⟨l_habit_step, l_habit_place, l_habit_sink⟩, l_sights, l_notes⟩ : Life)))) :=
  call_pureC (ps := [_, _]) (caps := []) sh42 (e42 n (⟨⟨l_habit_step, l_habit_place, l_habit_sink⟩, l_sights, l_notes⟩ : Life) most hr)
end Go.Proofs.YtnomliioadjdgaaGreat.Vm

namespace Go.Proofs.YtnomliioadjdgaaGreat.Vm
open Go
set_option linter.unusedSimpArgs false
set_option linter.unusedVariables false
set_option maxHeartbeats 4000000

def extL (l : Life) (most : Int) : Option (List Box) := extTo (boxesP l) most (l.sights.xs.length - 1) (3 ^ (l.sights.xs.length - 1))
theorem extL_ok {l : Life} (hr : Right l) {most : Int} {B : List Box} (h : extL l most = some B) : okBs l.sights.xs.length B := extTo_ok (boxes_ok hr) _ _ h
def extE (l : Life) (most : Int) : PV := if checkS l = 0 then (if most < 0 then .tup [.nils, .int .i64 1] else match extL l most with
  | none => .tup [.nils, .int .i64 9]
  | some B => .tup [(Sl.mk false B).pv Box.cells 4, .int .i64 0]) else .tup [.nils, .int .i64 (checkS l)]
theorem sh10 : G.shared 10 = false := by decide
theorem e10 (n : Nat) (l : Life) (most : Int) (hs : shortS l) : callP G (n + 11) 10 [.agg l.cells, .int .i64 most] = some (extE l most) := by
  refine callP_of (ext_none _) rfl g10 rfl ?_
  have hcc : ∀ H, doCall (calleeOf G (n + 10)) H (.pure (.func 41 [])) [.pure (.agg l.cells)] = some (.val (.pure (.int .i64 (checkS l)))) := fun H => d41 (n + 5) H l.habit.step l.habit.place l.habit.sink l.sights l.notes hs
  simp only [Life.cells] at hcc
  by_cases hck : checkS l = 0
  · have hr := (right_iff l).1 hck
    have hc : ∀ H, doCall (calleeOf G (n + 10)) H (.pure (.func 42 [])) [.pure (.agg l.cells), .pure (.int .i64 most)] = some (.val (.pure (extPV (extL l most)))) := fun H => d42 n H l.habit.step l.habit.place l.habit.sink l.sights l.notes most hr
    simp only [Life.cells] at hc
    cases ho : extL l most with
    | none =>
      rw [ho] at hc
      (repeat' first | simp [*, initEnv, c10, extPV, extE] | (refine wpIf_two (fun _ h => ?_) (fun _ h => ?_) <;> try simp [-Nat.le_zero_eq] at h) | (apply wpE_appendV; (focus (first | assumption | (repeat' first | assumption | with_reducible apply GrowV.setNew | with_reducible apply GrowV.alloc | with_reducible apply GrowV.set | (with_reducible show ¬ Names _ _; simp [*]; done)))); (focus (exact fun _ => rfl)); (focus decide); (focus (intro a; first | rfl | simp)); (focus (simp [maxCells] <;> omega))) | (refine after_intro fun v2 H2 hv2 hnx2 hget2 hnew2 hone2 hcel2 => ?_))
    | some B =>
      rw [ho] at hc
      (repeat' first | simp [*, initEnv, c10, extPV, extE, Sl.isNil] | (refine wpIf_two (fun _ h => ?_) (fun _ h => ?_) <;> try simp [-Nat.le_zero_eq] at h) | (apply wpE_appendV; (focus (first | assumption | (repeat' first | assumption | with_reducible apply GrowV.setNew | with_reducible apply GrowV.alloc | with_reducible apply GrowV.set | (with_reducible show ¬ Names _ _; simp [*]; done)))); (focus (exact fun _ => rfl)); (focus decide); (focus (intro a; first | rfl | simp)); (focus (simp [maxCells] <;> omega))) | (refine after_intro fun v2 H2 hv2 hnx2 hget2 hnew2 hone2 hcel2 => ?_))
  · (repeat' first | simp [*, initEnv, c10, extE] | (refine wpIf_two (fun _ h => ?_) (fun _ h => ?_) <;> try simp [-Nat.le_zero_eq] at h) | (apply wpE_appendV; (focus (first | assumption | (repeat' first | assumption | with_reducible apply GrowV.setNew | with_reducible apply GrowV.alloc | with_reducible apply GrowV.set | (with_reducible show ¬ Names _ _; simp [*]; done)))); (focus (exact fun _ => rfl)); (focus decide); (focus (intro a; first | rfl | simp)); (focus (simp [maxCells] <;> omega))) | (refine after_intro fun v2 H2 hv2 hnx2 hget2 hnew2 hone2 hcel2 => ?_))
@[simp] theorem d10 (n : Nat) (H : Heap) (l_habit_step : Int) (l_habit_place : Int) (l_habit_sink : Int) (l_sights : Sl Sight) (l_notes : Sl Note) (most : Int) (hs : (fun (l : Life) => shortS l) (⟨⟨l_habit_step, l_habit_place, l_habit_sink⟩, l_sights, l_notes⟩ : Life)) : doCall (calleeOf G (n + 11)) H (.pure (.func 10 [])) [.pure (.agg [.int .i64 l_habit_step, .int .i64 l_habit_place, .int .i64 l_habit_sink, (l_sights).pv Sight.cells 9, (l_notes).pv Note.cells 4]), .pure (.int .i64 most)] = some (.val (.pure ((fun (l : Life) => extE l most) (⟨⟨l_habit_step, l_habit_place, l_habit_sink⟩, l_sights, l_notes⟩ : Life)))) :=
  call_pureC (ps := [_, _]) (caps := []) sh10 (e10 n (⟨⟨l_habit_step, l_habit_place, l_habit_sink⟩, l_sights, l_notes⟩ : Life) most hs)
/-- The place of the first sight that is not before a year. -/
def geI (y : Int) : List Sight → Nat
  | [] => 0
  | s :: r => if s.year < y then geI y r + 1 else 0
theorem geI_lt {y : Int} : ∀ {l : List Sight}, (∃ s ∈ l, y ≤ s.year) → geI y l < l.length ∧ (∀ i, idxL (fun s : Sight => decide (y ≤ s.year)) l i = (i : Int) + geI y l) ∧ (∀ k (h : k < l.length), k < geI y l → l[k].year < y) ∧ ∀ (h : geI y l < l.length), y ≤ l[geI y l].year
  | [], h => by simp at h
  | s :: r, h => by
    by_cases hs : s.year < y
    · have h' : ∃ s ∈ r, y ≤ s.year := by
        obtain ⟨t, ht, hy⟩ := h
        rcases List.mem_cons.1 ht with rfl | ht
        · omega
        · exact ⟨t, ht, hy⟩
      obtain ⟨i1, i2, i3, i4⟩ := geI_lt h'
      have e : geI y (s :: r) = geI y r + 1 := by rw [geI, if_pos hs]
      refine ⟨by rw [e]; simp; omega, fun i => ?_, fun k hk hlt => ?_, fun hlt => ?_⟩
      · rw [idxL, if_neg (by simp; omega), i2, e]; push_cast; omega
      · cases k with
        | zero => exact hs
        | succ k => exact i3 k (by simpa using hk) (by omega)
      · simp only [e, List.getElem_cons_succ]; exact i4 _
    · have e : geI y (s :: r) = 0 := by rw [geI, if_neg hs]
      refine ⟨by rw [e]; simp, fun i => ?_, fun k hk hlt => by omega, fun hlt => ?_⟩
      · rw [idxL, if_pos (by simp; omega), e]; simp
      · simp only [e, List.getElem_cons_zero]; omega
def zeroB : Box := ⟨⟨0, 0⟩, ⟨0, 0⟩⟩
def inS (l : Life) (y most : Int) : Box × Int := if checkS l = 0 then (if most < 0 then (zeroB, 1) else if y < (l.sights.xs[0]!).year ∨ (l.sights.xs[l.sights.xs.length - 1]!).year < y then (zeroB, 5) else match extL l most with
  | none => (zeroB, 9)
  | some B => if (l.sights.xs[geI y l.sights.xs]!).year = y then (B[geI y l.sights.xs]!, 0) else (coverB (B[geI y l.sights.xs - 1]!) (B[geI y l.sights.xs]!), 0)) else (zeroB, checkS l)
theorem sh46 : G.shared 46 = false := by decide
theorem e46 (n : Nat) (s : Sight) (y : Int) : callP G (n + 1) 46 [.agg s.cells, .ptr false [.int .i64 y] 0] = some (.bool (decide (y ≤ s.year))) := by
  refine callP_of (ext_none _) rfl g46 rfl ?_
  (repeat' first | simp [*, initEnv, c46] | (refine wpIf_two (fun _ h => ?_) (fun _ h => ?_) <;> try simp [-Nat.le_zero_eq] at h) | (apply wpE_appendV; (focus (first | assumption | (repeat' first | assumption | with_reducible apply GrowV.setNew | with_reducible apply GrowV.alloc | with_reducible apply GrowV.set | (with_reducible show ¬ Names _ _; simp [*]; done)))); (focus (exact fun _ => rfl)); (focus decide); (focus (intro a; first | rfl | simp)); (focus (simp [maxCells] <;> omega))) | (refine after_intro fun v2 H2 hv2 hnx2 hget2 hnew2 hone2 hcel2 => ?_))
@[simp] theorem d46 (n : Nat) (H : Heap) (s_id : Int) (s_year : Int) (s_box_x_lo : Int) (s_box_x_hi : Int) (s_box_y_lo : Int) (s_box_y_hi : Int) (s_letters : List UInt8) (s_height_lo : Int) (s_height_hi : Int) (y : Int) : doCall (calleeOf G (n + 1)) H (.pure (.func 46 [.ptr false [.int .i64 y] 0])) [.pure (.agg [.int .i64 s_id, .int .i64 s_year, .int .i64 s_box_x_lo, .int .i64 s_box_x_hi, .int .i64 s_box_y_lo, .int .i64 s_box_y_hi, .str ⟨(s_letters).toArray⟩, .int .i64 s_height_lo, .int .i64 s_height_hi])] = some (.val (.pure ((fun (s : Sight) => .bool (decide (y ≤ s.year))) (⟨s_id, s_year, ⟨⟨s_box_x_lo, s_box_x_hi⟩, ⟨s_box_y_lo, s_box_y_hi⟩⟩, s_letters, ⟨s_height_lo, s_height_hi⟩⟩ : Sight)))) :=
  call_pureC (ps := [_]) (caps := [_]) sh46 (e46 n (⟨s_id, s_year, ⟨⟨s_box_x_lo, s_box_x_hi⟩, ⟨s_box_y_lo, s_box_y_hi⟩⟩, s_letters, ⟨s_height_lo, s_height_hi⟩⟩ : Sight) y)
theorem idx_in (n : Nat) (s : Sl Sight) (y : Int) (hl : s.xs.length < 1000) (H : Heap) : doCall (calleeOf G (n + 3)) H (.pure (.func 45 [])) [.pure (s.pv Sight.cells 9), .pure (.func 46 [.ptr false [.int .i64 y] 0])] = some (.val (.pure (.int .i64 (idxL (fun s : Sight => decide (y ≤ s.year)) s.xs 0)))) := by
  have h := indexFunc_call (n := n + 2) (f := Sight.cells) (sz := 9) (g := true) (p := .func 46 [.ptr false [.int .i64 y] 0]) (q := fun s : Sight => decide (y ≤ s.year)) (s := s) (ext_none 45) (fun _ _ => rfl) g45 (fun _ => rfl) (by omega)
    (fun H a ha => ⟨.pure (.agg a.cells), rfl, d46 (n + 1) H a.id a.year a.box.x.lo a.box.x.hi a.box.y.lo a.box.y.hi a.letters a.height.lo a.height.hi y⟩)
  exact call_pure (ps := [_, _]) (by decide) h
theorem sh12 : G.shared 12 = false := by decide
theorem e12 (n : Nat) (l : Life) (y most : Int) (hs : shortS l) : callP G (n + 12) 12 [.agg l.cells, .int .i64 y, .int .i64 most] = some (.tup [.agg (inS l y most).1.cells, .int .i64 (inS l y most).2]) := by
  refine callP_of (ext_none _) rfl g12 rfl ?_
  have hcc : ∀ H, doCall (calleeOf G (n + 11)) H (.pure (.func 41 [])) [.pure (.agg l.cells)] = some (.val (.pure (.int .i64 (checkS l)))) := fun H => d41 (n + 6) H l.habit.step l.habit.place l.habit.sink l.sights l.notes hs
  simp only [Life.cells] at hcc
  by_cases hck : checkS l = 0
  case neg =>
    have hP : inS l y most = (zeroB, checkS l) := by unfold inS; rw [if_neg hck]
    rw [hP]
    (repeat' first | simp [*, initEnv, c12, zeroB] | (refine wpIf_two (fun _ h => ?_) (fun _ h => ?_) <;> try simp [-Nat.le_zero_eq] at h) | (apply wpE_appendV; (focus (first | assumption | (repeat' first | assumption | with_reducible apply GrowV.setNew | with_reducible apply GrowV.alloc | with_reducible apply GrowV.set | (with_reducible show ¬ Names _ _; simp [*]; done)))); (focus (exact fun _ => rfl)); (focus decide); (focus (intro a; first | rfl | simp)); (focus (simp [maxCells] <;> omega))) | (refine after_intro fun v2 H2 hv2 hnx2 hget2 hnew2 hone2 hcel2 => ?_))
  have hr := (right_iff l).1 hck
  have h1 := hr.one
  have h9 := hr.nine
  have hc : ∀ H, doCall (calleeOf G (n + 11)) H (.pure (.func 42 [])) [.pure (.agg l.cells), .pure (.int .i64 most)] = some (.val (.pure (extPV (extL l most)))) := fun H => d42 (n + 1) H l.habit.step l.habit.place l.habit.sink l.sights l.notes most hr
  have hidx0 : Hide _ := ⟨idx_in (n + 8) l.sights y (by omega)⟩
  have hw : IntKind.i64.wrap ((l.sights.xs.length : Int) - 1) = ((l.sights.xs.length - 1 : Nat) : Int) := wrap_pred (by omega) (by omega)
  have hl0 : 0 < l.sights.xs.length := by omega
  have hl1 : l.sights.xs.length - 1 < l.sights.xs.length := by omega
  have ha0 : addrV 9 (.pure (l.sights.pv Sight.cells 9)) (.pure (.int .i64 0)) = some (.val (.pure (.ptr l.sights.hot (l.sights.xs[0]'hl0).cells 0))) := addrV_sl (n := 0) hl0
  have hP : Hide (inS l y most = if most < 0 then ((zeroB, 1) : Box × Int) else if y < (l.sights.xs[0]'hl0).year ∨ (l.sights.xs[l.sights.xs.length - 1]'hl1).year < y then (zeroB, 5) else match extL l most with
    | none => (zeroB, 9)
    | some B => if (l.sights.xs[geI y l.sights.xs]!).year = y then (B[geI y l.sights.xs]!, 0) else (coverB (B[geI y l.sights.xs - 1]!) (B[geI y l.sights.xs]!), 0)) := ⟨by
      unfold inS
      rw [if_pos hck, getElem!_pos l.sights.xs 0 hl0, getElem!_pos l.sights.xs (l.sights.xs.length - 1) hl1]⟩
  generalize inS l y most = P at *
  simp only [Life.cells] at hc
  simp only [Sight.cells] at ha0
  rw [hck] at hcc
  clear hck
  by_cases hm : most < 0
  · have hP2 : P = (zeroB, 1) := by rw [hP.h, if_pos hm]
    subst hP2
    (repeat' first | simp [*, initEnv, c12, zeroB] | (refine wpIf_two (fun _ h => ?_) (fun _ h => ?_) <;> try simp [-Nat.le_zero_eq] at h) | (apply wpE_appendV; (focus (first | assumption | (repeat' first | assumption | with_reducible apply GrowV.setNew | with_reducible apply GrowV.alloc | with_reducible apply GrowV.set | (with_reducible show ¬ Names _ _; simp [*]; done)))); (focus (exact fun _ => rfl)); (focus decide); (focus (intro a; first | rfl | simp)); (focus (simp [maxCells] <;> omega))) | (refine after_intro fun v2 H2 hv2 hnx2 hget2 hnew2 hone2 hcel2 => ?_))
  by_cases hy : y < (l.sights.xs[0]'hl0).year ∨ (l.sights.xs[l.sights.xs.length - 1]'hl1).year < y
  · have hP2 : P = (zeroB, 5) := by rw [hP.h, if_neg hm, if_pos hy]
    subst hP2
    rcases hy with hy | hy
    · (repeat' first | simp [*, initEnv, c12, zeroB] | (refine wpIf_two (fun _ h => ?_) (fun _ h => ?_) <;> try simp [-Nat.le_zero_eq] at h) | (apply wpE_appendV; (focus (first | assumption | (repeat' first | assumption | with_reducible apply GrowV.setNew | with_reducible apply GrowV.alloc | with_reducible apply GrowV.set | (with_reducible show ¬ Names _ _; simp [*]; done)))); (focus (exact fun _ => rfl)); (focus decide); (focus (intro a; first | rfl | simp)); (focus (simp [maxCells] <;> omega))) | (refine after_intro fun v2 H2 hv2 hnx2 hget2 hnew2 hone2 hcel2 => ?_))
    · (repeat' first | simp [*, initEnv, c12, zeroB] | (refine wpIf_two (fun _ h => ?_) (fun _ h => ?_) <;> try simp [-Nat.le_zero_eq] at h) | (apply wpE_appendV; (focus (first | assumption | (repeat' first | assumption | with_reducible apply GrowV.setNew | with_reducible apply GrowV.alloc | with_reducible apply GrowV.set | (with_reducible show ¬ Names _ _; simp [*]; done)))); (focus (exact fun _ => rfl)); (focus decide); (focus (intro a; first | rfl | simp)); (focus (simp [maxCells] <;> omega))) | (refine after_intro fun v2 H2 hv2 hnx2 hget2 hnew2 hone2 hcel2 => ?_))
  have hm' : 0 ≤ most := by omega
  have hyl : (l.sights.xs[0]'hl0).year ≤ y := by omega
  have hyh : y ≤ (l.sights.xs[l.sights.xs.length - 1]'hl1).year := by omega
  have hy1 : ¬ y < (l.sights.xs[0]'hl0).year := by omega
  have hy2 : ¬ (l.sights.xs[l.sights.xs.length - 1]'hl1).year < y := by omega
  cases hB : extL l most with
  | none =>
    have hP2 : P = (zeroB, 9) := by rw [hP.h, if_neg hm, if_neg hy, hB]
    subst hP2
    rw [hB] at hc
    clear hP hy
    (repeat' first | simp [*, initEnv, c12, zeroB, extPV] | (refine wpIf_two (fun _ h => ?_) (fun _ h => ?_) <;> try simp [-Nat.le_zero_eq] at h) | (apply wpE_appendV; (focus (first | assumption | (repeat' first | assumption | with_reducible apply GrowV.setNew | with_reducible apply GrowV.alloc | with_reducible apply GrowV.set | (with_reducible show ¬ Names _ _; simp [*]; done)))); (focus (exact fun _ => rfl)); (focus decide); (focus (intro a; first | rfl | simp)); (focus (simp [maxCells] <;> omega))) | (refine after_intro fun v2 H2 hv2 hnx2 hget2 hnew2 hone2 hcel2 => ?_))
  | some B =>
    obtain ⟨hbl, hbp⟩ := extL_ok hr hB
    obtain ⟨k, g1, g5, hidx, hP2⟩ : ∃ k : Nat, ∃ g1 : k < l.sights.xs.length, (0 < k ∨ (l.sights.xs[k]'g1).year = y) ∧ (∀ H, doCall (calleeOf G (n + 11)) H (.pure (.func 45 [])) [.pure (l.sights.pv Sight.cells 9), .pure (.func 46 [.ptr false [.int .i64 y] 0])] = some (.val (.pure (.int .i64 (k : Int))))) ∧
        Hide (P = if (l.sights.xs[k]'g1).year = y then (B[k]!, 0) else (coverB (B[k - 1]!) (B[k]!), 0)) := by
      obtain ⟨g1, g2, g3, g4⟩ := geI_lt (y := y) (l := l.sights.xs) ⟨_, List.getElem_mem hl1, hyh⟩
      refine ⟨geI y l.sights.xs, g1, ?_, ?_, ⟨?_⟩⟩
      · rcases Nat.eq_zero_or_pos (geI y l.sights.xs) with h | h
        · right
          have := g4 g1
          simp only [h] at this ⊢
          omega
        · exact .inl h
      · intro H
        have := hidx0.h H
        rw [g2 0] at this
        simpa using this
      · rw [hP.h, if_neg hm, if_neg hy, hB]
        simp only
        rw [getElem!_pos l.sights.xs _ g1]
    rw [hB] at hc
    clear hP hy hB
    have hkB : k < B.length := by omega
    have hk1 : k - 1 < B.length := by omega
    rw [getElem!_pos B _ hkB, getElem!_pos B _ hk1] at hP2
    have hcov : ∀ H, doCall (calleeOf G (n + 11)) H (.pure (.func 16 [])) [.pure (.agg (B[k - 1]'hk1).cells), .pure (.agg (B[k]'hkB).cells)] = some (.val (.pure (.tup [.agg (coverB (B[k - 1]'hk1) (B[k]'hkB)).cells, .bool true]))) := fun H =>
      d16 (n + 7) H _ _ _ _ _ _ _ _ (hbp _ (List.getElem_mem _)) (hbp _ (List.getElem_mem _))
    simp only [Box.cells] at hcov
    clear hbp
    by_cases hyk : (l.sights.xs[k]'g1).year = y
    · have hP3 : P = (B[k]'hkB, 0) := by rw [hP2.h, if_pos hyk]
      subst hP3
      clear hP2 hcov
      (repeat' first | simp [*, initEnv, c12, extPV, Sl.isNil] | (refine wpIf_two (fun _ h => ?_) (fun _ h => ?_) <;> try simp [-Nat.le_zero_eq] at h) | (apply wpE_appendV; (focus (first | assumption | (repeat' first | assumption | with_reducible apply GrowV.setNew | with_reducible apply GrowV.alloc | with_reducible apply GrowV.set | (with_reducible show ¬ Names _ _; simp [*]; done)))); (focus (exact fun _ => rfl)); (focus decide); (focus (intro a; first | rfl | simp)); (focus (simp [maxCells] <;> omega))) | (refine after_intro fun v2 H2 hv2 hnx2 hget2 hnew2 hone2 hcel2 => ?_))
    · have hP3 : P = (coverB (B[k - 1]'hk1) (B[k]'hkB), 0) := by rw [hP2.h, if_neg hyk]
      subst hP3
      have hk0 : 0 < k := by omega
      have ha1 : addrV 4 (.pure ((Sl.mk false B).pv Box.cells 4)) (.pure (.int .i64 ((k - 1 : Nat) : Int))) = some (.val (.pure (.ptr false (B[k - 1]'hk1).cells 0))) := addrV_sl (s := Sl.mk false B) hk1
      simp only [Box.cells] at ha1
      have hfit : k < 9223372036854775807 := by omega
      clear hP2
      (repeat' first | simp [*, initEnv, c12, extPV, Sl.isNil] | (refine wpIf_two (fun _ h => ?_) (fun _ h => ?_) <;> try simp [-Nat.le_zero_eq] at h) | (apply wpE_appendV; (focus (first | assumption | (repeat' first | assumption | with_reducible apply GrowV.setNew | with_reducible apply GrowV.alloc | with_reducible apply GrowV.set | (with_reducible show ¬ Names _ _; simp [*]; done)))); (focus (exact fun _ => rfl)); (focus decide); (focus (intro a; first | rfl | simp)); (focus (simp [maxCells] <;> omega))) | (refine after_intro fun v2 H2 hv2 hnx2 hget2 hnew2 hone2 hcel2 => ?_))
@[simp] theorem d12 (n : Nat) (H : Heap) (l_habit_step : Int) (l_habit_place : Int) (l_habit_sink : Int) (l_sights : Sl Sight) (l_notes : Sl Note) (y : Int) (most : Int) (hs : (fun (l : Life) => shortS l) (⟨⟨l_habit_step, l_habit_place, l_habit_sink⟩, l_sights, l_notes⟩ : Life)) : doCall (calleeOf G (n + 12)) H (.pure (.func 12 [])) [.pure (.agg [.int .i64 l_habit_step, .int .i64 l_habit_place, .int .i64 l_habit_sink, (l_sights).pv Sight.cells 9, (l_notes).pv Note.cells 4]), .pure (.int .i64 y), .pure (.int .i64 most)] = some (.val (.pure ((fun (l : Life) => .tup [.agg (inS l y most).1.cells, .int .i64 (inS l y most).2]) (⟨⟨l_habit_step, l_habit_place, l_habit_sink⟩, l_sights, l_notes⟩ : Life)))) :=
  call_pureC (ps := [_, _, _]) (caps := []) sh12 (e12 n (⟨⟨l_habit_step, l_habit_place, l_habit_sink⟩, l_sights, l_notes⟩ : Life) y most hs)
end Go.Proofs.YtnomliioadjdgaaGreat.Vm

namespace Go.Proofs.YtnomliioadjdgaaGreat.Vm
open Go
set_option linter.unusedSimpArgs false
set_option linter.unusedVariables false
set_option maxHeartbeats 4000000

theorem given_of {l : Life} {c : List Int} (hr : Right l) (h1 : c.length + 1 = l.sights.xs.length) (h2 : ∀ k ∈ c, 0 ≤ k ∧ k ≤ 2) : givenS l c = 0 := by
  unfold givenS
  rw [if_pos ((right_iff l).2 hr), if_pos]
  simp only [kindsS, Bool.and_eq_true, decide_eq_true_eq, Bool.not_eq_true', List.any_eq_false]
  refine ⟨by omega, fun k hk => ?_⟩
  have := h2 k hk
  simp [gapB, this]
theorem tell_run (n : Nat) (l : Life) (c : Sl Int) (hr : Right l) (h1 : c.xs.length + 1 = l.sights.xs.length) (h2 : ∀ k ∈ c.xs, 0 ≤ k ∧ k ≤ 2) (hcan : canS l c.xs = true) (H0 : Heap) :
    ∃ v H', Vm.call G (n + 7) (.fn 95) [.pure (.agg l.cells), .pure (c.pv intF 1)] H0 = some (v, H') ∧ ∃ id Hs Ls, v = aggV [.row id 4 0 l.sights.xs.length, .pure Hs, .pure Ls, .pure (.int .i64 0)] ∧ (AV.cells (.pure Hs) = [.pure Hs] ∧ AV.one (.pure Hs) = true ∧ AV.cells (.pure Ls) = [.pure Ls] ∧ AV.one (.pure Ls) = true) ∧ H0.nx ≤ id ∧ H'.get id = .cells true (rowOf Box.cells ((narX l c.xs).zipWith Box.mk (narY l c.xs))) ∧ H0.nx ≤ H'.nx ∧ ∀ i, i < H0.nx → H'.get i = H0.get i := by
  have h9 := hr.nine
  have hone := hr.one
  have hl8 : ∀ s ∈ l.sights.xs, s.letters.length ≤ 20 := fun s hs => by have := hr.sp hs; omega
  have hcb : ∀ H, doCall (calleeOf G (n + 6)) H (.pure (.func 54 [])) [.pure (.agg l.cells), .pure (c.pv intF 1)] = some (.val (.pure (.int .i64 (givenS l c.xs)))) := fun H => d54 n H l.habit.step l.habit.place l.habit.sink l.sights l.notes c (fun _ _ => hl8) (by omega)
  rw [given_of hr h1 h2] at hcb
  have hct : ∀ H, doCall (calleeOf G (n + 6)) H (.pure (.func 94 [])) [.pure (.agg l.cells), .pure (c.pv intF 1)] = some (.val (.pure (.bool (canS l c.xs)))) := fun H => d94 n H l.habit.step l.habit.place l.habit.sink l.sights l.notes c hr h1 h2
  rw [hcan] at hct
  have hcl : ∀ H, doCall (calleeOf G (n + 6)) H (.pure (.func 124 [])) [.pure (.agg l.cells), .pure (c.pv intF 1)] = some (.val (.pure (letPV (lettersS l.sights.xs c.xs)))) := fun H => d124 (n + 1) H l.habit.step l.habit.place l.habit.sink l.sights l.notes c h1 h9 hl8
  have hcs : ∀ H, doCall (calleeOf G (n + 6)) H (.pure (.func 125 [])) [.pure (.agg l.cells), .pure (c.pv intF 1)] = some (.val (.pure (.agg [(Sl.of (narX l c.xs)).pv Span.cells 2, (Sl.of (narY l c.xs)).pv Span.cells 2, (Sl.of (narH l c.xs)).pv Span.cells 2]))) := fun H => d125 (n + 3) H l.habit.step l.habit.place l.habit.sink l.sights l.notes c hr h1 h2
  simp only [Life.cells] at hct hcl hcs hcb
  have hls : ∃ t, lettersS l.sights.xs c.xs = some t := by
    simp [canS] at hcan
    exact Option.isSome_iff_exists.1 hcan.2.1.1.1
  obtain ⟨t, ht⟩ := hls
  obtain ⟨hxl, hyl, hzl⟩ := nar_len l c.xs
  have hzip : ((narX l c.xs).zipWith Box.mk (narY l c.xs)).length = l.sights.xs.length := by simp [hxl, hyl]
  generalize narX l c.xs = X at *
  generalize narY l c.xs = Y at *
  generalize narH l c.xs = Z at *
  refine call_of rfl g95 rfl ?_
  (repeat' first | simp [*, initEnv, c95, letPV] | (refine wpIf_two (fun _ h => ?_) (fun _ h => ?_) <;> try simp [-Nat.le_zero_eq] at h) | (apply wpE_appendV; (focus (first | assumption | (repeat' first | assumption | with_reducible apply GrowV.setNew | with_reducible apply GrowV.alloc | with_reducible apply GrowV.set | (with_reducible show ¬ Names _ _; simp [*]; done)))); (focus (exact fun _ => rfl)); (focus decide); (focus (intro a; first | rfl | simp)); (focus (simp [maxCells] <;> omega))) | (refine after_intro fun v2 H2 hv2 hnx2 hget2 hnew2 hone2 hcel2 => ?_))
  refine wp_loopF [(9, 9), (36, 58)] (fun (s : Nat × AV) env H => env 9 = .pure (.int .i64 s.1) ∧ s.1 ≤ l.sights.xs.length ∧ H.get H0.nx = .cells true [.pure .nils, .pure .nils, .pure .nils, .pure (.int .i64 0)] ∧
    H.get (H0.nx + 1) = .cells true [.pure ((Sl.of X).pv Span.cells 2), .pure ((Sl.of Y).pv Span.cells 2), .pure ((Sl.of Z).pv Span.cells 2)] ∧
    H.get (H0.nx + 2) = .cells true [s.2, .pure ((Sl.of Z).pv Span.cells 2), .pure ((Sl.of t).pv strF 1), .pure (.int .i64 0)] ∧
    GrowV Box.cells 4 H s.2 ((X.zipWith Box.mk Y).take s.1) ∧ (∀ id, Names s.2 id → H0.nx + 2 < id) ∧ (∀ i, i < H0.nx → H.get i = H0.get i)) (fun s => l.sights.xs.length - s.1) (0, .pure .nils) ?_ ?_ ?_ ?_
  · decide
  · have hno : ∀ id, ¬ Names (.pure .nils) id := fun id ⟨_, _, _, h⟩ => by simp at h
    refine ⟨by first | rfl | simp, Nat.zero_le _, ?_, ?_, ?_, by simpa using GrowV.nil, fun id h => absurd h (hno id), fun i hi => ?_⟩
    · rw [get_set_ne (by omega), get_set_ne (by omega), get_alloc_lt (by show H0.nx < H0.nx + 1 + 1; omega), get_set_ne (by omega), get_alloc_lt (by show H0.nx < H0.nx + 1; omega)]; exact get_alloc_new
    · rw [get_set_ne (by omega), get_set_ne (by omega), get_alloc_lt (by show H0.nx + 1 < H0.nx + 1 + 1; omega), get_set_own (by show H0.nx + 1 < H0.nx + 1 + 1; omega)]
    · rw [get_set_own (by show H0.nx + 2 < H0.nx + 1 + 1 + 1; omega)]
    · rw [get_set_ne (by omega), get_set_ne (by omega), get_alloc_lt (by show i < H0.nx + 1 + 1; omega), get_set_ne (by omega), get_alloc_lt (by show i < H0.nx + 1; omega), get_alloc_lt hi]
  · simp only [loopFuel]; omega
  rintro ⟨j, va⟩ env2 H2 ⟨h9', hj, hg0, hg1, hg2, hva, hnn, hold⟩
  simp only at h9' hj hg2 hva hnn
  have hn0 : ¬ Names va H0.nx := fun h => by have := hnn _ h; omega
  have hn1 : ¬ Names va (H0.nx + 1) := fun h => by have := hnn _ h; omega
  have hn2 : ¬ Names va (H0.nx + 2) := fun h => by have := hnn _ h; omega
  have hfit2 : j < 9223372036854775807 := by omega
  have i2 := nx_of_get hg2
  have i1 := nx_of_get hg1
  have i0 := nx_of_get hg0
  have j0 : ¬ (H0.nx = H2.nx) := by omega
  have j1 : ¬ (H0.nx + 1 = H2.nx) := by omega
  have j2 : ¬ (H0.nx + 2 = H2.nx) := by omega
  have k0 : H0.nx < H2.nx + 1 := by omega
  have k1 : H0.nx + 1 < H2.nx + 1 := by omega
  have k2 : H0.nx + 2 < H2.nx + 1 := by omega
  have hfa := hva.1.fresh
  have hjy : j < l.sights.xs.length → j < Y.length := fun h => by omega
  have hon1 := hva.1.one
  have hold' : Hide _ := ⟨hold⟩
  have hnn' : Hide _ := ⟨hnn⟩
  clear hct hcl hcs hcb hold hnn
  (repeat' first | simp [*, initEnv] | (refine wpIf_two (fun _ h => ?_) (fun _ h => ?_) <;> try simp [-Nat.le_zero_eq] at h) | (apply wpE_appendV; (focus (first | assumption | (repeat' first | assumption | with_reducible apply GrowV.setNew | with_reducible apply GrowV.alloc | with_reducible apply GrowV.set | (with_reducible show ¬ Names _ _; simp [*]; done)))); (focus (exact fun _ => rfl)); (focus decide); (focus (intro a; first | rfl | simp)); (focus (simp [maxCells] <;> omega))) | (refine after_intro fun v2 H2 hv2 hnx2 hget2 hnew2 hone2 hcel2 => ?_))
  · have hlt : j < l.sights.xs.length := by assumption
    have hgB : H2.get (H0.nx + 2) = .cells true [va, .pure ((Sl.of Z).pv Span.cells 2), .pure ((Sl.of t).pv strF 1), .pure (.int .i64 0)] := by
      rw [hget2 (H0.nx + 2) (by simp <;> omega) hn2, get_alloc_lt i2]; exact hg2
    have hg0' : H2.get H0.nx = .cells true [.pure .nils, .pure .nils, .pure .nils, .pure (.int .i64 0)] := by
      rw [hget2 H0.nx (by simp <;> omega) hn0, get_alloc_lt i0]; exact hg0
    have hg1' : H2.get (H0.nx + 1) = .cells true [.pure ((Sl.of X).pv Span.cells 2), .pure ((Sl.of Y).pv Span.cells 2), .pure ((Sl.of Z).pv Span.cells 2)] := by
      rw [hget2 (H0.nx + 1) (by simp <;> omega) hn1, get_alloc_lt i1]; exact hg1
    have hm : ∀ id, Names v2 id → H0.nx + 2 < id := fun id h => by have := hnew2 _ h; simp at this; omega
    have m2 : ¬ Names v2 (H0.nx + 2) := fun h => by have := hm _ h; omega
    have hG : GrowV Box.cells 4 (H2.set (H0.nx + 2) (.cells true [v2, .pure ((Sl.of Z).pv Span.cells 2), .pure ((Sl.of t).pv strF 1), .pure (.int .i64 0)])) v2 ((X.zipWith Box.mk Y).take (j + 1)) := (hv2.set m2 _).cast (by rw [← take_succ' (by omega)]; simp)
    have ho : ∀ o i, i < H0.nx → (H2.set (H0.nx + 2) o).get i = H0.get i := fun o i hi => by
      rw [get_set_ne (by omega), hget2 i (by simp; omega) (fun h => by have := hnn'.h _ h; omega), get_alloc_lt (by omega)]
      exact hold'.h i hi
    refine ⟨j + 1, by omega, by simp, by omega, ?_, v2, ?_⟩
    · rw [get_set_ne (by omega)]; exact hg0'
    and_intros
    all_goals first
      | exact get_set_own (nx_of_get hgB)
      | assumption
      | (rw [get_set_ne (by omega)]; assumption)
      | exact hG.1
      | exact hG.2
      | exact ho _
  · have hje : j = l.sights.xs.length := by omega
    rw [hje, List.take_of_length_le (by omega)] at hva
    obtain ⟨id, rfl, hgi⟩ := hva.1.row (by intro e; rw [e] at hzip; simp at hzip; omega)
    have hid := hnn'.h id ⟨_, _, _, rfl⟩
    rw [hzip]
    refine ⟨id, _, _, rfl, ⟨by simp, by simp, by simp, by simp⟩, by omega, ?_, ?_, fun i hi => ?_⟩
    · rw [get_set_ne (by omega)]; exact hgi
    · show H0.nx ≤ H2.nx; omega
    · rw [get_set_ne (by omega)]; exact hold'.h i hi
end Go.Proofs.YtnomliioadjdgaaGreat.Vm

namespace Go.Proofs.YtnomliioadjdgaaGreat.Vm
open Go
set_option linter.unusedSimpArgs false
set_option linter.unusedVariables false
set_option maxHeartbeats 4000000

def extR (env5 : AV) (H : Heap) (L : Nat) : Option (List Box) → Prop
  | none => env5 = .pure .nils
  | some A => ∃ id, env5 = .row id 4 0 L ∧ H.get id = .cells true (rowOf Box.cells A)
theorem sh44 : G.shared 44 = false := by decide
theorem e44 (n : Nat) (l : Life) (most : Int) (hr : Right l) : callP G (n + 8) 44 [.agg l.cells, .int .i64 most] = some (extPV (extL l most)) := by
  refine callP_of (ext_none _) rfl g44 rfl ?_
  have h1 := hr.one
  have h9 := hr.nine
  have hcan : ∀ H (j : Nat), doCall (calleeOf G (n + 7)) H (.pure (.func 94 [])) [.pure (.agg l.cells), .pure ((Sl.of (toC (l.sights.xs.length - 1) j)).pv intF 1)] = some (.val (.pure (.bool (canS l (toC (l.sights.xs.length - 1) j))))) := fun H j => by
    have := d94 (n + 1) H l.habit.step l.habit.place l.habit.sink l.sights l.notes (Sl.of (toC (l.sights.xs.length - 1) j)) hr (by rw [Sl.xs_of, toC_length]; show l.sights.xs.length - 1 + 1 = l.sights.xs.length; omega) (by rw [Sl.xs_of]; exact toC_kinds _ _)
    rw [Sl.xs_of] at this
    exact this
  have hknd : ∀ H (j : Nat), j < 100000 → doCall (calleeOf G (n + 7)) H (.pure (.func 93 [])) [.pure (.agg l.cells), .pure (.int .i64 (j : Nat))] = some (.val (.pure ((Sl.of (toC (l.sights.xs.length - 1) j)).pv intF 1))) := fun H j hj => d93 (n + 6) H l.habit.step l.habit.place l.habit.sink l.sights l.notes j h1 h9 hj
  have hchg : ∀ H (j : Nat), doCall (calleeOf G (n + 7)) H (.pure (.func 26 [])) [.pure ((Sl.of (toC (l.sights.xs.length - 1) j)).pv intF 1)] = some (.val (.pure (.int .i64 (chg (toC (l.sights.xs.length - 1) j))))) := fun H j => by
    have := d26 (n + 6) H (Sl.of (toC (l.sights.xs.length - 1) j)) (by rw [Sl.xs_of, toC_length]; omega)
    rw [Sl.xs_of] at this
    exact this
  have hj3 := pow_le_of (m := l.sights.xs.length - 1) (by omega)
  obtain ⟨N, hN0⟩ : ∃ N, N = 3 ^ (l.sights.xs.length - 1) := ⟨_, rfl⟩
  have hcnt : ∀ H, doCall (calleeOf G (n + 7)) H (.pure (.func 92 [])) [.pure (.agg l.cells)] = some (.val (.pure (.int .i64 (N : Nat)))) := fun H => d92 (n + 6) H l.habit.step l.habit.place l.habit.sink l.sights l.notes N hN0 h1 h9
  have hE : Hide (extL l most = extTo (boxesP l) most (l.sights.xs.length - 1) N) := ⟨by rw [hN0]; rfl⟩
  simp only [Life.cells] at hcnt hcan hknd
  rw [← hN0] at hj3
  obtain ⟨m, hm0⟩ : ∃ m, m = l.sights.xs.length - 1 := ⟨_, rfl⟩
  rw [← hm0] at hcan hknd hchg hE
  have hm : Hide _ := ⟨hm0⟩
  have hN : Hide _ := ⟨hN0⟩
  obtain ⟨P, hP0⟩ : ∃ P, P = extPV (extL l most) := ⟨_, rfl⟩
  rw [← hP0]
  have hP : Hide _ := ⟨hP0⟩
  clear hm0 hN0 hP0
  (repeat' first | simp [*, initEnv, c44] | (refine wpIf_two (fun _ h => ?_) (fun _ h => ?_) <;> try simp [-Nat.le_zero_eq] at h) | (apply wpE_appendV; (focus (first | assumption | (repeat' first | assumption | with_reducible apply GrowV.setNew | with_reducible apply GrowV.alloc | with_reducible apply GrowV.set | (with_reducible show ¬ Names _ _; simp [*]; done)))); (focus (exact fun _ => rfl)); (focus decide); (focus (intro a; first | rfl | simp)); (focus (simp [maxCells] <;> omega))) | (refine after_intro fun v2 H2 hv2 hnx2 hget2 hnew2 hone2 hcel2 => ?_))
  refine wp_loopF [(5, 63)] (fun (j : Nat) env H1 => env 6 = .pure (.int .i64 j) ∧ j ≤ N ∧ extR (env 5) H1 l.sights.xs.length (extTo (boxesP l) most m j)) (fun j => N - j) 0 ?_ ?_ ?_ ?_
  · decide
  · refine ⟨by simp, Nat.zero_le _, by simp [extR, extTo]⟩
  · simp only [loopFuel]; omega
  rintro j env H1 ⟨h6, hj, hx⟩
  have hfit : j < 9223372036854775807 := by omega
  have hj9 : j < 100000 := by omega
  have hlen3 : ∀ j, (toC m j).length < 1000 := fun j => by rw [toC_length]; have := hm.h; omega
  have hx' : Hide _ := ⟨hx⟩
  clear hx
  by_cases hjN : j < N
  case neg =>
    have hje : j = N := by omega
    have hfz : Hide (∃ ids, freeze H1 false depthF (env 5) = some (P, ids)) := ⟨by
      have hx := hx'.h
      rw [hje, ← hE.h] at hx
      rw [hP.h]
      cases ho : extL l most with
      | none =>
        rw [ho] at hx
        have hx : env 5 = _ := hx
        rw [hx]
        exact FrzK.pure (n := 11) _
      | some A =>
        rw [ho] at hx
        obtain ⟨id, e5, g⟩ := hx
        rw [e5]
        exact row_res (f := Box.cells) (sz := 4) (n := 10) (fun _ => rfl) g (extL_ok hr ho).1⟩
    (repeat' first | simp [*, initEnv] | (refine wpIf_two (fun _ h => ?_) (fun _ h => ?_) <;> try simp [-Nat.le_zero_eq] at h) | (apply wpE_appendV; (focus (first | assumption | (repeat' first | assumption | with_reducible apply GrowV.setNew | with_reducible apply GrowV.alloc | with_reducible apply GrowV.set | (with_reducible show ¬ Names _ _; simp [*]; done)))); (focus (exact fun _ => rfl)); (focus decide); (focus (intro a; first | rfl | simp)); (focus (simp [maxCells] <;> omega))) | (refine after_intro fun v2 H2 hv2 hnx2 hget2 hnew2 hone2 hcel2 => ?_))
    exact hfz.h
  have hst : Hide (extTo (boxesP l) most m (j + 1) = match boxesP l (toC m j) with
    | none => extTo (boxesP l) most m j
    | some B => if most < chg (toC m j) then extTo (boxesP l) most m j else some (covO B (extTo (boxesP l) most m j))) := ⟨rfl⟩
  have hcl := toC_length m j
  have hc1 : (toC m j).length + 1 = l.sights.xs.length := by rw [hcl, hm.h]; omega
  have hbx : Hide (boxesP l (toC m j) = if canS l (toC m j) = true then some ((narX l (toC m j)).zipWith Box.mk (narY l (toC m j))) else none) := ⟨by
    unfold boxesP
    rw [tell_can hr hc1]
    split <;> rfl⟩
  cases hcn : canS l (toC m j) with
  | false =>
    have e : extTo (boxesP l) most m (j + 1) = extTo (boxesP l) most m j := by rw [hst.h, hbx.h, if_neg (by rw [hcn]; simp)]
    have hcj : ∀ H, doCall (calleeOf G (n + 7)) H (.pure (.func 94 [])) [.pure (.agg l.cells), .pure ((Sl.of (toC m j)).pv intF 1)] = some (.val (.pure (.bool false))) := fun H => by
      have := hcan H j
      rw [hcn] at this
      simp only [Life.cells]
      exact this
    simp only [Life.cells] at hcj
    have e' : Hide _ := ⟨e⟩
    clear hcan e
    (repeat' first | simp [*, initEnv] | (refine wpIf_two (fun _ h => ?_) (fun _ h => ?_) <;> try simp [-Nat.le_zero_eq] at h) | (apply wpE_appendV; (focus (first | assumption | (repeat' first | assumption | with_reducible apply GrowV.setNew | with_reducible apply GrowV.alloc | with_reducible apply GrowV.set | (with_reducible show ¬ Names _ _; simp [*]; done)))); (focus (exact fun _ => rfl)); (focus decide); (focus (intro a; first | rfl | simp)); (focus (simp [maxCells] <;> omega))) | (refine after_intro fun v2 H2 hv2 hnx2 hget2 hnew2 hone2 hcel2 => ?_))
    exact ⟨j + 1, by omega, by simp, by omega, by rw [e'.h]; exact hx'.h⟩
  | true =>
    have hcj : ∀ H, doCall (calleeOf G (n + 7)) H (.pure (.func 94 [])) [.pure (.agg l.cells), .pure ((Sl.of (toC m j)).pv intF 1)] = some (.val (.pure (.bool true))) := fun H => by
      have := hcan H j
      rw [hcn] at this
      simp only [Life.cells]
      exact this
    simp only [Life.cells] at hcj
    have hcn' : Hide _ := ⟨hcn⟩
    clear hcan
    by_cases hmc : most < chg (toC m j)
    · have e : extTo (boxesP l) most m (j + 1) = extTo (boxesP l) most m j := by rw [hst.h, hbx.h, if_pos hcn]; simp only; rw [if_pos hmc]
      have e' : Hide _ := ⟨e⟩
      clear e hcn
      (repeat' first | simp [*, initEnv] | (refine wpIf_two (fun _ h => ?_) (fun _ h => ?_) <;> try simp [-Nat.le_zero_eq] at h) | (apply wpE_appendV; (focus (first | assumption | (repeat' first | assumption | with_reducible apply GrowV.setNew | with_reducible apply GrowV.alloc | with_reducible apply GrowV.set | (with_reducible show ¬ Names _ _; simp [*]; done)))); (focus (exact fun _ => rfl)); (focus decide); (focus (intro a; first | rfl | simp)); (focus (simp [maxCells] <;> omega))) | (refine after_intro fun v2 H2 hv2 hnx2 hget2 hnew2 hone2 hcel2 => ?_))
      exact ⟨j + 1, by omega, by simp, by omega, by rw [e'.h]; exact hx'.h⟩
    · have e : extTo (boxesP l) most m (j + 1) = some (covO ((narX l (toC m j)).zipWith Box.mk (narY l (toC m j))) (extTo (boxesP l) most m j)) := by rw [hst.h, hbx.h, if_pos hcn]; simp only; rw [if_neg hmc]
      have hBo : okBs l.sights.xs.length ((narX l (toC m j)).zipWith Box.mk (narY l (toC m j))) := by
        have := hbx.h
        rw [if_pos hcn] at this
        rw [hm.h] at this ⊢
        exact boxes_ok hr _ _ this
      have hAo : Hide (∀ A, extTo (boxesP l) most m j = some A → okBs l.sights.xs.length A) := ⟨fun A => by rw [hm.h]; exact extTo_ok (boxes_ok hr) j A⟩
      have hrun := tell_run n l (Sl.of (toC m j)) hr (by rw [Sl.xs_of]; exact hc1) (by rw [Sl.xs_of]; exact toC_kinds m j) (by rw [Sl.xs_of]; exact hcn) H1
      rw [Sl.xs_of] at hrun
      have e' : Hide _ := ⟨e⟩
      have hrun' : Hide _ := ⟨hrun⟩
      clear e hcn hst hbx hrun
      generalize hO2 : extTo (boxesP l) most m (j + 1) = O2 at e'
      have hO2' : Hide _ := ⟨hO2⟩
      clear hO2
      generalize extTo (boxesP l) most m j = O at *
      generalize (narX l (toC m j)).zipWith Box.mk (narY l (toC m j)) = B at *
      (repeat' first | simp [*, initEnv] | (refine wpIf_two (fun _ h => ?_) (fun _ h => ?_) <;> try simp [-Nat.le_zero_eq] at h) | (apply wpE_appendV; (focus (first | assumption | (repeat' first | assumption | with_reducible apply GrowV.setNew | with_reducible apply GrowV.alloc | with_reducible apply GrowV.set | (with_reducible show ¬ Names _ _; simp [*]; done)))); (focus (exact fun _ => rfl)); (focus decide); (focus (intro a; first | rfl | simp)); (focus (simp [maxCells] <;> omega))) | (refine after_intro fun v2 H2 hv2 hnx2 hget2 hnew2 hone2 hcel2 => ?_))
      refine wpE_run (caps := []) (by decide) ?_
      obtain ⟨v, H', hcall, id', Hs, Ls, rfl, ⟨hs1, hs2, hs3, hs4⟩, hid', g', hx2, hold⟩ := hrun'.h
      simp only [Life.cells] at hcall
      refine ⟨_, _, hcall, ?_⟩
      have li' := nx_of_get g'
      have hold' : Hide _ := ⟨hold⟩
      obtain ⟨hBl, hBp⟩ := hBo
      have hBp' : Hide _ := ⟨hBp⟩
      have hx2' : Hide _ := ⟨hx2⟩
      have hmid : Hide (m = l.sights.xs.length - 1) := hm
      have hL0 : ¬ (l.sights.xs.length = 0) := by omega
      have nid : ¬ (id' = H'.nx) := by omega
      clear hrun' hold hBp hx2 hcall
      cases O with
      | none =>
        have hx5 : env 5 = .pure .nils := hx'.h
        have hL : O2 = some B := e'.h
        clear hx' e' hAo
        (repeat' first | simp [*, initEnv] | (refine wpIf_two (fun _ h => ?_) (fun _ h => ?_) <;> try simp [-Nat.le_zero_eq] at h) | (apply wpE_appendV; (focus (first | assumption | (repeat' first | assumption | with_reducible apply GrowV.setNew | with_reducible apply GrowV.alloc | with_reducible apply GrowV.set | (with_reducible show ¬ Names _ _; simp [*]; done)))); (focus (exact fun _ => rfl)); (focus decide); (focus (intro a; first | rfl | simp)); (focus (simp [maxCells] <;> omega))) | (refine after_intro fun v2 H2 hv2 hnx2 hget2 hnew2 hone2 hcel2 => ?_))
        refine ⟨j + 1, by omega, by simp, by omega, ?_⟩
        rw [hO2'.h, hL]
        exact ⟨id', rfl, by rw [get_set_ne (by omega), get_alloc_lt li']; exact g'⟩
      | some A =>
        obtain ⟨id, hx5, gi⟩ := hx'.h
        have hL : O2 = some (A.zipWith coverB B) := e'.h
        obtain ⟨hAl, hAp⟩ := hAo.h A rfl
        have hAp' : Hide _ := ⟨hAp⟩
        have lid := nx_of_get gi
        have gi' : H'.get id = .cells true (rowOf Box.cells A) := by rw [hold'.h id lid]; exact gi
        have lid' := nx_of_get gi'
        have nid2 : ¬ (id = H'.nx) := by omega
        have nid3 : ¬ (id = id') := by omega
        clear hx' e' hAo hAp gi
        obtain ⟨Z, hZ⟩ : ∃ Z, Z = A.zipWith coverB B := ⟨_, rfl⟩
        have hZl : Z.length = A.length := by rw [hZ]; simp; omega
        have hZg : Hide (∀ (k : Nat) (h : k < Z.length), Z[k] = coverB (A[k]'(by omega)) (B[k]'(by omega))) := ⟨fun k h => by subst hZ; simp⟩
        rw [← hZ] at hL
        have hL' : Hide _ := ⟨hL⟩
        clear hZ hL
        (repeat' first | simp [*, initEnv] | (refine wpIf_two (fun _ h => ?_) (fun _ h => ?_) <;> try simp [-Nat.le_zero_eq] at h) | (apply wpE_appendV; (focus (first | assumption | (repeat' first | assumption | with_reducible apply GrowV.setNew | with_reducible apply GrowV.alloc | with_reducible apply GrowV.set | (with_reducible show ¬ Names _ _; simp [*]; done)))); (focus (exact fun _ => rfl)); (focus decide); (focus (intro a; first | rfl | simp)); (focus (simp [maxCells] <;> omega))) | (refine after_intro fun v2 H2 hv2 hnx2 hget2 hnew2 hone2 hcel2 => ?_))
        refine wp_loopF [(10, 12), (41, 63)] (fun (i : Nat) env3 H3 => env3 10 = .pure (.int .i64 i) ∧ i ≤ l.sights.xs.length ∧ H3.get id = .cells true (rowOf Box.cells (mixG Z A i)) ∧ H3.get H'.nx = .cells true [.row id' 4 0 l.sights.xs.length, .pure Hs, .pure Ls, .pure (.int .i64 0)] ∧ H3.get id' = .cells true (rowOf Box.cells B)) (fun i => l.sights.xs.length - i) 0 ?_ ?_ ?_ ?_
        · decide
        · refine ⟨by simp, Nat.zero_le _, ?_, ?_, ?_⟩
          · rw [get_set_ne nid2, get_alloc_lt lid']; simpa [mixG] using gi'
          · rw [get_set_own (by simp)]
          · rw [get_set_ne nid, get_alloc_lt li']; exact g'
        · simp only [loopFuel]; omega
        rintro i env3 H3 ⟨h10, hi, ki, kt, kb⟩
        have hfiti : i < 9223372036854775807 := by omega
        by_cases hiL : i < l.sights.xs.length
        · have hXl := mixG_length (Z := Z) (B := A) (i := i) hZl (by omega)
          have hXg := mixG_get (Z := Z) (B := A) (i := i) hZl (by omega) (by omega)
          have hXs := mixG_set (Z := Z) (B := A) (i := i) hZl (by omega)
          rw [hZg.h i (by omega)] at hXs
          rw [hAl] at hXl
          obtain ⟨X, kX, hXl, hXg, hXs⟩ : ∃ X : List Box, H3.get id = .cells true (rowOf Box.cells X) ∧ X.length = l.sights.xs.length ∧ (∀ h, X[i]'h = A[i]'(by omega)) ∧ X.set i (coverB (A[i]'(by omega)) (B[i]'(by omega))) = mixG Z A (i + 1) := ⟨_, ki, hXl, fun _ => hXg, hXs⟩
          have hXg' := hXg (by omega)
          have hcov : ∀ H, doCall (calleeOf G (n + 7)) H (.pure (.func 47 [])) [.pure (.agg (A[i]'(by omega)).cells), .pure (.agg (B[i]'(by omega)).cells)] = some (.val (.pure (.tup [.agg (coverB (A[i]'(by omega)) (B[i]'(by omega))).cells, .bool true]))) := fun H =>
            d47 (n + 3) H _ _ _ _ _ _ _ _ (by show properR (A[i]'(by omega)) = true; rw [← spanS_valid]; exact hAp'.h _ (List.getElem_mem _)) (by show properR (B[i]'(by omega)) = true; rw [← spanS_valid]; exact hBp'.h _ (List.getElem_mem _))
          simp only [Box.cells] at hcov
          have hXs' : Hide _ := ⟨hXs⟩
          have li3 := nx_of_get kX
          have lt3 := nx_of_get kt
          have lb3 := nx_of_get kb
          have n1 : ¬ (id = H3.nx) := by omega
          have n2 : ¬ (H'.nx = H3.nx) := by omega
          have n3 : ¬ (id' = H3.nx) := by omega
          have n4 : ¬ (H3.nx = id) := by omega
          have m1 : ¬ (H'.nx = id) := by omega
          have m2 : ¬ (id' = id) := by omega
          clear hXs hXg ki gi' hAp' hBp' hZg hcnt hcj hknd hchg
          (repeat' first | simp [*, initEnv] | (refine wpIf_two (fun _ h => ?_) (fun _ h => ?_) <;> try simp [-Nat.le_zero_eq] at h) | (apply wpE_appendV; (focus (first | assumption | (repeat' first | assumption | with_reducible apply GrowV.setNew | with_reducible apply GrowV.alloc | with_reducible apply GrowV.set | (with_reducible show ¬ Names _ _; simp [*]; done)))); (focus (exact fun _ => rfl)); (focus decide); (focus (intro a; first | rfl | simp)); (focus (simp [maxCells] <;> omega))) | (refine after_intro fun v2 H2 hv2 hnx2 hget2 hnew2 hone2 hcel2 => ?_))
          refine ⟨i + 1, by omega, by simp, by omega, ?_⟩
          rw [get_set_own (by simp; omega), hXs'.h]
        · have hie : i = l.sights.xs.length := by omega
          have hXe := mixG_end (Z := Z) (B := A) (i := i) hZl (by omega)
          rw [hXe] at ki
          (repeat' first | simp [*, initEnv] | (refine wpIf_two (fun _ h => ?_) (fun _ h => ?_) <;> try simp [-Nat.le_zero_eq] at h) | (apply wpE_appendV; (focus (first | assumption | (repeat' first | assumption | with_reducible apply GrowV.setNew | with_reducible apply GrowV.alloc | with_reducible apply GrowV.set | (with_reducible show ¬ Names _ _; simp [*]; done)))); (focus (exact fun _ => rfl)); (focus decide); (focus (intro a; first | rfl | simp)); (focus (simp [maxCells] <;> omega))) | (refine after_intro fun v2 H2 hv2 hnx2 hget2 hnew2 hone2 hcel2 => ?_))
          refine ⟨j + 1, by omega, by simp, by omega, ?_⟩
          rw [hO2'.h, hL'.h]
          exact ⟨id, rfl, ki⟩
@[simp] theorem d44 (n : Nat) (H : Heap) (l_habit_step : Int) (l_habit_place : Int) (l_habit_sink : Int) (l_sights : Sl Sight) (l_notes : Sl Note) (most : Int) (hr : (fun (l : Life) => Right l) (⟨⟨l_habit_step, l_habit_place, l_habit_sink⟩, l_sights, l_notes⟩ : Life)) : doCall (calleeOf G (n + 8)) H (.pure (.func 44 [])) [.pure (.agg [.int .i64 l_habit_step, .int .i64 l_habit_place, .int .i64 l_habit_sink, (l_sights).pv Sight.cells 9, (l_notes).pv Note.cells 4]), .pure (.int .i64 most)] = some (.val (.pure ((fun (l : Life) => extPV (extL l most)) (⟨⟨l_habit_step, l_habit_place, l_habit_sink⟩, l_sights, l_notes⟩ : Life)))) :=
  call_pureC (ps := [_, _]) (caps := []) sh44 (e44 n (⟨⟨l_habit_step, l_habit_place, l_habit_sink⟩, l_sights, l_notes⟩ : Life) most hr)
end Go.Proofs.YtnomliioadjdgaaGreat.Vm

namespace Go.Proofs.YtnomliioadjdgaaGreat.Vm
open Go
set_option linter.unusedSimpArgs false
set_option linter.unusedVariables false
set_option maxHeartbeats 4000000

def extRE (l : Life) (most : Int) : List PV := if checkS l = 0 then (if most < 0 then [.nils, .int .i64 1] else match extL l most with
  | none => [.nils, .int .i64 9]
  | some B => [(Sl.mk false B).pv Box.cells 4, .int .i64 0]) else [.nils, .int .i64 (checkS l)]
theorem sh11 : G.shared 11 = false := by decide
theorem e11 (n : Nat) (l : Life) (most : Int) (hs : shortS l) : callP G (n + 9) 11 [.agg l.cells, .int .i64 most] = some (.agg (extRE l most)) := by
  refine callP_of (ext_none _) rfl g11 rfl ?_
  have hcc : ∀ H, doCall (calleeOf G (n + 8)) H (.pure (.func 43 [])) [.pure (.agg l.cells)] = some (.val (.pure (.int .i64 (checkS l)))) := fun H => d43 (n + 3) H l.habit.step l.habit.place l.habit.sink l.sights l.notes hs
  simp only [Life.cells] at hcc
  by_cases hck : checkS l = 0
  · have hr := (right_iff l).1 hck
    have h1 := hr.one
    have hc : ∀ H, doCall (calleeOf G (n + 8)) H (.pure (.func 44 [])) [.pure (.agg l.cells), .pure (.int .i64 most)] = some (.val (.pure (extPV (extL l most)))) := fun H => d44 n H l.habit.step l.habit.place l.habit.sink l.sights l.notes most hr
    simp only [Life.cells] at hc
    cases ho : extL l most with
    | none =>
      rw [ho] at hc
      (repeat' first | simp [*, initEnv, c11, extPV, extRE] | (refine wpIf_two (fun _ h => ?_) (fun _ h => ?_) <;> try simp [-Nat.le_zero_eq] at h) | (apply wpE_appendV; (focus (first | assumption | (repeat' first | assumption | with_reducible apply GrowV.setNew | with_reducible apply GrowV.alloc | with_reducible apply GrowV.set | (with_reducible show ¬ Names _ _; simp [*]; done)))); (focus (exact fun _ => rfl)); (focus decide); (focus (intro a; first | rfl | simp)); (focus (simp [maxCells] <;> omega))) | (refine after_intro fun v2 H2 hv2 hnx2 hget2 hnew2 hone2 hcel2 => ?_))
    | some B =>
      rw [ho] at hc
      have hbl := (extL_ok hr ho).1
      have hB0 : ¬ (B = []) := by intro e; rw [e] at hbl; simp at hbl; omega
      have hB1 : ¬ (B.length = 0) := by omega
      have hB2 : ¬ ((B.length : Int) = 0) := by omega
      rw [← hbl] at h1
      clear hbl
      have hP : extRE l most = if most < 0 then [.nils, .int .i64 1] else [(Sl.mk false B).pv Box.cells 4, .int .i64 0] := by unfold extRE; rw [if_pos hck, ho]
      rw [hP]
      clear hP
      (repeat' first | simp [*, initEnv, c11, extPV] | (refine wpIf_two (fun _ h => ?_) (fun _ h => ?_) <;> try simp [-Nat.le_zero_eq] at h) | (apply wpE_appendV; (focus (first | assumption | (repeat' first | assumption | with_reducible apply GrowV.setNew | with_reducible apply GrowV.alloc | with_reducible apply GrowV.set | (with_reducible show ¬ Names _ _; simp [*]; done)))); (focus (exact fun _ => rfl)); (focus decide); (focus (intro a; first | rfl | simp)); (focus (simp [maxCells] <;> omega))) | (refine after_intro fun v2 H2 hv2 hnx2 hget2 hnew2 hone2 hcel2 => ?_))
  · (repeat' first | simp [*, initEnv, c11, extRE] | (refine wpIf_two (fun _ h => ?_) (fun _ h => ?_) <;> try simp [-Nat.le_zero_eq] at h) | (apply wpE_appendV; (focus (first | assumption | (repeat' first | assumption | with_reducible apply GrowV.setNew | with_reducible apply GrowV.alloc | with_reducible apply GrowV.set | (with_reducible show ¬ Names _ _; simp [*]; done)))); (focus (exact fun _ => rfl)); (focus decide); (focus (intro a; first | rfl | simp)); (focus (simp [maxCells] <;> omega))) | (refine after_intro fun v2 H2 hv2 hnx2 hget2 hnew2 hone2 hcel2 => ?_))
@[simp] theorem d11 (n : Nat) (H : Heap) (l_habit_step : Int) (l_habit_place : Int) (l_habit_sink : Int) (l_sights : Sl Sight) (l_notes : Sl Note) (most : Int) (hs : (fun (l : Life) => shortS l) (⟨⟨l_habit_step, l_habit_place, l_habit_sink⟩, l_sights, l_notes⟩ : Life)) : doCall (calleeOf G (n + 9)) H (.pure (.func 11 [])) [.pure (.agg [.int .i64 l_habit_step, .int .i64 l_habit_place, .int .i64 l_habit_sink, (l_sights).pv Sight.cells 9, (l_notes).pv Note.cells 4]), .pure (.int .i64 most)] = some (.val (.pure ((fun (l : Life) => .agg (extRE l most)) (⟨⟨l_habit_step, l_habit_place, l_habit_sink⟩, l_sights, l_notes⟩ : Life)))) :=
  call_pureC (ps := [_, _]) (caps := []) sh11 (e11 n (⟨⟨l_habit_step, l_habit_place, l_habit_sink⟩, l_sights, l_notes⟩ : Life) most hs)
theorem sh13 : G.shared 13 = false := by decide
theorem e13 (n : Nat) (l : Life) (y most : Int) (hs : shortS l) : callP G (n + 9) 13 [.agg l.cells, .int .i64 y, .int .i64 most] = some (.tup [.agg (inS l y most).1.cells, .int .i64 (inS l y most).2]) := by
  refine callP_of (ext_none _) rfl g13 rfl ?_
  have hcc : ∀ H, doCall (calleeOf G (n + 8)) H (.pure (.func 43 [])) [.pure (.agg l.cells)] = some (.val (.pure (.int .i64 (checkS l)))) := fun H => d43 (n + 3) H l.habit.step l.habit.place l.habit.sink l.sights l.notes hs
  simp only [Life.cells] at hcc
  by_cases hck : checkS l = 0
  case neg =>
    have hP : inS l y most = (zeroB, checkS l) := by unfold inS; rw [if_neg hck]
    rw [hP]
    (repeat' first | simp [*, initEnv, c13, zeroB] | (refine wpIf_two (fun _ h => ?_) (fun _ h => ?_) <;> try simp [-Nat.le_zero_eq] at h) | (apply wpE_appendV; (focus (first | assumption | (repeat' first | assumption | with_reducible apply GrowV.setNew | with_reducible apply GrowV.alloc | with_reducible apply GrowV.set | (with_reducible show ¬ Names _ _; simp [*]; done)))); (focus (exact fun _ => rfl)); (focus decide); (focus (intro a; first | rfl | simp)); (focus (simp [maxCells] <;> omega))) | (refine after_intro fun v2 H2 hv2 hnx2 hget2 hnew2 hone2 hcel2 => ?_))
  have hr := (right_iff l).1 hck
  have h1 := hr.one
  have h9 := hr.nine
  have hc : ∀ H, doCall (calleeOf G (n + 8)) H (.pure (.func 44 [])) [.pure (.agg l.cells), .pure (.int .i64 most)] = some (.val (.pure (extPV (extL l most)))) := fun H => d44 n H l.habit.step l.habit.place l.habit.sink l.sights l.notes most hr
  have hw : IntKind.i64.wrap ((l.sights.xs.length : Int) - 1) = ((l.sights.xs.length - 1 : Nat) : Int) := wrap_pred (by omega) (by omega)
  have hl0 : 0 < l.sights.xs.length := by omega
  have hl1 : l.sights.xs.length - 1 < l.sights.xs.length := by omega
  have ha0 : addrV 9 (.pure (l.sights.pv Sight.cells 9)) (.pure (.int .i64 0)) = some (.val (.pure (.ptr l.sights.hot (l.sights.xs[0]'hl0).cells 0))) := addrV_sl (n := 0) hl0
  have hP : Hide (inS l y most = if most < 0 then ((zeroB, 1) : Box × Int) else if y < (l.sights.xs[0]'hl0).year ∨ (l.sights.xs[l.sights.xs.length - 1]'hl1).year < y then (zeroB, 5) else match extL l most with
    | none => (zeroB, 9)
    | some B => if (l.sights.xs[geI y l.sights.xs]!).year = y then (B[geI y l.sights.xs]!, 0) else (coverB (B[geI y l.sights.xs - 1]!) (B[geI y l.sights.xs]!), 0)) := ⟨by
      unfold inS
      rw [if_pos hck, getElem!_pos l.sights.xs 0 hl0, getElem!_pos l.sights.xs (l.sights.xs.length - 1) hl1]
      first | done | rfl⟩
  generalize inS l y most = P at *
  simp only [Life.cells] at hc
  simp only [Sight.cells] at ha0
  rw [hck] at hcc
  clear hck
  by_cases hm : most < 0
  · have hP2 : P = (zeroB, 1) := by rw [hP.h, if_pos hm]
    subst hP2
    (repeat' first | simp [*, initEnv, c13, zeroB] | (refine wpIf_two (fun _ h => ?_) (fun _ h => ?_) <;> try simp [-Nat.le_zero_eq] at h) | (apply wpE_appendV; (focus (first | assumption | (repeat' first | assumption | with_reducible apply GrowV.setNew | with_reducible apply GrowV.alloc | with_reducible apply GrowV.set | (with_reducible show ¬ Names _ _; simp [*]; done)))); (focus (exact fun _ => rfl)); (focus decide); (focus (intro a; first | rfl | simp)); (focus (simp [maxCells] <;> omega))) | (refine after_intro fun v2 H2 hv2 hnx2 hget2 hnew2 hone2 hcel2 => ?_))
  by_cases hy : y < (l.sights.xs[0]'hl0).year ∨ (l.sights.xs[l.sights.xs.length - 1]'hl1).year < y
  · have hP2 : P = (zeroB, 5) := by rw [hP.h, if_neg hm, if_pos hy]
    subst hP2
    rcases hy with hy | hy
    · (repeat' first | simp [*, initEnv, c13, zeroB] | (refine wpIf_two (fun _ h => ?_) (fun _ h => ?_) <;> try simp [-Nat.le_zero_eq] at h) | (apply wpE_appendV; (focus (first | assumption | (repeat' first | assumption | with_reducible apply GrowV.setNew | with_reducible apply GrowV.alloc | with_reducible apply GrowV.set | (with_reducible show ¬ Names _ _; simp [*]; done)))); (focus (exact fun _ => rfl)); (focus decide); (focus (intro a; first | rfl | simp)); (focus (simp [maxCells] <;> omega))) | (refine after_intro fun v2 H2 hv2 hnx2 hget2 hnew2 hone2 hcel2 => ?_))
    · (repeat' first | simp [*, initEnv, c13, zeroB] | (refine wpIf_two (fun _ h => ?_) (fun _ h => ?_) <;> try simp [-Nat.le_zero_eq] at h) | (apply wpE_appendV; (focus (first | assumption | (repeat' first | assumption | with_reducible apply GrowV.setNew | with_reducible apply GrowV.alloc | with_reducible apply GrowV.set | (with_reducible show ¬ Names _ _; simp [*]; done)))); (focus (exact fun _ => rfl)); (focus decide); (focus (intro a; first | rfl | simp)); (focus (simp [maxCells] <;> omega))) | (refine after_intro fun v2 H2 hv2 hnx2 hget2 hnew2 hone2 hcel2 => ?_))
  have hm' : 0 ≤ most := by omega
  have hyl : (l.sights.xs[0]'hl0).year ≤ y := by omega
  have hyh : y ≤ (l.sights.xs[l.sights.xs.length - 1]'hl1).year := by omega
  have hy1 : ¬ y < (l.sights.xs[0]'hl0).year := by omega
  have hy2 : ¬ (l.sights.xs[l.sights.xs.length - 1]'hl1).year < y := by omega
  cases hB : extL l most with
  | none =>
    have hP2 : P = (zeroB, 9) := by rw [hP.h, if_neg hm, if_neg hy, hB]
    subst hP2
    rw [hB] at hc
    clear hP hy
    (repeat' first | simp [*, initEnv, c13, zeroB, extPV] | (refine wpIf_two (fun _ h => ?_) (fun _ h => ?_) <;> try simp [-Nat.le_zero_eq] at h) | (apply wpE_appendV; (focus (first | assumption | (repeat' first | assumption | with_reducible apply GrowV.setNew | with_reducible apply GrowV.alloc | with_reducible apply GrowV.set | (with_reducible show ¬ Names _ _; simp [*]; done)))); (focus (exact fun _ => rfl)); (focus decide); (focus (intro a; first | rfl | simp)); (focus (simp [maxCells] <;> omega))) | (refine after_intro fun v2 H2 hv2 hnx2 hget2 hnew2 hone2 hcel2 => ?_))
  | some B =>
    obtain ⟨hbl, hbp⟩ := extL_ok hr hB
    obtain ⟨k, g1, g5, g3, hP2⟩ : ∃ k : Nat, ∃ g1 : k < l.sights.xs.length, (0 < k ∨ (l.sights.xs[k]'g1).year = y) ∧ Hide ((∀ i (h : i < l.sights.xs.length), i < k → l.sights.xs[i].year < y) ∧ y ≤ (l.sights.xs[k]'g1).year) ∧
        Hide (P = if (l.sights.xs[k]'g1).year = y then (B[k]!, 0) else (coverB (B[k - 1]!) (B[k]!), 0)) := by
      obtain ⟨g1, g2, g3, g4⟩ := geI_lt (y := y) (l := l.sights.xs) ⟨_, List.getElem_mem hl1, hyh⟩
      refine ⟨geI y l.sights.xs, g1, ?_, ⟨g3, g4 g1⟩, ⟨?_⟩⟩
      · rcases Nat.eq_zero_or_pos (geI y l.sights.xs) with h | h
        · right
          have := g4 g1
          simp only [h] at this ⊢
          omega
        · exact .inl h
      · rw [hP.h, if_neg hm, if_neg hy, hB]
        simp only
        rw [getElem!_pos l.sights.xs _ g1]
    rw [hB] at hc
    clear hP hy hB
    have hkB : k < B.length := by omega
    have hk1 : k - 1 < B.length := by omega
    rw [getElem!_pos B _ hkB, getElem!_pos B _ hk1] at hP2
    have hcov : ∀ H, doCall (calleeOf G (n + 8)) H (.pure (.func 47 [])) [.pure (.agg (B[k - 1]'hk1).cells), .pure (.agg (B[k]'hkB).cells)] = some (.val (.pure (.tup [.agg (coverB (B[k - 1]'hk1) (B[k]'hkB)).cells, .bool true]))) := fun H =>
      d47 (n + 4) H _ _ _ _ _ _ _ _ (by show properR (B[k - 1]'hk1) = true; rw [← spanS_valid]; exact hbp _ (List.getElem_mem _)) (by show properR (B[k]'hkB) = true; rw [← spanS_valid]; exact hbp _ (List.getElem_mem _))
    simp only [Box.cells] at hcov
    clear hbp
    have hne : ¬ (l.sights.xs = []) := by intro e; rw [e] at hl0; simp at hl0
    by_cases hyk : (l.sights.xs[k]'g1).year = y
    · have hP3 : P = (B[k]'hkB, 0) := by rw [hP2.h, if_pos hyk]
      subst hP3
      clear hP2 hcov
      (repeat' first | simp [*, initEnv, c13, extPV] | (refine wpIf_two (fun _ h => ?_) (fun _ h => ?_) <;> try simp [-Nat.le_zero_eq] at h) | (apply wpE_appendV; (focus (first | assumption | (repeat' first | assumption | with_reducible apply GrowV.setNew | with_reducible apply GrowV.alloc | with_reducible apply GrowV.set | (with_reducible show ¬ Names _ _; simp [*]; done)))); (focus (exact fun _ => rfl)); (focus decide); (focus (intro a; first | rfl | simp)); (focus (simp [maxCells] <;> omega))) | (refine after_intro fun v2 H2 hv2 hnx2 hget2 hnew2 hone2 hcel2 => ?_))
      refine wp_loopF [(11, 11), (52, 61)] (fun (i : Nat) env H => env 11 = .pure (.int .i64 i) ∧ i ≤ k ∧ H.get 0 = .cells true [.pure (.int .i64 0), .pure (.int .i64 0), .pure (.int .i64 0), .pure (.int .i64 0)]) (fun i => k - i) 0 ?_ ?_ ?_ ?_
      · decide
      · exact ⟨by simp, Nat.zero_le _, by simp⟩
      · simp only [loopFuel]; omega
      rintro i env H ⟨h11, hi, g0⟩
      have hil : i < l.sights.xs.length := by omega
      have hl0' := nx_of_get g0
      have nz : ¬ (0 = H.nx) := by omega
      have hfiti : i < 9223372036854775807 := by omega
      by_cases hik : i = k
      case neg =>
        have := g3.h.1 i hil (by omega)
        (repeat' first | simp [*, initEnv] | (refine wpIf_two (fun _ h => ?_) (fun _ h => ?_) <;> try simp [-Nat.le_zero_eq] at h) | (apply wpE_appendV; (focus (first | assumption | (repeat' first | assumption | with_reducible apply GrowV.setNew | with_reducible apply GrowV.alloc | with_reducible apply GrowV.set | (with_reducible show ¬ Names _ _; simp [*]; done)))); (focus (exact fun _ => rfl)); (focus decide); (focus (intro a; first | rfl | simp)); (focus (simp [maxCells] <;> omega))) | (refine after_intro fun v2 H2 hv2 hnx2 hget2 hnew2 hone2 hcel2 => ?_))
        exact ⟨i + 1, by omega, by simp, by omega⟩
      subst hik
      have hnl : ¬ (l.sights.xs[i]'g1).year < y := by have := g3.h.2; omega
      (repeat' first | simp [*, initEnv] | (refine wpIf_two (fun _ h => ?_) (fun _ h => ?_) <;> try simp [-Nat.le_zero_eq] at h) | (apply wpE_appendV; (focus (first | assumption | (repeat' first | assumption | with_reducible apply GrowV.setNew | with_reducible apply GrowV.alloc | with_reducible apply GrowV.set | (with_reducible show ¬ Names _ _; simp [*]; done)))); (focus (exact fun _ => rfl)); (focus decide); (focus (intro a; first | rfl | simp)); (focus (simp [maxCells] <;> omega))) | (refine after_intro fun v2 H2 hv2 hnx2 hget2 hnew2 hone2 hcel2 => ?_))
    · have hP3 : P = (coverB (B[k - 1]'hk1) (B[k]'hkB), 0) := by rw [hP2.h, if_neg hyk]
      subst hP3
      have hk0 : 0 < k := by omega
      have hfit : k < 9223372036854775807 := by omega
      have ha1 : addrV 4 (.pure ((Sl.mk false B).pv Box.cells 4)) (.pure (.int .i64 ((k - 1 : Nat) : Int))) = some (.val (.pure (.ptr false (B[k - 1]'hk1).cells 0))) := addrV_sl (s := Sl.mk false B) hk1
      simp only [Box.cells] at ha1
      clear hP2
      (repeat' first | simp [*, initEnv, c13, extPV] | (refine wpIf_two (fun _ h => ?_) (fun _ h => ?_) <;> try simp [-Nat.le_zero_eq] at h) | (apply wpE_appendV; (focus (first | assumption | (repeat' first | assumption | with_reducible apply GrowV.setNew | with_reducible apply GrowV.alloc | with_reducible apply GrowV.set | (with_reducible show ¬ Names _ _; simp [*]; done)))); (focus (exact fun _ => rfl)); (focus decide); (focus (intro a; first | rfl | simp)); (focus (simp [maxCells] <;> omega))) | (refine after_intro fun v2 H2 hv2 hnx2 hget2 hnew2 hone2 hcel2 => ?_))
      refine wp_loopF [(11, 11), (52, 61)] (fun (i : Nat) env H => env 11 = .pure (.int .i64 i) ∧ i ≤ k ∧ H.get 0 = .cells true [.pure (.int .i64 0), .pure (.int .i64 0), .pure (.int .i64 0), .pure (.int .i64 0)]) (fun i => k - i) 0 ?_ ?_ ?_ ?_
      · decide
      · exact ⟨by simp, Nat.zero_le _, by simp⟩
      · simp only [loopFuel]; omega
      rintro i env H ⟨h11, hi, g0⟩
      have hil : i < l.sights.xs.length := by omega
      have hl0' := nx_of_get g0
      have nz : ¬ (0 = H.nx) := by omega
      have hfiti : i < 9223372036854775807 := by omega
      by_cases hik : i = k
      case neg =>
        have := g3.h.1 i hil (by omega)
        (repeat' first | simp [*, initEnv] | (refine wpIf_two (fun _ h => ?_) (fun _ h => ?_) <;> try simp [-Nat.le_zero_eq] at h) | (apply wpE_appendV; (focus (first | assumption | (repeat' first | assumption | with_reducible apply GrowV.setNew | with_reducible apply GrowV.alloc | with_reducible apply GrowV.set | (with_reducible show ¬ Names _ _; simp [*]; done)))); (focus (exact fun _ => rfl)); (focus decide); (focus (intro a; first | rfl | simp)); (focus (simp [maxCells] <;> omega))) | (refine after_intro fun v2 H2 hv2 hnx2 hget2 hnew2 hone2 hcel2 => ?_))
        exact ⟨i + 1, by omega, by simp, by omega⟩
      subst hik
      have hnl : ¬ (l.sights.xs[i]'g1).year < y := by have := g3.h.2; omega
      (repeat' first | simp [*, initEnv] | (refine wpIf_two (fun _ h => ?_) (fun _ h => ?_) <;> try simp [-Nat.le_zero_eq] at h) | (apply wpE_appendV; (focus (first | assumption | (repeat' first | assumption | with_reducible apply GrowV.setNew | with_reducible apply GrowV.alloc | with_reducible apply GrowV.set | (with_reducible show ¬ Names _ _; simp [*]; done)))); (focus (exact fun _ => rfl)); (focus decide); (focus (intro a; first | rfl | simp)); (focus (simp [maxCells] <;> omega))) | (refine after_intro fun v2 H2 hv2 hnx2 hget2 hnew2 hone2 hcel2 => ?_))
@[simp] theorem d13 (n : Nat) (H : Heap) (l_habit_step : Int) (l_habit_place : Int) (l_habit_sink : Int) (l_sights : Sl Sight) (l_notes : Sl Note) (y : Int) (most : Int) (hs : (fun (l : Life) => shortS l) (⟨⟨l_habit_step, l_habit_place, l_habit_sink⟩, l_sights, l_notes⟩ : Life)) : doCall (calleeOf G (n + 9)) H (.pure (.func 13 [])) [.pure (.agg [.int .i64 l_habit_step, .int .i64 l_habit_place, .int .i64 l_habit_sink, (l_sights).pv Sight.cells 9, (l_notes).pv Note.cells 4]), .pure (.int .i64 y), .pure (.int .i64 most)] = some (.val (.pure ((fun (l : Life) => .tup [.agg (inS l y most).1.cells, .int .i64 (inS l y most).2]) (⟨⟨l_habit_step, l_habit_place, l_habit_sink⟩, l_sights, l_notes⟩ : Life)))) :=
  call_pureC (ps := [_, _, _]) (caps := []) sh13 (e13 n (⟨⟨l_habit_step, l_habit_place, l_habit_sink⟩, l_sights, l_notes⟩ : Life) y most hs)
end Go.Proofs.YtnomliioadjdgaaGreat.Vm
