/- The courses of a life, as the program yields them. -/
import Derived.Test.YtjjkgamklbgnlaaGreatRefTell
namespace Go.Proofs.YtjjkgamklbgnlaaGreat.Vm
open Go
set_option linter.unusedSimpArgs false
set_option linter.unusedVariables false
set_option maxHeartbeats 4000000

/-- The course of a number: its digits to the base 3. -/
def toC : Nat → Nat → List Int
  | 0, _ => []
  | m + 1, j => ((j % 3 : Nat) : Int) :: toC m (j / 3)
def incC : List Int → Option (List Int)
  | [] => none
  | d :: r => if d < 2 then some ((d + 1) :: r) else (incC r).map (0 :: ·)
theorem toC_length : ∀ (m j : Nat), (toC m j).length = m
  | 0, _ => rfl
  | m + 1, j => by simp [toC, toC_length m]
theorem toC_kinds : ∀ (m j : Nat), ∀ k ∈ toC m j, 0 ≤ k ∧ k ≤ 2
  | 0, _ => by simp [toC]
  | m + 1, j => by
    intro k hk
    rcases List.mem_cons.1 hk with rfl | hk
    · omega
    · exact toC_kinds m _ k hk
theorem toC_zero : ∀ (m : Nat), toC m 0 = List.replicate m 0
  | 0 => rfl
  | m + 1 => by simp [toC, toC_zero m, List.replicate_succ]
theorem incC_toC : ∀ (m j : Nat), j < 3 ^ m → incC (toC m j) = if j + 1 < 3 ^ m then some (toC m (j + 1)) else none
  | 0, j, h => by
    have : ¬ (j + 1 < 3 ^ 0) := by simp
    rw [if_neg this]; rfl
  | m + 1, j, h => by
    have hj : j / 3 < 3 ^ m := by rw [Nat.pow_succ] at h; omega
    rw [toC, incC, incC_toC m _ hj]
    by_cases hd : ((j % 3 : Nat) : Int) < 2
    · have h1 : (j + 1) % 3 = j % 3 + 1 := by omega
      have h2 : (j + 1) / 3 = j / 3 := by omega
      have h3 : j + 1 < 3 ^ (m + 1) := by rw [Nat.pow_succ] at h ⊢; omega
      rw [if_pos hd, if_pos h3, toC, h1, h2]
      simp
    · have h1 : (j + 1) % 3 = 0 := by omega
      have h2 : (j + 1) / 3 = j / 3 + 1 := by omega
      rw [if_neg hd]
      by_cases h3 : j + 1 < 3 ^ (m + 1)
      · have h4 : j / 3 + 1 < 3 ^ m := by rw [Nat.pow_succ] at h3; omega
        rw [if_pos h3, if_pos h4, toC, h1, h2]; rfl
      · have h4 : ¬ (j / 3 + 1 < 3 ^ m) := by rw [Nat.pow_succ] at h3 h; omega
        rw [if_neg h3, if_neg h4]; rfl

/-! ### What tell returns names no hot memory -/
theorem cold_sl {α : Type} {f : α → List PV} {sz n : Nat} (hf : ∀ a, (f a).all (PV.coldN n) = true) (l : List α) : PV.coldN (n + 1) ((Sl.of l).pv f sz) = true := by
  cases l with
  | nil => rfl
  | cons a l => simp [Sl.of, Sl.pv, PV.coldN]; exact ⟨by simpa using hf a, fun a _ => by simpa using hf a⟩
theorem cold_tell (o : Option TellR) : (tellPV o).cold = true := by
  cases o with
  | none => rfl
  | some t =>
    have h1 := cold_sl (f := Box.cells) (sz := 4) (n := 9) (fun a => rfl) t.boxes
    have h2 := cold_sl (f := Span.cells) (sz := 2) (n := 9) (fun a => rfl) t.heights
    have h3 := cold_sl (f := strF) (sz := 1) (n := 9) (fun a => rfl) t.letters
    simp [tellPV, PV.cold, PV.coldN, TellR.told] at *
    simp [h1, h2, h3, PV.coldN]
theorem gen_call (n : Nat) (l : Life) (hr : Right l) (H : Heap) (id0 : Nat) (r : LoopR) (hr1 : r.state = .ready) (hr2 : r.pending = .normal) (hr3 : r.params.length = 2) (hid0 : id0 < H.nx) (hg : H.get id0 = .loop r)
    (J : Nat → Nat → Heap → Prop)
    (hstab : ∀ idc j H1 H2, J idc j H1 → H1.nx ≤ H2.nx → (∀ i, i < H1.nx → i ≠ idc → i ≠ id0 → H2.get i = H1.get i) → J idc j H2)
    (h0 : ∀ idc, H.nx ≤ idc → J idc 0 H)
    (hskip : ∀ idc j H1, j < 3 ^ (l.sights.xs.length - 1) → tellS l (toC (l.sights.xs.length - 1) j) = none → J idc j H1 → J idc (j + 1) H1)
    (hbody : ∀ idc j t H1, j < 3 ^ (l.sights.xs.length - 1) → tellS l (toC (l.sights.xs.length - 1) j) = some t → J idc j H1 → H.nx ≤ idc → H1.get idc = .cells true (rowOf intF (toC (l.sights.xs.length - 1) j)) → H1.get id0 = .loop r →
      wp (calleeOf G (n + 7)) r.assign ((r.params.zip [.row idc 1 0 (l.sights.xs.length - 1), .pure (.agg t.told.cells)]).foldl (fun e x => upd e x.1 x.2) r.env) H1 (fun x env2 H2 => x = .normal ∧ H2 = H1 ∧
        wp (calleeOf G (n + 7)) r.body env2 (H1.set id0 (.loop { r with state := .busy })) (fun x _ H3 => x = .normal ∧ H3.get id0 = .loop { r with state := .busy } ∧ H3.get idc = .cells true (rowOf intF (toC (l.sights.xs.length - 1) j)) ∧ H1.nx ≤ H3.nx ∧ J idc (j + 1) H3) .mk) .mk) :
    ∃ v H', Vm.call G (n + 9) (.fn 97) [.yield id0, .pure (.ptr false l.cells 0)] H = some (v, H') ∧ H'.get id0 = .loop r ∧ ∃ idc, J idc (3 ^ (l.sights.xs.length - 1)) H' := by
  have h1 := hr.one
  have h9 := hr.nine
  have hw : IntKind.i64.wrap ((l.sights.xs.length : Int) - 1) = ((l.sights.xs.length - 1 : Nat) : Int) := wrap_pred (by omega) (by omega)
  obtain ⟨m, hm0⟩ : ∃ m, m = l.sights.xs.length - 1 := ⟨_, rfl⟩
  rw [← hm0] at hskip hbody hw ⊢
  have hm8 : m ≤ 8 := by omega
  have hmx : m * 8 ≤ maxCells := by unfold maxCells; omega
  have hmy : m ≤ maxCells := by unfold maxCells; omega
  have hm : Hide _ := ⟨hm0⟩
  clear hm0
  have hlr : Hide (r = { r with state := .ready, pending := .normal }) := ⟨by rw [← hr1, ← hr2]⟩
  refine call_of rfl g97 rfl ?_
  (repeat' first | simp [*, initEnv, c97] | (refine wpIf_two (fun _ h => ?_) (fun _ h => ?_) <;> try simp [-Nat.le_zero_eq] at h) | (apply wpE_appendV; (focus (first | assumption | (repeat' first | assumption | with_reducible apply GrowV.setNew | with_reducible apply GrowV.alloc | with_reducible apply GrowV.set | (with_reducible show ¬ Names _ _; simp [*]; done)))); (focus (exact fun _ => rfl)); (focus decide); (focus (intro a; first | rfl | simp)); (focus (simp [maxCells] <;> omega))) | (refine after_intro fun v2 H2 hv2 hnx2 hget2 hnew2 hone2 hcel2 => ?_))
  have hs0 : H.nx ≠ id0 := by omega
  refine wp_loopF [(4, 6), (12, 45)] (fun (j : Nat) env H1 => j < 3 ^ m ∧ H1.get H.nx = .cells true (rowOf intF (toC m j)) ∧ H1.get id0 = .loop r ∧ J H.nx j H1) (fun j => 3 ^ m - j) 0 ?_ ?_ ?_ ?_
  · decide
  · refine ⟨Nat.pos_of_ne_zero (by simp), ?_, ?_, ?_⟩
    · rw [get_alloc_nx, toC_zero, rowOf_zeros]; simp
    · rw [get_alloc_lt hid0]; exact hg
    · exact hstab _ _ _ _ (h0 _ (Nat.le_refl _)) (by simp) (fun i hi _ _ => get_alloc_lt hi)
  · have : 3 ^ m ≤ 3 ^ 8 := Nat.pow_le_pow_right (by decide) hm8
    simp only [loopFuel]
    have : (3 ^ 8 : Nat) = 6561 := rfl
    omega
  rintro j env H1 ⟨hj, hgc, hgl, hJ⟩
  have hidc := nx_of_get hgc
  have hid1 := lt_of_get (H := H1) (i := id0) (by rw [hgl]; simp)
  have hcl := toC_length m j
  have hown : OwnV intF 1 H1 (.row H.nx 1 0 m) (toC m j) := .inr ⟨H.nx, by rw [hcl], hgc⟩
  obtain ⟨s, hs1, hs2⟩ : ∃ s : Sl Int, s.xs = toC m j ∧ FrzK H1 true 12 (.row H.nx 1 0 m) (s.pv intF 1) := by
    rcases hown.frz (k := true) (n := 10) (fun _ => rfl) with h | ⟨h, h'⟩
    · cases hc : toC m j with
      | nil => rw [hc] at h; exact ⟨.nil, rfl, h⟩
      | cons a q => rw [hc] at h; exact ⟨.mk true (a :: q), rfl, h⟩
    · exact ⟨.mk true [], h.symm, h'⟩
  have htell : callP G (n + 8) 42 [.agg l.cells, s.pv intF 1] = some (tellPV (tellS l (toC m j))) := by
    have := e42 (n + 1) l s hr (by have := hm.h; rw [hs1, hcl]; omega) (by rw [hs1]; exact toC_kinds m j)
    rw [hs1] at this
    exact this
  (repeat' first | simp [*, initEnv] | (refine wpIf_two (fun _ h => ?_) (fun _ h => ?_) <;> try simp [-Nat.le_zero_eq] at h) | (apply wpE_appendV; (focus (first | assumption | (repeat' first | assumption | with_reducible apply GrowV.setNew | with_reducible apply GrowV.alloc | with_reducible apply GrowV.set | (with_reducible show ¬ Names _ _; simp [*]; done)))); (focus (exact fun _ => rfl)); (focus decide); (focus (intro a; first | rfl | simp)); (focus (simp [maxCells] <;> omega))) | (refine after_intro fun v2 H2 hv2 hnx2 hget2 hnew2 hone2 hcel2 => ?_))
  refine wpE_own (caps := []) sh42 (.cons (.pure (.agg l.cells)) (.cons hs2 .nil)) htell (cold_tell _) ?_
  have hs1' : ¬ (id0 = H.nx) := by omega
  cases ht : tellS l (toC m j) with
  | none =>
    obtain ⟨H9, h9e⟩ : ∃ H9, H9 = (H1.alloc (.cells true [.pure .nils, .pure .nils, .pure .nils])).set H1.nx (.cells true [.pure .nils, .pure .nils, .pure .nils]) := ⟨_, rfl⟩
    have gc9 : H9.get H.nx = .cells true (rowOf intF (toC m j)) := by rw [h9e, get_set_ne (by omega), get_alloc_lt hidc]; exact hgc
    have gl9 : H9.get id0 = .loop r := by rw [h9e, get_set_ne (by omega), get_alloc_lt hid1]; exact hgl
    have J9 : J H.nx (j + 1) H9 := hskip _ _ _ hj ht (hstab _ _ _ _ hJ (by rw [h9e]; simp) (fun i hi _ _ => by rw [h9e, get_set_ne (by omega), get_alloc_lt hi]))
    clear hskip hbody hJ
    (repeat' first | simp [*, initEnv, tellPV] | (refine wpIf_two (fun _ h => ?_) (fun _ h => ?_) <;> try simp [-Nat.le_zero_eq] at h) | (apply wpE_appendV; (focus (first | assumption | (repeat' first | assumption | with_reducible apply GrowV.setNew | with_reducible apply GrowV.alloc | with_reducible apply GrowV.set | (with_reducible show ¬ Names _ _; simp [*]; done)))); (focus (exact fun _ => rfl)); (focus decide); (focus (intro a; first | rfl | simp)); (focus (simp [maxCells] <;> omega))) | (refine after_intro fun v2 H2 hv2 hnx2 hget2 hnew2 hone2 hcel2 => ?_))
    rw [← h9e]
    clear h9e
    refine wp_loopF [(6, 6), (28, 45)] (fun (k : Nat) env2 H2 => env2 28 = .pure (.int .i64 k) ∧ k ≤ m ∧ H2.get H.nx = .cells true (rowOf intF (List.replicate k 0 ++ (toC m j).drop k)) ∧ H2.get id0 = .loop r ∧ J H.nx (j + 1) H2 ∧
        Hide (incC (toC m j) = (incC ((toC m j).drop k)).map (List.replicate k 0 ++ ·))) (fun k => m - k) 0 ?_ ?_ ?_ ?_
    · decide
    · refine ⟨by simp, by omega, by simpa using gc9, gl9, J9, ⟨by simp⟩⟩
    · simp only [loopFuel]; omega
    rintro k env2 H2 ⟨h28, hk, hgc2, hgl2, hJ2, hinc⟩
    have hfitk : k < 9223372036854775807 := by omega
    have hXl : (List.replicate k 0 ++ (toC m j).drop k).length = m := by rw [List.length_append, List.length_replicate, List.length_drop, hcl]; omega
    have hXk : ∀ (h : k < m) h', (List.replicate k 0 ++ (toC m j).drop k)[k]'h' = (toC m j)[k]'(by omega) := fun h h' => by
      rw [List.getElem_append_right (by simp)]; simp
    have hXs : ∀ (h : k < m) x, (List.replicate k 0 ++ (toC m j).drop k).set k x = List.replicate k 0 ++ x :: (toC m j).drop (k + 1) := fun h x => by
      rw [List.set_append_right _ _ (by simp), List.length_replicate, Nat.sub_self, List.drop_eq_getElem_cons (by omega), List.set_cons_zero]
    have hck : ∀ (h : k < m), 0 ≤ (toC m j)[k]'(by omega) ∧ (toC m j)[k]'(by omega) ≤ 2 := fun h => toC_kinds m j _ (List.getElem_mem _)
    have hwk : ∀ (h : k < m), IntKind.i64.wrap ((toC m j)[k]'(by omega) + 1) = (toC m j)[k]'(by omega) + 1 := fun h => by have := hck h; exact wrap64 (by omega) (by omega)
    have hi1 : ∀ (h : k < m), (toC m j)[k]'(by omega) < 2 → Hide (j + 1 < 3 ^ m ∧ toC m (j + 1) = List.replicate k 0 ++ ((toC m j)[k]'(by omega) + 1) :: (toC m j).drop (k + 1)) := fun h h2 => ⟨by
      have e1 := hinc.h
      rw [List.drop_eq_getElem_cons (by omega), incC, if_pos h2, incC_toC m j hj] at e1
      split at e1
      · rename_i h3; simp at e1; exact ⟨h3, e1⟩
      · simp at e1⟩
    have hi2 : ∀ (h : k < m), ¬ (toC m j)[k]'(by omega) < 2 → Hide (incC (toC m j) = (incC ((toC m j).drop (k + 1))).map (List.replicate (k + 1) 0 ++ ·)) := fun h h2 => ⟨by
      have e1 := hinc.h
      rw [List.drop_eq_getElem_cons (by omega), incC, if_neg h2] at e1
      rw [e1, List.replicate_succ', Option.map_map]
      simp [Function.comp_def]⟩
    have hi3 : k = m → Hide (¬ j + 1 < 3 ^ m) := fun h => ⟨fun h3 => by
      have e1 := hinc.h
      rw [List.drop_eq_nil_of_le (by omega), incC_toC m j hj, if_pos h3] at e1
      simp [incC] at e1⟩
    have hlen9 : Hide _ := ⟨hcl⟩
    obtain ⟨X, hX⟩ : ∃ X, X = List.replicate k 0 ++ (toC m j).drop k := ⟨_, rfl⟩
    have hXk' : Hide (∀ (h : k < m) h', X[k]'h' = (toC m j)[k]'(by omega)) := ⟨by subst hX; exact hXk⟩
    rw [← hX] at hgc2 hXl hXs
    have hX' : Hide _ := ⟨hX⟩
    have hXs' : Hide _ := ⟨hXs⟩
    clear hXk hX hXs hinc
    have hidc2 := nx_of_get hgc2
    have hid2 := lt_of_get (H := H2) (i := id0) (by rw [hgl2]; simp)
    have hJs : ∀ o, Hide (J H.nx (j + 1) (H2.set H.nx o)) := fun o => ⟨hstab _ _ _ _ hJ2 (by simp) (fun i _ hi _ => get_set_ne hi)⟩
    have hlw : ∀ (h : k < m) h', IntKind.i64.wrap (X[k]'h' + 1) = X[k]'h' + 1 := fun h h' => by rw [hXk'.h h]; exact hwk h
    have hs1' : ¬ (id0 = H.nx) := by omega
    have hJ2' : Hide _ := ⟨hJ2⟩
    clear hwk hJ2
    (repeat' first | simp [*, initEnv] | (refine wpIf_two (fun _ h => ?_) (fun _ h => ?_) <;> try simp [-Nat.le_zero_eq] at h) | (apply wpE_appendV; (focus (first | assumption | (repeat' first | assumption | with_reducible apply GrowV.setNew | with_reducible apply GrowV.alloc | with_reducible apply GrowV.set | (with_reducible show ¬ Names _ _; simp [*]; done)))); (focus (exact fun _ => rfl)); (focus decide); (focus (intro a; first | rfl | simp)); (focus (simp [maxCells] <;> omega))) | (refine after_intro fun v2 H2 hv2 hnx2 hget2 hnew2 hone2 hcel2 => ?_))
    · have hkm : k < m := by assumption
      have h2 : X[k]'(by omega) < 2 := by assumption
      rw [hXk'.h hkm] at h2
      obtain ⟨h3, h4⟩ := (hi1 hkm h2).h
      refine ⟨j + 1, by omega, h3, ?_, (hJs _).h⟩
      rw [h4, hXs'.h hkm, hXk'.h hkm]
    · have hkm : k < m := by assumption
      have h2 : ¬ X[k]'(by omega) < 2 := by omega
      rw [hXk'.h hkm] at h2
      refine ⟨k + 1, by omega, by simp, by omega, ?_, (hJs _).h, hi2 hkm h2⟩
      rw [hXs'.h hkm, List.replicate_succ']
      simp
    · have hkm : k = m := by omega
      have h3 := (hi3 hkm).h
      have h4 : 3 ^ m = j + 1 := by omega
      rw [h4]
      exact ⟨_, hJ2'.h⟩
  | some t =>
    (repeat' first | simp [*, initEnv, tellPV] | (refine wpIf_two (fun _ h => ?_) (fun _ h => ?_) <;> try simp [-Nat.le_zero_eq] at h) | (apply wpE_appendV; (focus (first | assumption | (repeat' first | assumption | with_reducible apply GrowV.setNew | with_reducible apply GrowV.alloc | with_reducible apply GrowV.set | (with_reducible show ¬ Names _ _; simp [*]; done)))); (focus (exact fun _ => rfl)); (focus decide); (focus (intro a; first | rfl | simp)); (focus (simp [maxCells] <;> omega))) | (refine after_intro fun v2 H2 hv2 hnx2 hget2 hnew2 hone2 hcel2 => ?_))
    obtain ⟨H9, h9e⟩ : ∃ H9, H9 = (H1.alloc (.cells true [.pure .nils, .pure .nils, .pure .nils])).set H1.nx (.cells true [.pure (Sl.pv Box.cells 4 t.told.boxes), .pure (Sl.pv Span.cells 2 t.told.heights), .pure (Sl.pv strF 1 t.told.letters)]) := ⟨_, rfl⟩
    have gc9 : H9.get H.nx = .cells true (rowOf intF (toC m j)) := by rw [h9e, get_set_ne (by omega), get_alloc_lt hidc]; exact hgc
    have gl9 : H9.get id0 = .loop r := by rw [h9e, get_set_ne (by omega), get_alloc_lt hid1]; exact hgl
    have J9 : J H.nx j H9 := hstab _ _ _ _ hJ (by rw [h9e]; simp) (fun i hi _ _ => by rw [h9e, get_set_ne (by omega), get_alloc_lt hi])
    rw [← h9e]
    refine wpE_yield gl9 hr1 (by rw [hr3]; rfl) ?_
    refine (hbody H.nx j t _ hj ht J9 (Nat.le_refl _) gc9 gl9).mono ?_
    rintro x env5 H5 ⟨rfl, rfl, hw5⟩
    refine ⟨rfl, rfl, hw5.mono ?_⟩
    rintro x env6 H6 ⟨rfl, g1, g2, g3, g4⟩
    refine ⟨rfl, g1, ?_⟩
    rw [← hlr.h]
    clear hskip hbody hJ J9 gc9 gl9 h9e hw5
    obtain ⟨H9, h9e⟩ : ∃ H9, H9 = H6.set id0 (.loop r) := ⟨_, rfl⟩
    have hid6 := lt_of_get (H := H6) (i := id0) (by rw [g1]; simp)
    have gc9 : H9.get H.nx = .cells true (rowOf intF (toC m j)) := by rw [h9e, get_set_ne (by omega)]; exact g2
    have gl9 : H9.get id0 = .loop r := by rw [h9e, get_set_own hid6]
    have J9 : J H.nx (j + 1) H9 := hstab _ _ _ _ g4 (by rw [h9e]; simp) (fun i hi _ hi2 => by rw [h9e, get_set_ne hi2])
    rw [← h9e]
    clear h9e g1 g2 g3 g4
    (repeat' first | simp [*, initEnv] | (refine wpIf_two (fun _ h => ?_) (fun _ h => ?_) <;> try simp [-Nat.le_zero_eq] at h) | (apply wpE_appendV; (focus (first | assumption | (repeat' first | assumption | with_reducible apply GrowV.setNew | with_reducible apply GrowV.alloc | with_reducible apply GrowV.set | (with_reducible show ¬ Names _ _; simp [*]; done)))); (focus (exact fun _ => rfl)); (focus decide); (focus (intro a; first | rfl | simp)); (focus (simp [maxCells] <;> omega))) | (refine after_intro fun v2 H2 hv2 hnx2 hget2 hnew2 hone2 hcel2 => ?_))
    refine wp_loopF [(6, 6), (28, 45)] (fun (k : Nat) env2 H2 => env2 28 = .pure (.int .i64 k) ∧ k ≤ m ∧ H2.get H.nx = .cells true (rowOf intF (List.replicate k 0 ++ (toC m j).drop k)) ∧ H2.get id0 = .loop r ∧ J H.nx (j + 1) H2 ∧
        Hide (incC (toC m j) = (incC ((toC m j).drop k)).map (List.replicate k 0 ++ ·))) (fun k => m - k) 0 ?_ ?_ ?_ ?_
    · decide
    · refine ⟨by simp, by omega, by simpa using gc9, gl9, J9, ⟨by simp⟩⟩
    · simp only [loopFuel]; omega
    rintro k env2 H2 ⟨h28, hk, hgc2, hgl2, hJ2, hinc⟩
    have hfitk : k < 9223372036854775807 := by omega
    have hXl : (List.replicate k 0 ++ (toC m j).drop k).length = m := by rw [List.length_append, List.length_replicate, List.length_drop, hcl]; omega
    have hXk : ∀ (h : k < m) h', (List.replicate k 0 ++ (toC m j).drop k)[k]'h' = (toC m j)[k]'(by omega) := fun h h' => by
      rw [List.getElem_append_right (by simp)]; simp
    have hXs : ∀ (h : k < m) x, (List.replicate k 0 ++ (toC m j).drop k).set k x = List.replicate k 0 ++ x :: (toC m j).drop (k + 1) := fun h x => by
      rw [List.set_append_right _ _ (by simp), List.length_replicate, Nat.sub_self, List.drop_eq_getElem_cons (by omega), List.set_cons_zero]
    have hck : ∀ (h : k < m), 0 ≤ (toC m j)[k]'(by omega) ∧ (toC m j)[k]'(by omega) ≤ 2 := fun h => toC_kinds m j _ (List.getElem_mem _)
    have hwk : ∀ (h : k < m), IntKind.i64.wrap ((toC m j)[k]'(by omega) + 1) = (toC m j)[k]'(by omega) + 1 := fun h => by have := hck h; exact wrap64 (by omega) (by omega)
    have hi1 : ∀ (h : k < m), (toC m j)[k]'(by omega) < 2 → Hide (j + 1 < 3 ^ m ∧ toC m (j + 1) = List.replicate k 0 ++ ((toC m j)[k]'(by omega) + 1) :: (toC m j).drop (k + 1)) := fun h h2 => ⟨by
      have e1 := hinc.h
      rw [List.drop_eq_getElem_cons (by omega), incC, if_pos h2, incC_toC m j hj] at e1
      split at e1
      · rename_i h3; simp at e1; exact ⟨h3, e1⟩
      · simp at e1⟩
    have hi2 : ∀ (h : k < m), ¬ (toC m j)[k]'(by omega) < 2 → Hide (incC (toC m j) = (incC ((toC m j).drop (k + 1))).map (List.replicate (k + 1) 0 ++ ·)) := fun h h2 => ⟨by
      have e1 := hinc.h
      rw [List.drop_eq_getElem_cons (by omega), incC, if_neg h2] at e1
      rw [e1, List.replicate_succ', Option.map_map]
      simp [Function.comp_def]⟩
    have hi3 : k = m → Hide (¬ j + 1 < 3 ^ m) := fun h => ⟨fun h3 => by
      have e1 := hinc.h
      rw [List.drop_eq_nil_of_le (by omega), incC_toC m j hj, if_pos h3] at e1
      simp [incC] at e1⟩
    have hlen9 : Hide _ := ⟨hcl⟩
    obtain ⟨X, hX⟩ : ∃ X, X = List.replicate k 0 ++ (toC m j).drop k := ⟨_, rfl⟩
    have hXk' : Hide (∀ (h : k < m) h', X[k]'h' = (toC m j)[k]'(by omega)) := ⟨by subst hX; exact hXk⟩
    rw [← hX] at hgc2 hXl hXs
    have hX' : Hide _ := ⟨hX⟩
    have hXs' : Hide _ := ⟨hXs⟩
    clear hXk hX hXs hinc
    have hidc2 := nx_of_get hgc2
    have hid2 := lt_of_get (H := H2) (i := id0) (by rw [hgl2]; simp)
    have hJs : ∀ o, Hide (J H.nx (j + 1) (H2.set H.nx o)) := fun o => ⟨hstab _ _ _ _ hJ2 (by simp) (fun i _ hi _ => get_set_ne hi)⟩
    have hlw : ∀ (h : k < m) h', IntKind.i64.wrap (X[k]'h' + 1) = X[k]'h' + 1 := fun h h' => by rw [hXk'.h h]; exact hwk h
    have hs1' : ¬ (id0 = H.nx) := by omega
    have hJ2' : Hide _ := ⟨hJ2⟩
    clear hwk hJ2
    (repeat' first | simp [*, initEnv] | (refine wpIf_two (fun _ h => ?_) (fun _ h => ?_) <;> try simp [-Nat.le_zero_eq] at h) | (apply wpE_appendV; (focus (first | assumption | (repeat' first | assumption | with_reducible apply GrowV.setNew | with_reducible apply GrowV.alloc | with_reducible apply GrowV.set | (with_reducible show ¬ Names _ _; simp [*]; done)))); (focus (exact fun _ => rfl)); (focus decide); (focus (intro a; first | rfl | simp)); (focus (simp [maxCells] <;> omega))) | (refine after_intro fun v2 H2 hv2 hnx2 hget2 hnew2 hone2 hcel2 => ?_))
    · have hkm : k < m := by assumption
      have h2 : X[k]'(by omega) < 2 := by assumption
      rw [hXk'.h hkm] at h2
      obtain ⟨h3, h4⟩ := (hi1 hkm h2).h
      refine ⟨j + 1, by omega, h3, ?_, (hJs _).h⟩
      rw [h4, hXs'.h hkm, hXk'.h hkm]
    · have hkm : k < m := by assumption
      have h2 : ¬ X[k]'(by omega) < 2 := by omega
      rw [hXk'.h hkm] at h2
      refine ⟨k + 1, by omega, by simp, by omega, ?_, (hJs _).h, hi2 hkm h2⟩
      rw [hXs'.h hkm, List.replicate_succ']
      simp
    · have hkm : k = m := by omega
      have h3 := (hi3 hkm).h
      have h4 : 3 ^ m = j + 1 := by omega
      rw [h4]
      exact ⟨_, hJ2'.h⟩

/-- A loop over all courses of a right life. -/
theorem wp_courses {n : Nat} {l : Life} (hr : Right l) {env : Env} {H : Heap} {f : Opnd} {params : List Nat} {assign body : VCode} {Q : VExit → Env → Heap → Prop} {u} (hf : f.eval env = .pure (.func 97 [.ptr false l.cells 0])) (hp : params.length = 2)
    (J : Nat → Nat → Heap → Prop)
    (hstab : ∀ idc j H1 H2, J idc j H1 → H1.nx ≤ H2.nx → (∀ i, i < H1.nx → i ≠ idc → i ≠ H.nx → H2.get i = H1.get i) → J idc j H2)
    (h0 : ∀ idc, H.nx < idc → J idc 0 H)
    (hskip : ∀ idc j H1, j < 3 ^ (l.sights.xs.length - 1) → tellS l (toC (l.sights.xs.length - 1) j) = none → J idc j H1 → J idc (j + 1) H1)
    (hbody : ∀ idc j t H1, j < 3 ^ (l.sights.xs.length - 1) → tellS l (toC (l.sights.xs.length - 1) j) = some t → H.nx < idc → idc < H1.nx →
      wp (calleeOf G (n + 7)) assign ((params.zip [.row idc 1 0 (l.sights.xs.length - 1), .pure (.agg t.told.cells)]).foldl (fun e x => upd e x.1 x.2) env) H1 (fun x env2 H2 => x = .normal ∧ H2 = H1 ∧
        ∀ Hb, J idc j Hb → Hb.get idc = .cells true (rowOf intF (toC (l.sights.xs.length - 1) j)) → H.nx < Hb.nx →
          wp (calleeOf G (n + 7)) body env2 Hb (fun x _ H3 => x = .normal ∧ H3.get H.nx = Hb.get H.nx ∧ H3.get idc = .cells true (rowOf intF (toC (l.sights.xs.length - 1) j)) ∧ Hb.nx ≤ H3.nx ∧ J idc (j + 1) H3) .mk) .mk)
    (hend : ∀ idc H', J idc (3 ^ (l.sights.xs.length - 1)) H' → Q .normal env H') :
    wp (calleeOf G (n + 9)) (.rangeFunc f params assign body) env H Q u := by
  refine wp_rangeFunc hf ?_
  obtain ⟨v, H2, h1, h2, idc, h3⟩ := gen_call n l hr (H.alloc (.loop { env, params, assign, body, state := .ready, pending := .normal })) H.nx { env, params, assign, body, state := .ready, pending := .normal } rfl rfl hp (by simp) (get_alloc_nx _) J hstab
    (fun idc hi => hstab idc 0 H _ (h0 idc (by simp at hi; omega)) (by simp) (fun i hi _ _ => get_alloc_lt hi)) hskip
    (fun idc j t H1 hj ht hJ hi hgc hgl => by
      have hlt := nx_of_get hgc
      have hi' : H.nx < idc := by simp at hi; omega
      refine (hbody idc j t H1 hj ht hi' hlt).mono ?_
      rintro x env2 H2 ⟨rfl, rfl, hw⟩
      refine ⟨rfl, rfl, ?_⟩
      have hid := lt_of_get (H := H2) (i := H.nx) (by rw [hgl]; simp)
      refine (hw (H2.set H.nx (.loop { env, params, assign, body, state := .busy, pending := .normal })) (hstab _ _ _ _ hJ (by simp) (fun i _ _ hi => get_set_ne hi)) (by rw [get_set_ne (by omega)]; exact hgc) (by simpa using hid)).mono ?_
      rintro x env3 H3 ⟨rfl, g1, g2, g3, g4⟩
      exact ⟨rfl, by rw [g1, get_set_own hid], g2, by simpa using g3, g4⟩)
  refine ⟨v, H2, h1, h2, hend idc _ (hstab _ _ _ _ h3 (by simp) (fun i _ _ hi => get_set_ne hi))⟩
end Go.Proofs.YtjjkgamklbgnlaaGreat.Vm
