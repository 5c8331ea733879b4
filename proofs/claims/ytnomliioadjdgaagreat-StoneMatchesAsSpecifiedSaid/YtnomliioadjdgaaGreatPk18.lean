/- The courses of a life, as the program yields them. What the functions compute that go through all courses. What Kinds and Courses compute: the program's, and the specification's. What the program tells of a course is what the specification tells: plain Lean. The specification's comparing, and which lives are few. Covering boxes; what a course tells has proper boxes; the least boxes of all courses. -/
import Derived.Test.YtnomliioadjdgaaGreatPk17
namespace Go.Proofs.YtnomliioadjdgaaGreat.Vm
open Go
set_option linter.unusedSimpArgs false
set_option linter.unusedVariables false
set_option maxHeartbeats 4000000

/-- The course of a number: its digits to the base 3. -/
def toC : Nat → Nat → List Int
  | 0, _ => []
  | m + 1, j => ((j % 3 : Nat) : Int) :: toC m (j / 3)
def incC : List Int → Option (List Int)
  | [] => none
  | d :: r => if d < 2 then some ((d + 1) :: r) else (incC r).map (0 :: ·)
theorem toC_length : ∀ (m j : Nat), (toC m j).length = m
  | 0, _ => rfl
  | m + 1, j => by simp [toC, toC_length m]
theorem toC_kinds : ∀ (m j : Nat), ∀ k ∈ toC m j, 0 ≤ k ∧ k ≤ 2
  | 0, _ => by simp [toC]
  | m + 1, j => by
    intro k hk
    rcases List.mem_cons.1 hk with rfl | hk
    · omega
    · exact toC_kinds m _ k hk
theorem toC_zero : ∀ (m : Nat), toC m 0 = List.replicate m 0
  | 0 => rfl
  | m + 1 => by simp [toC, toC_zero m, List.replicate_succ]
theorem incC_toC : ∀ (m j : Nat), j < 3 ^ m → incC (toC m j) = if j + 1 < 3 ^ m then some (toC m (j + 1)) else none
  | 0, j, h => by
    have : ¬ (j + 1 < 3 ^ 0) := by simp
    rw [if_neg this]; rfl
  | m + 1, j, h => by
    have hj : j / 3 < 3 ^ m := by rw [Nat.pow_succ] at h; omega
    rw [toC, incC, incC_toC m _ hj]
    by_cases hd : ((j % 3 : Nat) : Int) < 2
    · have h1 : (j + 1) % 3 = j % 3 + 1 := by omega
      have h2 : (j + 1) / 3 = j / 3 := by omega
      have h3 : j + 1 < 3 ^ (m + 1) := by rw [Nat.pow_succ] at h ⊢; omega
      rw [if_pos hd, if_pos h3, toC, h1, h2]
      simp
    · have h1 : (j + 1) % 3 = 0 := by omega
      have h2 : (j + 1) / 3 = j / 3 + 1 := by omega
      rw [if_neg hd]
      by_cases h3 : j + 1 < 3 ^ (m + 1)
      · have h4 : j / 3 + 1 < 3 ^ m := by rw [Nat.pow_succ] at h3; omega
        rw [if_pos h3, if_pos h4, toC, h1, h2]; rfl
      · have h4 : ¬ (j / 3 + 1 < 3 ^ m) := by rw [Nat.pow_succ] at h3 h; omega
        rw [if_neg h3, if_neg h4]; rfl

/-! ### What tell returns names no hot memory -/
theorem cold_sl {α : Type} {f : α → List PV} {sz n : Nat} (hf : ∀ a, (f a).all (PV.coldN n) = true) (l : List α) : PV.coldN (n + 1) ((Sl.of l).pv f sz) = true := by
  cases l with
  | nil => rfl
  | cons a l => simp [Sl.of, Sl.pv, PV.coldN]; exact ⟨by simpa using hf a, fun a _ => by simpa using hf a⟩
theorem cold_tell (o : Option TellR) : (tellPV o).cold = true := by
  cases o with
  | none => rfl
  | some t =>
    have h1 := cold_sl (f := Box.cells) (sz := 4) (n := 9) (fun a => rfl) t.boxes
    have h2 := cold_sl (f := Span.cells) (sz := 2) (n := 9) (fun a => rfl) t.heights
    have h3 := cold_sl (f := strF) (sz := 1) (n := 9) (fun a => rfl) t.letters
    simp [tellPV, PV.cold, PV.coldN, TellR.told] at *
    simp [h1, h2, h3, PV.coldN]
theorem gen_call (n : Nat) (l : Life) (hr : Right l) (H : Heap) (id0 : Nat) (r : LoopR) (hr1 : r.state = .ready) (hr2 : r.pending = .normal) (hr3 : r.params.length = 2) (hid0 : id0 < H.nx) (hg : H.get id0 = .loop r)
    (J : Nat → Nat → Heap → Prop)
    (hstab : ∀ idc j H1 H2, J idc j H1 → H1.nx ≤ H2.nx → (∀ i, i < H1.nx → i ≠ idc → i ≠ id0 → H2.get i = H1.get i) → J idc j H2)
    (h0 : ∀ idc, H.nx ≤ idc → J idc 0 H)
    (hskip : ∀ idc j H1, j < 3 ^ (l.sights.xs.length - 1) → tellS l (toC (l.sights.xs.length - 1) j) = none → J idc j H1 → J idc (j + 1) H1)
    (hbody : ∀ idc j t H1, j < 3 ^ (l.sights.xs.length - 1) → tellS l (toC (l.sights.xs.length - 1) j) = some t → J idc j H1 → H.nx ≤ idc → H1.get idc = .cells true (rowOf intF (toC (l.sights.xs.length - 1) j)) → H1.get id0 = .loop r →
      wp (calleeOf G (n + 7)) r.assign ((r.params.zip [.row idc 1 0 (l.sights.xs.length - 1), .pure (.agg t.told.cells)]).foldl (fun e x => upd e x.1 x.2) r.env) H1 (fun x env2 H2 => x = .normal ∧ H2.get id0 = .loop r ∧
        wp (calleeOf G (n + 7)) r.body env2 (H2.set id0 (.loop { r with state := .busy })) (fun x _ H3 => x = .normal ∧ H3.get id0 = .loop { r with state := .busy } ∧ H3.get idc = .cells true (rowOf intF (toC (l.sights.xs.length - 1) j)) ∧ H1.nx ≤ H3.nx ∧ J idc (j + 1) H3) .mk) .mk) :
    ∃ v H', Vm.call G (n + 9) (.fn 112) [.yield id0, .pure (.ptr false l.cells 0)] H = some (v, H') ∧ H'.get id0 = .loop r ∧ ∃ idc, J idc (3 ^ (l.sights.xs.length - 1)) H' := by
  have h1 := hr.one
  have h9 := hr.nine
  have hw : IntKind.i64.wrap ((l.sights.xs.length : Int) - 1) = ((l.sights.xs.length - 1 : Nat) : Int) := wrap_pred (by omega) (by omega)
  obtain ⟨m, hm0⟩ : ∃ m, m = l.sights.xs.length - 1 := ⟨_, rfl⟩
  rw [← hm0] at hskip hbody hw ⊢
  have hm8 : m ≤ 8 := by omega
  have hmx : m * 8 ≤ maxCells := by unfold maxCells; omega
  have hmy : m ≤ maxCells := by unfold maxCells; omega
  have hm : Hide _ := ⟨hm0⟩
  clear hm0
  have hlr : Hide (r = { r with state := .ready, pending := .normal }) := ⟨by rw [← hr1, ← hr2]⟩
  refine call_of rfl g112 rfl ?_
  (repeat' first | simp [*, initEnv, c112] | (refine wpIf_two (fun _ h => ?_) (fun _ h => ?_) <;> try simp [-Nat.le_zero_eq] at h))
  have hs0 : H.nx ≠ id0 := by omega
  refine wp_loopF [(4, 6), (12, 45)] (fun (j : Nat) env H1 => j < 3 ^ m ∧ H1.get H.nx = .cells true (rowOf intF (toC m j)) ∧ H1.get id0 = .loop r ∧ J H.nx j H1) (fun j => 3 ^ m - j) 0 ?_ ?_ ?_ ?_
  · decide
  · refine ⟨Nat.pos_of_ne_zero (by simp), ?_, ?_, ?_⟩
    · rw [get_alloc_nx, toC_zero, rowOf_zeros]; simp
    · rw [get_alloc_lt hid0]; exact hg
    · exact hstab _ _ _ _ (h0 _ (Nat.le_refl _)) (by simp) (fun i hi _ _ => get_alloc_lt hi)
  · have : 3 ^ m ≤ 3 ^ 8 := Nat.pow_le_pow_right (by decide) hm8
    simp only [loopFuel]
    have : (3 ^ 8 : Nat) = 6561 := rfl
    omega
  rintro j env H1 ⟨hj, hgc, hgl, hJ⟩
  have hidc := nx_of_get hgc
  have hid1 := lt_of_get (H := H1) (i := id0) (by rw [hgl]; simp)
  have hcl := toC_length m j
  have hown : OwnV intF 1 H1 (.row H.nx 1 0 m) (toC m j) := .inr ⟨H.nx, by rw [hcl], hgc⟩
  obtain ⟨s, hs1, hs2⟩ : ∃ s : Sl Int, s.xs = toC m j ∧ FrzK H1 true 12 (.row H.nx 1 0 m) (s.pv intF 1) := by
    rcases hown.frz (k := true) (n := 10) (fun _ => rfl) with h | ⟨h, h'⟩
    · cases hc : toC m j with
      | nil => rw [hc] at h; exact ⟨.nil, rfl, h⟩
      | cons a q => rw [hc] at h; exact ⟨.mk true (a :: q), rfl, h⟩
    · exact ⟨.mk true [], h.symm, h'⟩
  have htell : callP G (n + 8) 60 [.agg l.cells, s.pv intF 1] = some (tellPV (tellS l (toC m j))) := by
    have := e60 (n + 1) l s hr (by have := hm.h; rw [hs1, hcl]; omega) (by rw [hs1]; exact toC_kinds m j)
    rw [hs1] at this
    exact this
  (repeat' first | simp [*, initEnv] | (refine wpIf_two (fun _ h => ?_) (fun _ h => ?_) <;> try simp [-Nat.le_zero_eq] at h))
  refine wpE_own (caps := []) sh60 (.cons (.pure (.agg l.cells)) (.cons hs2 .nil)) htell (cold_tell _) ?_
  have hs1' : ¬ (id0 = H.nx) := by omega
  cases ht : tellS l (toC m j) with
  | none =>
    obtain ⟨H9, h9e⟩ : ∃ H9, H9 = (H1.alloc (.cells true [.pure .nils, .pure .nils, .pure .nils])).set H1.nx (.cells true [.pure .nils, .pure .nils, .pure .nils]) := ⟨_, rfl⟩
    have gc9 : H9.get H.nx = .cells true (rowOf intF (toC m j)) := by rw [h9e, get_set_ne (by omega), get_alloc_lt hidc]; exact hgc
    have gl9 : H9.get id0 = .loop r := by rw [h9e, get_set_ne (by omega), get_alloc_lt hid1]; exact hgl
    have J9 : J H.nx (j + 1) H9 := hskip _ _ _ hj ht (hstab _ _ _ _ hJ (by rw [h9e]; simp) (fun i hi _ _ => by rw [h9e, get_set_ne (by omega), get_alloc_lt hi]))
    clear hskip hbody hJ
    (repeat' first | simp [*, initEnv, tellPV] | (refine wpIf_two (fun _ h => ?_) (fun _ h => ?_) <;> try simp [-Nat.le_zero_eq] at h))
    rw [← h9e]
    clear h9e
    refine wp_loopF [(6, 6), (28, 45)] (fun (k : Nat) env2 H2 => env2 28 = .pure (.int .i64 k) ∧ k ≤ m ∧ H2.get H.nx = .cells true (rowOf intF (List.replicate k 0 ++ (toC m j).drop k)) ∧ H2.get id0 = .loop r ∧ J H.nx (j + 1) H2 ∧
        Hide (incC (toC m j) = (incC ((toC m j).drop k)).map (List.replicate k 0 ++ ·))) (fun k => m - k) 0 ?_ ?_ ?_ ?_
    · decide
    · refine ⟨by simp, by omega, by simpa using gc9, gl9, J9, ⟨by simp⟩⟩
    · simp only [loopFuel]; omega
    rintro k env2 H2 ⟨h28, hk, hgc2, hgl2, hJ2, hinc⟩
    have hfitk : k < 9223372036854775807 := by omega
    have hXl : (List.replicate k 0 ++ (toC m j).drop k).length = m := by rw [List.length_append, List.length_replicate, List.length_drop, hcl]; omega
    have hXk : ∀ (h : k < m) h', (List.replicate k 0 ++ (toC m j).drop k)[k]'h' = (toC m j)[k]'(by omega) := fun h h' => by
      rw [List.getElem_append_right (by simp)]; simp
    have hXs : ∀ (h : k < m) x, (List.replicate k 0 ++ (toC m j).drop k).set k x = List.replicate k 0 ++ x :: (toC m j).drop (k + 1) := fun h x => by
      rw [List.set_append_right _ _ (by simp), List.length_replicate, Nat.sub_self, List.drop_eq_getElem_cons (by omega), List.set_cons_zero]
    have hck : ∀ (h : k < m), 0 ≤ (toC m j)[k]'(by omega) ∧ (toC m j)[k]'(by omega) ≤ 2 := fun h => toC_kinds m j _ (List.getElem_mem _)
    have hwk : ∀ (h : k < m), IntKind.i64.wrap ((toC m j)[k]'(by omega) + 1) = (toC m j)[k]'(by omega) + 1 := fun h => by have := hck h; exact wrap64 (by omega) (by omega)
    have hi1 : ∀ (h : k < m), (toC m j)[k]'(by omega) < 2 → Hide (j + 1 < 3 ^ m ∧ toC m (j + 1) = List.replicate k 0 ++ ((toC m j)[k]'(by omega) + 1) :: (toC m j).drop (k + 1)) := fun h h2 => ⟨by
      have e1 := hinc.h
      rw [List.drop_eq_getElem_cons (by omega), incC, if_pos h2, incC_toC m j hj] at e1
      split at e1
      · rename_i h3; simp at e1; exact ⟨h3, e1⟩
      · simp at e1⟩
    have hi2 : ∀ (h : k < m), ¬ (toC m j)[k]'(by omega) < 2 → Hide (incC (toC m j) = (incC ((toC m j).drop (k + 1))).map (List.replicate (k + 1) 0 ++ ·)) := fun h h2 => ⟨by
      have e1 := hinc.h
      rw [List.drop_eq_getElem_cons (by omega), incC, if_neg h2] at e1
      rw [e1, List.replicate_succ', Option.map_map]
      simp [Function.comp_def]⟩
    have hi3 : k = m → Hide (¬ j + 1 < 3 ^ m) := fun h => ⟨fun h3 => by
      have e1 := hinc.h
      rw [List.drop_eq_nil_of_le (by omega), incC_toC m j hj, if_pos h3] at e1
      simp [incC] at e1⟩
    have hlen9 : Hide _ := ⟨hcl⟩
    obtain ⟨X, hX⟩ : ∃ X, X = List.replicate k 0 ++ (toC m j).drop k := ⟨_, rfl⟩
    have hXk' : Hide (∀ (h : k < m) h', X[k]'h' = (toC m j)[k]'(by omega)) := ⟨by subst hX; exact hXk⟩
    rw [← hX] at hgc2 hXl hXs
    have hX' : Hide _ := ⟨hX⟩
    have hXs' : Hide _ := ⟨hXs⟩
    clear hXk hX hXs hinc
    have hidc2 := nx_of_get hgc2
    have hid2 := lt_of_get (H := H2) (i := id0) (by rw [hgl2]; simp)
    have hJs : ∀ o, Hide (J H.nx (j + 1) (H2.set H.nx o)) := fun o => ⟨hstab _ _ _ _ hJ2 (by simp) (fun i _ hi _ => get_set_ne hi)⟩
    have hlw : ∀ (h : k < m) h', IntKind.i64.wrap (X[k]'h' + 1) = X[k]'h' + 1 := fun h h' => by rw [hXk'.h h]; exact hwk h
    have hs1' : ¬ (id0 = H.nx) := by omega
    have hJ2' : Hide _ := ⟨hJ2⟩
    clear hwk hJ2
    (repeat' first | simp [*, initEnv] | (refine wpIf_two (fun _ h => ?_) (fun _ h => ?_) <;> try simp [-Nat.le_zero_eq] at h))
    · have hkm : k < m := by assumption
      have h2 : X[k]'(by omega) < 2 := by assumption
      rw [hXk'.h hkm] at h2
      obtain ⟨h3, h4⟩ := (hi1 hkm h2).h
      refine ⟨j + 1, by omega, h3, ?_, (hJs _).h⟩
      rw [h4, hXs'.h hkm, hXk'.h hkm]
    · have hkm : k < m := by assumption
      have h2 : ¬ X[k]'(by omega) < 2 := by omega
      rw [hXk'.h hkm] at h2
      refine ⟨k + 1, by omega, by simp, by omega, ?_, (hJs _).h, hi2 hkm h2⟩
      rw [hXs'.h hkm, List.replicate_succ']
      simp
    · have hkm : k = m := by omega
      have h3 := (hi3 hkm).h
      have h4 : 3 ^ m = j + 1 := by omega
      rw [h4]
      exact ⟨_, hJ2'.h⟩
  | some t =>
    (repeat' first | simp [*, initEnv, tellPV] | (refine wpIf_two (fun _ h => ?_) (fun _ h => ?_) <;> try simp [-Nat.le_zero_eq] at h))
    obtain ⟨H9, h9e⟩ : ∃ H9, H9 = (H1.alloc (.cells true [.pure .nils, .pure .nils, .pure .nils])).set H1.nx (.cells true [.pure (Sl.pv Box.cells 4 t.told.boxes), .pure (Sl.pv Span.cells 2 t.told.heights), .pure (Sl.pv strF 1 t.told.letters)]) := ⟨_, rfl⟩
    have gc9 : H9.get H.nx = .cells true (rowOf intF (toC m j)) := by rw [h9e, get_set_ne (by omega), get_alloc_lt hidc]; exact hgc
    have gl9 : H9.get id0 = .loop r := by rw [h9e, get_set_ne (by omega), get_alloc_lt hid1]; exact hgl
    have J9 : J H.nx j H9 := hstab _ _ _ _ hJ (by rw [h9e]; simp) (fun i hi _ _ => by rw [h9e, get_set_ne (by omega), get_alloc_lt hi])
    rw [← h9e]
    refine wpE_yieldA gl9 hr1 (by rw [hr3]; rfl) ?_
    refine (hbody H.nx j t _ hj ht J9 (Nat.le_refl _) gc9 gl9).mono ?_
    rintro x env5 H5 ⟨rfl, gl5, hw5⟩
    refine ⟨rfl, gl5, hw5.mono ?_⟩
    rintro x env6 H6 ⟨rfl, g1, g2, g3, g4⟩
    refine ⟨rfl, g1, ?_⟩
    rw [← hlr.h]
    clear hskip hbody hJ J9 gc9 gl9 h9e hw5
    obtain ⟨H9, h9e⟩ : ∃ H9, H9 = H6.set id0 (.loop r) := ⟨_, rfl⟩
    have hid6 := lt_of_get (H := H6) (i := id0) (by rw [g1]; simp)
    have gc9 : H9.get H.nx = .cells true (rowOf intF (toC m j)) := by rw [h9e, get_set_ne (by omega)]; exact g2
    have gl9 : H9.get id0 = .loop r := by rw [h9e, get_set_own hid6]
    have J9 : J H.nx (j + 1) H9 := hstab _ _ _ _ g4 (by rw [h9e]; simp) (fun i hi _ hi2 => by rw [h9e, get_set_ne hi2])
    rw [← h9e]
    clear h9e g1 g2 g3 g4
    (repeat' first | simp [*, initEnv] | (refine wpIf_two (fun _ h => ?_) (fun _ h => ?_) <;> try simp [-Nat.le_zero_eq] at h))
    refine wp_loopF [(6, 6), (28, 45)] (fun (k : Nat) env2 H2 => env2 28 = .pure (.int .i64 k) ∧ k ≤ m ∧ H2.get H.nx = .cells true (rowOf intF (List.replicate k 0 ++ (toC m j).drop k)) ∧ H2.get id0 = .loop r ∧ J H.nx (j + 1) H2 ∧
        Hide (incC (toC m j) = (incC ((toC m j).drop k)).map (List.replicate k 0 ++ ·))) (fun k => m - k) 0 ?_ ?_ ?_ ?_
    · decide
    · refine ⟨by simp, by omega, by simpa using gc9, gl9, J9, ⟨by simp⟩⟩
    · simp only [loopFuel]; omega
    rintro k env2 H2 ⟨h28, hk, hgc2, hgl2, hJ2, hinc⟩
    have hfitk : k < 9223372036854775807 := by omega
    have hXl : (List.replicate k 0 ++ (toC m j).drop k).length = m := by rw [List.length_append, List.length_replicate, List.length_drop, hcl]; omega
    have hXk : ∀ (h : k < m) h', (List.replicate k 0 ++ (toC m j).drop k)[k]'h' = (toC m j)[k]'(by omega) := fun h h' => by
      rw [List.getElem_append_right (by simp)]; simp
    have hXs : ∀ (h : k < m) x, (List.replicate k 0 ++ (toC m j).drop k).set k x = List.replicate k 0 ++ x :: (toC m j).drop (k + 1) := fun h x => by
      rw [List.set_append_right _ _ (by simp), List.length_replicate, Nat.sub_self, List.drop_eq_getElem_cons (by omega), List.set_cons_zero]
    have hck : ∀ (h : k < m), 0 ≤ (toC m j)[k]'(by omega) ∧ (toC m j)[k]'(by omega) ≤ 2 := fun h => toC_kinds m j _ (List.getElem_mem _)
    have hwk : ∀ (h : k < m), IntKind.i64.wrap ((toC m j)[k]'(by omega) + 1) = (toC m j)[k]'(by omega) + 1 := fun h => by have := hck h; exact wrap64 (by omega) (by omega)
    have hi1 : ∀ (h : k < m), (toC m j)[k]'(by omega) < 2 → Hide (j + 1 < 3 ^ m ∧ toC m (j + 1) = List.replicate k 0 ++ ((toC m j)[k]'(by omega) + 1) :: (toC m j).drop (k + 1)) := fun h h2 => ⟨by
      have e1 := hinc.h
      rw [List.drop_eq_getElem_cons (by omega), incC, if_pos h2, incC_toC m j hj] at e1
      split at e1
      · rename_i h3; simp at e1; exact ⟨h3, e1⟩
      · simp at e1⟩
    have hi2 : ∀ (h : k < m), ¬ (toC m j)[k]'(by omega) < 2 → Hide (incC (toC m j) = (incC ((toC m j).drop (k + 1))).map (List.replicate (k + 1) 0 ++ ·)) := fun h h2 => ⟨by
      have e1 := hinc.h
      rw [List.drop_eq_getElem_cons (by omega), incC, if_neg h2] at e1
      rw [e1, List.replicate_succ', Option.map_map]
      simp [Function.comp_def]⟩
    have hi3 : k = m → Hide (¬ j + 1 < 3 ^ m) := fun h => ⟨fun h3 => by
      have e1 := hinc.h
      rw [List.drop_eq_nil_of_le (by omega), incC_toC m j hj, if_pos h3] at e1
      simp [incC] at e1⟩
    have hlen9 : Hide _ := ⟨hcl⟩
    obtain ⟨X, hX⟩ : ∃ X, X = List.replicate k 0 ++ (toC m j).drop k := ⟨_, rfl⟩
    have hXk' : Hide (∀ (h : k < m) h', X[k]'h' = (toC m j)[k]'(by omega)) := ⟨by subst hX; exact hXk⟩
    rw [← hX] at hgc2 hXl hXs
    have hX' : Hide _ := ⟨hX⟩
    have hXs' : Hide _ := ⟨hXs⟩
    clear hXk hX hXs hinc
    have hidc2 := nx_of_get hgc2
    have hid2 := lt_of_get (H := H2) (i := id0) (by rw [hgl2]; simp)
    have hJs : ∀ o, Hide (J H.nx (j + 1) (H2.set H.nx o)) := fun o => ⟨hstab _ _ _ _ hJ2 (by simp) (fun i _ hi _ => get_set_ne hi)⟩
    have hlw : ∀ (h : k < m) h', IntKind.i64.wrap (X[k]'h' + 1) = X[k]'h' + 1 := fun h h' => by rw [hXk'.h h]; exact hwk h
    have hs1' : ¬ (id0 = H.nx) := by omega
    have hJ2' : Hide _ := ⟨hJ2⟩
    clear hwk hJ2
    (repeat' first | simp [*, initEnv] | (refine wpIf_two (fun _ h => ?_) (fun _ h => ?_) <;> try simp [-Nat.le_zero_eq] at h))
    · have hkm : k < m := by assumption
      have h2 : X[k]'(by omega) < 2 := by assumption
      rw [hXk'.h hkm] at h2
      obtain ⟨h3, h4⟩ := (hi1 hkm h2).h
      refine ⟨j + 1, by omega, h3, ?_, (hJs _).h⟩
      rw [h4, hXs'.h hkm, hXk'.h hkm]
    · have hkm : k < m := by assumption
      have h2 : ¬ X[k]'(by omega) < 2 := by omega
      rw [hXk'.h hkm] at h2
      refine ⟨k + 1, by omega, by simp, by omega, ?_, (hJs _).h, hi2 hkm h2⟩
      rw [hXs'.h hkm, List.replicate_succ']
      simp
    · have hkm : k = m := by omega
      have h3 := (hi3 hkm).h
      have h4 : 3 ^ m = j + 1 := by omega
      rw [h4]
      exact ⟨_, hJ2'.h⟩

/-- A loop over all courses of a right life. -/
theorem wp_coursesA {n : Nat} {l : Life} (hr : Right l) {env : Env} {H : Heap} {f : Opnd} {params : List Nat} {assign body : VCode} {Q : VExit → Env → Heap → Prop} {u} (hf : f.eval env = .pure (.func 112 [.ptr false l.cells 0])) (hp : params.length = 2)
    (J : Nat → Nat → Heap → Prop)
    (hstab : ∀ idc j H1 H2, J idc j H1 → H1.nx ≤ H2.nx → (∀ i, i < H1.nx → i ≠ idc → i ≠ H.nx → H2.get i = H1.get i) → J idc j H2)
    (h0 : ∀ idc, H.nx < idc → J idc 0 H)
    (hskip : ∀ idc j H1, j < 3 ^ (l.sights.xs.length - 1) → tellS l (toC (l.sights.xs.length - 1) j) = none → J idc j H1 → J idc (j + 1) H1)
    (hbody : ∀ idc j t H1, j < 3 ^ (l.sights.xs.length - 1) → tellS l (toC (l.sights.xs.length - 1) j) = some t → H.nx < idc → idc < H1.nx →
      wp (calleeOf G (n + 7)) assign ((params.zip [.row idc 1 0 (l.sights.xs.length - 1), .pure (.agg t.told.cells)]).foldl (fun e x => upd e x.1 x.2) env) H1 (fun x env2 H2 => x = .normal ∧ H1.nx ≤ H2.nx ∧ (∀ i, i < H1.nx → H2.get i = H1.get i) ∧
        ∀ Hb, Hb.nx = H2.nx → (∀ i, i ≠ H.nx → Hb.get i = H2.get i) → J idc j Hb → Hb.get idc = .cells true (rowOf intF (toC (l.sights.xs.length - 1) j)) → H.nx < Hb.nx →
          wp (calleeOf G (n + 7)) body env2 Hb (fun x _ H3 => x = .normal ∧ H3.get H.nx = Hb.get H.nx ∧ H3.get idc = .cells true (rowOf intF (toC (l.sights.xs.length - 1) j)) ∧ Hb.nx ≤ H3.nx ∧ J idc (j + 1) H3) .mk) .mk)
    (hend : ∀ idc H', J idc (3 ^ (l.sights.xs.length - 1)) H' → Q .normal env H') :
    wp (calleeOf G (n + 9)) (.rangeFunc f params assign body) env H Q u := by
  refine wp_rangeFunc hf ?_
  obtain ⟨v, H2, h1, h2, idc, h3⟩ := gen_call n l hr (H.alloc (.loop { env, params, assign, body, state := .ready, pending := .normal })) H.nx { env, params, assign, body, state := .ready, pending := .normal } rfl rfl hp (by simp) (get_alloc_nx _) J hstab
    (fun idc hi => hstab idc 0 H _ (h0 idc (by simp at hi; omega)) (by simp) (fun i hi _ _ => get_alloc_lt hi)) hskip
    (fun idc j t H1 hj ht hJ hi hgc hgl => by
      have hlt := nx_of_get hgc
      have hi' : H.nx < idc := by simp at hi; omega
      refine (hbody idc j t H1 hj ht hi' hlt).mono ?_
      rintro x env2 H2 ⟨rfl, hx2, hs2, hw⟩
      have hid1 := lt_of_get (H := H1) (i := H.nx) (by rw [hgl]; simp)
      have hgl2 : H2.get H.nx = _ := (hs2 _ hid1).trans hgl
      refine ⟨rfl, hgl2, ?_⟩
      have hid := lt_of_get (H := H2) (i := H.nx) (by rw [hgl2]; simp)
      refine (hw (H2.set H.nx (.loop { env, params, assign, body, state := .busy, pending := .normal })) rfl (fun i hi => get_set_ne hi) (hstab _ _ _ _ hJ (by simpa using hx2) (fun i hi _ hi2 => by rw [get_set_ne hi2]; exact hs2 i hi)) (by rw [get_set_ne (by omega), hs2 _ hlt]; exact hgc) (by simpa using hid)).mono ?_
      rintro x env3 H3 ⟨rfl, g1, g2, g3, g4⟩
      exact ⟨rfl, by rw [g1, get_set_own hid], g2, by simp at g3; omega, g4⟩)
  refine ⟨v, H2, h1, h2, hend idc _ (hstab _ _ _ _ h3 (by simp) (fun i _ _ hi => get_set_ne hi))⟩
theorem wp_courses {n : Nat} {l : Life} (hr : Right l) {env : Env} {H : Heap} {f : Opnd} {params : List Nat} {assign body : VCode} {Q : VExit → Env → Heap → Prop} {u} (hf : f.eval env = .pure (.func 112 [.ptr false l.cells 0])) (hp : params.length = 2)
    (J : Nat → Nat → Heap → Prop)
    (hstab : ∀ idc j H1 H2, J idc j H1 → H1.nx ≤ H2.nx → (∀ i, i < H1.nx → i ≠ idc → i ≠ H.nx → H2.get i = H1.get i) → J idc j H2)
    (h0 : ∀ idc, H.nx < idc → J idc 0 H)
    (hskip : ∀ idc j H1, j < 3 ^ (l.sights.xs.length - 1) → tellS l (toC (l.sights.xs.length - 1) j) = none → J idc j H1 → J idc (j + 1) H1)
    (hbody : ∀ idc j t H1, j < 3 ^ (l.sights.xs.length - 1) → tellS l (toC (l.sights.xs.length - 1) j) = some t → H.nx < idc → idc < H1.nx →
      wp (calleeOf G (n + 7)) assign ((params.zip [.row idc 1 0 (l.sights.xs.length - 1), .pure (.agg t.told.cells)]).foldl (fun e x => upd e x.1 x.2) env) H1 (fun x env2 H2 => x = .normal ∧ H2 = H1 ∧
        ∀ Hb, J idc j Hb → Hb.get idc = .cells true (rowOf intF (toC (l.sights.xs.length - 1) j)) → H.nx < Hb.nx →
          wp (calleeOf G (n + 7)) body env2 Hb (fun x _ H3 => x = .normal ∧ H3.get H.nx = Hb.get H.nx ∧ H3.get idc = .cells true (rowOf intF (toC (l.sights.xs.length - 1) j)) ∧ Hb.nx ≤ H3.nx ∧ J idc (j + 1) H3) .mk) .mk)
    (hend : ∀ idc H', J idc (3 ^ (l.sights.xs.length - 1)) H' → Q .normal env H') :
    wp (calleeOf G (n + 9)) (.rangeFunc f params assign body) env H Q u :=
  wp_coursesA hr hf hp J hstab h0 hskip (fun idc j t H1 hj ht hi hlt => (hbody idc j t H1 hj ht hi hlt).mono fun x env2 H2 h => by
    obtain ⟨h1, rfl, h3⟩ := h
    exact ⟨h1, Nat.le_refl _, fun _ _ => rfl, fun Hb _ _ hJ hg hn => h3 Hb hJ hg hn⟩) hend
end Go.Proofs.YtnomliioadjdgaaGreat.Vm

namespace Go.Proofs.YtnomliioadjdgaaGreat.Vm
open Go
set_option linter.unusedSimpArgs false
set_option linter.unusedVariables false
set_option maxHeartbeats 4000000

def chg (c : List Int) : Nat := c.countP (fun k => !decide (k = 0))
theorem chg_succ {c : List Int} {i : Nat} (h : i < c.length) : chg (c.take (i + 1)) = chg (c.take i) + if c[i] = 0 then 0 else 1 := by
  rw [← take_succ' h, chg, List.countP_append]
  by_cases h0 : c[i] = 0 <;> simp [chg, h0]
theorem chg_le (c : List Int) : chg c ≤ c.length := List.countP_le_length
theorem sh76 : G.shared 76 = false := by decide
theorem e76 (n : Nat) (c : Sl Int) (hc : c.xs.length < 1000) : callP G (n + 1) 76 [c.pv intF 1] = some (.int .i64 (chg c.xs)) := by
  refine callP_of (ext_none _) rfl g76 rfl ?_
  (repeat' first | simp [*, initEnv, c76] | (refine wpIf_two (fun _ h => ?_) (fun _ h => ?_) <;> try simp [-Nat.le_zero_eq] at h))
  refine wp_loopF [(3, 3), (5, 5), (8, 16)] (fun (i : Nat) env H => env 8 = .pure (.int .i64 i) ∧ env 3 = .pure (.int .i64 (chg (c.xs.take i))) ∧ i ≤ c.xs.length) (fun i => c.xs.length - i) 0 ?_ ?_ ?_ ?_
  · decide
  · simp [chg]
  · simp only [loopFuel]; omega
  rintro i env H ⟨h8, h3, hi⟩
  have hfit : i < 9223372036854775807 := by omega
  have hcl := chg_le (c.xs.take i)
  rw [List.length_take] at hcl
  have hfit2 : chg (c.xs.take i) < 9223372036854775807 := by omega
  have hs : ∀ h : i < c.xs.length, Hide (chg (c.xs.take (i + 1)) = chg (c.xs.take i) + if c.xs[i] = 0 then 0 else 1) := fun h => ⟨chg_succ h⟩
  (repeat' first | simp [*, initEnv] | (refine wpIf_two (fun _ h => ?_) (fun _ h => ?_) <;> try simp [-Nat.le_zero_eq] at h))
  · exact ⟨i + 1, by omega, by simp, by rw [(hs (by assumption)).h, if_pos (by assumption)]; simp, by omega⟩
  · exact ⟨i + 1, by omega, by simp, by rw [(hs (by assumption)).h, if_neg (by assumption)]; simp, by omega⟩
  · rw [List.take_of_length_le (by omega)]
@[simp] theorem d76 (n : Nat) (H : Heap) (c : Sl Int) (hc : c.xs.length < 1000) : doCall (calleeOf G (n + 1)) H (.pure (.func 76 [])) [.pure (c.pv intF 1)] = some (.val (.pure (.int .i64 (chg c.xs)))) :=
  call_pureC (ps := [_]) (caps := []) sh76 (e76 n c hc)
theorem sh26 : G.shared 26 = false := by decide
theorem e26 (n : Nat) (c : Sl Int) (hc : c.xs.length < 1000) : callP G (n + 1) 26 [c.pv intF 1] = some (.int .i64 (chg c.xs)) := by
  refine callP_of (ext_none _) rfl g26 rfl ?_
  (repeat' first | simp [*, initEnv, c26] | (refine wpIf_two (fun _ h => ?_) (fun _ h => ?_) <;> try simp [-Nat.le_zero_eq] at h))
  refine wp_loopF [(3, 17)] (fun (i : Nat) env H => env 4 = .pure (.int .i64 i) ∧ env 3 = .pure (.int .i64 (chg (c.xs.take i))) ∧ i ≤ c.xs.length) (fun i => c.xs.length - i) 0 ?_ ?_ ?_ ?_
  · decide
  · simp [chg]
  · simp only [loopFuel]; omega
  rintro i env H ⟨h8, h3, hi⟩
  have hfit : i < 9223372036854775807 := by omega
  have hcl := chg_le (c.xs.take i)
  rw [List.length_take] at hcl
  have hfit2 : chg (c.xs.take i) < 9223372036854775807 := by omega
  have hs : ∀ h : i < c.xs.length, Hide (chg (c.xs.take (i + 1)) = chg (c.xs.take i) + if c.xs[i] = 0 then 0 else 1) := fun h => ⟨chg_succ h⟩
  (repeat' first | simp [*, initEnv] | (refine wpIf_two (fun _ h => ?_) (fun _ h => ?_) <;> try simp [-Nat.le_zero_eq] at h))
  · exact ⟨i + 1, by omega, by simp, by rw [(hs (by assumption)).h, if_pos (by assumption)]; simp, by omega⟩
  · exact ⟨i + 1, by omega, by simp, by rw [(hs (by assumption)).h, if_neg (by assumption)]; simp, by omega⟩
  · rw [List.take_of_length_le (by omega)]
@[simp] theorem d26 (n : Nat) (H : Heap) (c : Sl Int) (hc : c.xs.length < 1000) : doCall (calleeOf G (n + 1)) H (.pure (.func 26 [])) [.pure (c.pv intF 1)] = some (.val (.pure (.int .i64 (chg c.xs)))) :=
  call_pureC (ps := [_]) (caps := []) sh26 (e26 n c hc)
theorem sh92 : G.shared 92 = false := by decide
theorem e92 (n : Nat) (l : Life) (N : Nat) (hN : N = 3 ^ (l.sights.xs.length - 1)) (h1 : 1 ≤ l.sights.xs.length) (h9 : l.sights.xs.length ≤ 9) : callP G (n + 1) 92 [.agg l.cells] = some (.int .i64 (N : Nat)) := by
  refine callP_of (ext_none _) rfl g92 rfl ?_
  have hP : Hide _ := ⟨hN⟩
  clear hN
  (repeat' first | simp [*, initEnv, c92] | (refine wpIf_two (fun _ h => ?_) (fun _ h => ?_) <;> try simp [-Nat.le_zero_eq] at h))
  refine wp_loopF [(3, 13)] (fun (s : Nat × Nat) env H => env 4 = .pure (.int .i64 s.1) ∧ env 3 = .pure (.int .i64 s.2) ∧ 1 ≤ s.1 ∧ s.1 ≤ l.sights.xs.length ∧ s.2 ≤ 6561 ∧ Hide (s.2 = 3 ^ (s.1 - 1))) (fun s => l.sights.xs.length - s.1) (1, 1) ?_ ?_ ?_ ?_
  · decide
  · simp [h1]
  · simp only [loopFuel]; omega
  rintro ⟨i, p⟩ env H ⟨h4, h3, hi1, hi, hp, hn⟩
  simp only at h4 h3 hi1 hi hp hn
  have hfit : i < 9223372036854775807 := by omega
  have hw : IntKind.i64.wrap (3 * (p : Int)) = ((3 * p : Nat) : Int) := by rw [wrap64 (by omega) (by omega)]; simp
  have hstep : Hide (3 * p = 3 ^ (i + 1 - 1)) := ⟨by
    have : i + 1 - 1 = (i - 1) + 1 := by omega
    rw [hn.h, this, Nat.pow_succ, Nat.mul_comm]⟩
  (repeat' first | simp [*, initEnv] | (refine wpIf_two (fun _ h => ?_) (fun _ h => ?_) <;> try simp [-Nat.le_zero_eq] at h))
  · refine ⟨i + 1, by omega, by simp, 3 * p, by simp, by omega, by omega, ?_, hstep⟩
    rw [hstep.h]
    have h8 : i + 1 - 1 ≤ 8 := by omega
    have : 3 ^ (i + 1 - 1) ≤ 3 ^ 8 := Nat.pow_le_pow_right (by decide) h8
    exact this
  · have : i = l.sights.xs.length := by omega
    rw [hn.h, hP.h, this]
@[simp] theorem d92 (n : Nat) (H : Heap) (l_habit_step : Int) (l_habit_place : Int) (l_habit_sink : Int) (l_sights : Sl Sight) (l_notes : Sl Note) (N : Nat) (hN : (fun (l : Life) => N = 3 ^ (l.sights.xs.length - 1)) (⟨⟨l_habit_step, l_habit_place, l_habit_sink⟩, l_sights, l_notes⟩ : Life)) (h1 : (fun (l : Life) => 1 ≤ l.sights.xs.length) (⟨⟨l_habit_step, l_habit_place, l_habit_sink⟩, l_sights, l_notes⟩ : Life)) (h9 : (fun (l : Life) => l.sights.xs.length ≤ 9) (⟨⟨l_habit_step, l_habit_place, l_habit_sink⟩, l_sights, l_notes⟩ : Life)) : doCall (calleeOf G (n + 1)) H (.pure (.func 92 [])) [.pure (.agg [.int .i64 l_habit_step, .int .i64 l_habit_place, .int .i64 l_habit_sink, (l_sights).pv Sight.cells 9, (l_notes).pv Note.cells 4])] = some (.val (.pure (.int .i64 (N : Nat)))) :=
  call_pureC (ps := [_]) (caps := []) sh92 (e92 n (⟨⟨l_habit_step, l_habit_place, l_habit_sink⟩, l_sights, l_notes⟩ : Life) N hN h1 h9)
theorem sh93 : G.shared 93 = false := by decide
theorem e93 (n : Nat) (l : Life) (j : Nat) (h1 : 1 ≤ l.sights.xs.length) (h9 : l.sights.xs.length ≤ 9) (hj : j < 100000) : callP G (n + 1) 93 [.agg l.cells, .int .i64 (j : Nat)] = some ((Sl.of (toC (l.sights.xs.length - 1) j)).pv intF 1) := by
  refine callP_of (ext_none _) rfl g93 rfl ?_
  obtain ⟨c0, hc0⟩ : ∃ c, c = toC (l.sights.xs.length - 1) j := ⟨_, rfl⟩
  rw [← hc0]
  have hcc : Hide _ := ⟨hc0⟩
  clear hc0
  (repeat' first | simp [*, initEnv, c93] | (refine wpIf_two (fun _ h => ?_) (fun _ h => ?_) <;> try simp [-Nat.le_zero_eq] at h) | (apply wpE_appendV; (focus (first | assumption | (repeat' first | assumption | with_reducible apply GrowV.setNew | with_reducible apply GrowV.alloc | with_reducible apply GrowV.set | (with_reducible show ¬ Names _ _; simp [*]; done)))); (focus (exact fun _ => rfl)); (focus decide); (focus (intro a; first | rfl | simp)); (focus (simp [maxCells] <;> omega))) | (refine after_intro fun v2 H2 hv2 hnx2 hget2 hnew2 hone2 hcel2 => ?_))
  refine wp_loopF [(1, 1), (5, 20)] (fun (s : Nat × Nat × List Int) env H => env 6 = .pure (.int .i64 s.1) ∧ env 1 = .pure (.int .i64 s.2.1) ∧ GrowV intF 1 H (env 5) s.2.2 ∧ 1 ≤ s.1 ∧ s.1 ≤ l.sights.xs.length ∧ s.2.1 < 100000 ∧ s.2.2.length < 10 ∧ Hide (s.2.2.length = s.1 - 1 ∧ c0 = s.2.2 ++ toC (l.sights.xs.length - s.1) s.2.1)) (fun s => l.sights.xs.length - s.1) (1, j, []) ?_ ?_ ?_ ?_
  · decide
  · refine ⟨by simp, by simp [initEnv], by simpa using GrowV.nil, by omega, by omega, hj, by simp, ⟨rfl, by rw [hcc.h]; rfl⟩⟩
  · simp only [loopFuel]; omega
  rintro ⟨i, cur, out⟩ env H ⟨h6, h1', hg, hi1, hi, hcur, hol, hn⟩
  simp only at h6 h1' hg hi1 hi hcur hol hn
  have hfit : i < 9223372036854775807 := by omega
  have ht : ((cur : Int)).tmod 3 = ((cur % 3 : Nat) : Int) := rfl
  have hq : IntKind.i64.wrap ((cur : Int).tdiv 3) = ((cur / 3 : Nat) : Int) := by
    have : (cur : Int).tdiv 3 = ((cur / 3 : Nat) : Int) := rfl
    rw [this, wrap64 (by omega) (by omega)]
  obtain ⟨q, hq0⟩ : ∃ q, q = cur / 3 := ⟨_, rfl⟩
  obtain ⟨d, hd0⟩ : ∃ d, d = cur % 3 := ⟨_, rfl⟩
  rw [← hq0] at hq
  rw [← hd0] at ht
  have hq2 : IntKind.i64.wrap ((cur : Int) / 3) = q := by rw [wrap64 (by omega) (by omega), hq0]; omega
  have hd2 : (cur : Int) % 3 = d := by omega
  have hq1 : Hide _ := ⟨hq0⟩
  have hd1 : Hide _ := ⟨hd0⟩
  clear hq0 hd0
  obtain ⟨ids, hids⟩ := hg.res (n := 10) (fun _ => rfl)
  (repeat' first | simp [*, initEnv] | (refine wpIf_two (fun _ h => ?_) (fun _ h => ?_) <;> try simp [-Nat.le_zero_eq] at h) | (apply wpE_appendV; (focus (first | assumption | (repeat' first | assumption | with_reducible apply GrowV.setNew | with_reducible apply GrowV.alloc | with_reducible apply GrowV.set | (with_reducible show ¬ Names _ _; simp [*]; done)))); (focus (exact fun _ => rfl)); (focus decide); (focus (intro a; first | rfl | simp)); (focus (simp [maxCells] <;> omega))) | (refine after_intro fun v2 H2 hv2 hnx2 hget2 hnew2 hone2 hcel2 => ?_))
  · refine ⟨i + 1, by omega, by simp, q, by first | rfl | exact hq2, out ++ [(d : Int)], hv2, by omega, by omega, by have := hq1.h; omega, ?_, ⟨?_, ?_⟩⟩
    · have := hn.h.1; simp; omega
    · have := hn.h.1; simp; omega
    · have e : l.sights.xs.length - i = (l.sights.xs.length - (i + 1)) + 1 := by omega
      rw [hn.h.2, e, toC, ← hq1.h, ← hd1.h]
      simp
  · have e : l.sights.xs.length - i = 0 := by omega
    have := hn.h.2
    rw [e, toC, List.append_nil] at this
    rw [this]
    exact ⟨ids, hids⟩
@[simp] theorem d93 (n : Nat) (H : Heap) (l_habit_step : Int) (l_habit_place : Int) (l_habit_sink : Int) (l_sights : Sl Sight) (l_notes : Sl Note) (j : Nat) (h1 : (fun (l : Life) => 1 ≤ l.sights.xs.length) (⟨⟨l_habit_step, l_habit_place, l_habit_sink⟩, l_sights, l_notes⟩ : Life)) (h9 : (fun (l : Life) => l.sights.xs.length ≤ 9) (⟨⟨l_habit_step, l_habit_place, l_habit_sink⟩, l_sights, l_notes⟩ : Life)) (hj : j < 100000) : doCall (calleeOf G (n + 1)) H (.pure (.func 93 [])) [.pure (.agg [.int .i64 l_habit_step, .int .i64 l_habit_place, .int .i64 l_habit_sink, (l_sights).pv Sight.cells 9, (l_notes).pv Note.cells 4]), .pure (.int .i64 (j : Nat))] = some (.val (.pure ((fun (l : Life) => (Sl.of (toC (l.sights.xs.length - 1) j)).pv intF 1) (⟨⟨l_habit_step, l_habit_place, l_habit_sink⟩, l_sights, l_notes⟩ : Life)))) :=
  call_pureC (ps := [_, _]) (caps := []) sh93 (e93 n (⟨⟨l_habit_step, l_habit_place, l_habit_sink⟩, l_sights, l_notes⟩ : Life) j h1 h9 hj)
end Go.Proofs.YtnomliioadjdgaaGreat.Vm

namespace Go.Proofs.YtnomliioadjdgaaGreat.Vm
open Go
set_option linter.unusedSimpArgs false
set_option linter.unusedVariables false
set_option maxHeartbeats 4000000

/-! ### How many courses there are, by their changes -/
def addAt (out : List Int) (i : Nat) : List Int := out.set i (out[i]! + 1)
def byTo (p : List Int → Bool) (m : Nat) : Nat → List Int
  | 0 => List.replicate (m + 1) 0
  | j + 1 => if p (toC m j) = true then addAt (byTo p m j) (chg (toC m j)) else byTo p m j
theorem byTo_length (p : List Int → Bool) (m : Nat) : ∀ j, (byTo p m j).length = m + 1
  | 0 => by simp [byTo]
  | j + 1 => by
    rw [byTo]
    split
    · rw [addAt, List.length_set, byTo_length p m j]
    · exact byTo_length p m j
theorem byTo_le (p : List Int → Bool) (m : Nat) : ∀ j, ∀ a ∈ byTo p m j, 0 ≤ a ∧ a ≤ j
  | 0 => by
    intro a ha
    simp [byTo] at ha
    omega
  | j + 1 => by
    have ih := byTo_le p m j
    intro a ha
    rw [byTo] at ha
    split at ha
    · rcases List.mem_or_eq_of_mem_set ha with ha | rfl
      · have := ih a ha; omega
      · have hl := byTo_length p m j
        have hc := chg_le (toC m j)
        rw [toC_length] at hc
        have := ih ((byTo p m j)[chg (toC m j)]!) (by rw [getElem!_pos _ _ (by omega)]; exact List.getElem_mem _)
        omega
    · have := ih a ha; omega
theorem pow_le_of {m : Nat} (h : m ≤ 8) : 3 ^ m ≤ 6561 := by
  have : 3 ^ m ≤ 3 ^ 8 := Nat.pow_le_pow_right (by decide) h
  exact this
def fitP (l : Life) (c : List Int) : Bool := (tellS l c).isSome

theorem sh62 : G.shared 62 = false := by decide
theorem e62 (n : Nat) (l : Life) : callP G (n + 1) 62 [.agg l.cells] = some (.func 112 [.ptr false l.cells 0]) := by
  refine callP_of (ext_none _) rfl g62 rfl ?_
  (repeat' first | simp [*, initEnv, c62] | (refine wpIf_two (fun _ h => ?_) (fun _ h => ?_) <;> try simp [-Nat.le_zero_eq] at h))
@[simp] theorem d62 (n : Nat) (H : Heap) (l_habit_step : Int) (l_habit_place : Int) (l_habit_sink : Int) (l_sights : Sl Sight) (l_notes : Sl Note) : doCall (calleeOf G (n + 1)) H (.pure (.func 62 [])) [.pure (.agg [.int .i64 l_habit_step, .int .i64 l_habit_place, .int .i64 l_habit_sink, (l_sights).pv Sight.cells 9, (l_notes).pv Note.cells 4])] = some (.val (.pure ((fun (l : Life) => .func 112 [.ptr false l.cells 0]) (⟨⟨l_habit_step, l_habit_place, l_habit_sink⟩, l_sights, l_notes⟩ : Life)))) :=
  call_pureC (ps := [_]) (caps := []) sh62 (e62 n (⟨⟨l_habit_step, l_habit_place, l_habit_sink⟩, l_sights, l_notes⟩ : Life))
theorem sh34 : G.shared 34 = false := by decide
theorem e34 (n : Nat) (l : Life) (hs : shortS l) : callP G (n + 10) 34 [.agg l.cells] = some ((if checkS l = 0 then .tup [(Sl.mk false (byTo (fitP l) (l.sights.xs.length - 1) (3 ^ (l.sights.xs.length - 1)))).pv intF 1, .int .i64 0] else .tup [.nils, .int .i64 (checkS l)])) := by
  refine callP_of (ext_none _) rfl g34 rfl ?_
  have hcc : ∀ H, doCall (calleeOf G (n + 9)) H (.pure (.func 41 [])) [.pure (.agg l.cells)] = some (.val (.pure (.int .i64 (checkS l)))) := fun H => d41 (n + 4) H l.habit.step l.habit.place l.habit.sink l.sights l.notes hs
  simp only [Life.cells] at hcc
  by_cases hck : checkS l = 0
  · have hr := (right_iff l).1 hck
    have h1 := hr.one
    have h9 := hr.nine
    have hm1 : l.sights.xs.length * 8 ≤ maxCells := by unfold maxCells; omega
    have hm2 : l.sights.xs.length ≤ maxCells := by unfold maxCells; omega
    (repeat' first | simp [*, initEnv, c34] | (refine wpIf_two (fun _ h => ?_) (fun _ h => ?_) <;> try simp [-Nat.le_zero_eq] at h))
    refine wp_courses (n := n) (l := l) hr (by simp) rfl (fun idc j H1 => 2 < idc ∧ H1.get 0 = .cells true (rowOf intF (byTo (fitP l) (l.sights.xs.length - 1) j)) ∧ H1.get 1 = .cells true [.row 0 1 0 l.sights.xs.length]) ?_ ?_ ?_ ?_ ?_
    · rintro idc j H1 H2 ⟨hi, g0, g1⟩ hnx hsame
      have := nx_of_get g1
      refine ⟨hi, by rw [hsame 0 (by omega) (by omega) (by simp)]; exact g0, by rw [hsame 1 (by omega) (by omega) (by simp)]; exact g1⟩
    · intro idc hi
      have e : l.sights.xs.length - 1 + 1 = l.sights.xs.length := by omega
      refine ⟨by simpa using hi, ?_, by simp⟩
      simp [byTo, rowOf_zeros, e]
    · rintro idc j H1 hj ht ⟨hi, g0, g1⟩
      refine ⟨hi, ?_, g1⟩
      rw [byTo, if_neg (by simp [fitP, ht])]; exact g0
    · intro idc j t H1 hj ht hi hlt
      (repeat' first | simp [*, initEnv] | (refine wpIf_two (fun _ h => ?_) (fun _ h => ?_) <;> try simp [-Nat.le_zero_eq] at h))
      rintro Hb hi2 g0 g1 gc hnx
      have hcl := toC_length (l.sights.xs.length - 1) j
      obtain ⟨s, hs1, hs2⟩ := row_sl (f := intF) (sz := 1) (n := 10) (fun _ => rfl) gc hcl
      have hch : callP G (n + 7) 76 [s.pv intF 1] = some (.int .i64 (chg (toC (l.sights.xs.length - 1) j))) := by
        have := e76 (n + 6) s (by rw [hs1, hcl]; omega)
        rw [hs1] at this; exact this
      have hlen := byTo_length (fitP l) (l.sights.xs.length - 1) j
      have hle := chg_le (toC (l.sights.xs.length - 1) j)
      rw [hcl] at hle
      have hj3 := pow_le_of (m := l.sights.xs.length - 1) (by omega)
      have hbd := byTo_le (fitP l) (l.sights.xs.length - 1) j
      have hst : Hide (byTo (fitP l) (l.sights.xs.length - 1) (j + 1) = addAt (byTo (fitP l) (l.sights.xs.length - 1) j) (chg (toC (l.sights.xs.length - 1) j))) := ⟨by rw [byTo, if_pos (by simp [fitP, ht])]⟩
      have hk1 : chg (toC (l.sights.xs.length - 1) j) < l.sights.xs.length := by omega
      generalize hB : byTo (fitP l) (l.sights.xs.length - 1) j = B at *
      generalize hK : chg (toC (l.sights.xs.length - 1) j) = K at *
      have hk2 : K < B.length := by omega
      have hbk := hbd B[K] (List.getElem_mem _)
      have hwr : IntKind.i64.wrap (B[K] + 1) = B[K] + 1 := wrap64 (by omega) (by omega)
      have hn0 : 0 < Hb.nx := by omega
      have hi0 : ¬ (idc = 0) := by omega
      clear hcc hlen hbd hB hK
      (repeat' first | simp [*, initEnv] | (refine wpIf_two (fun _ h => ?_) (fun _ h => ?_) <;> try simp [-Nat.le_zero_eq] at h))
      refine wpE_own (caps := []) (by decide) (.cons hs2 .nil) hch rfl ?_
      (repeat' first | simp [*, initEnv] | (refine wpIf_two (fun _ h => ?_) (fun _ h => ?_) <;> try simp [-Nat.le_zero_eq] at h))
      rw [hst.h, addAt, getElem!_pos B K hk2]
    · rintro idc H' ⟨hi, g0, g1⟩
      have hlen := byTo_length (fitP l) (l.sights.xs.length - 1) (3 ^ (l.sights.xs.length - 1))
      have e : l.sights.xs.length - 1 + 1 = l.sights.xs.length := by omega
      rw [e] at hlen
      obtain ⟨ids, hids⟩ := row_res (f := intF) (sz := 1) (n := 9) (fun _ => rfl) g0 hlen
      (repeat' first | simp [*, initEnv] | (refine wpIf_two (fun _ h => ?_) (fun _ h => ?_) <;> try simp [-Nat.le_zero_eq] at h))
  · (repeat' first | simp [*, initEnv, c34] | (refine wpIf_two (fun _ h => ?_) (fun _ h => ?_) <;> try simp [-Nat.le_zero_eq] at h))
@[simp] theorem d34 (n : Nat) (H : Heap) (l_habit_step : Int) (l_habit_place : Int) (l_habit_sink : Int) (l_sights : Sl Sight) (l_notes : Sl Note) (hs : (fun (l : Life) => shortS l) (⟨⟨l_habit_step, l_habit_place, l_habit_sink⟩, l_sights, l_notes⟩ : Life)) : doCall (calleeOf G (n + 10)) H (.pure (.func 34 [])) [.pure (.agg [.int .i64 l_habit_step, .int .i64 l_habit_place, .int .i64 l_habit_sink, (l_sights).pv Sight.cells 9, (l_notes).pv Note.cells 4])] = some (.val (.pure ((fun (l : Life) => (if checkS l = 0 then .tup [(Sl.mk false (byTo (fitP l) (l.sights.xs.length - 1) (3 ^ (l.sights.xs.length - 1)))).pv intF 1, .int .i64 0] else .tup [.nils, .int .i64 (checkS l)])) (⟨⟨l_habit_step, l_habit_place, l_habit_sink⟩, l_sights, l_notes⟩ : Life)))) :=
  call_pureC (ps := [_]) (caps := []) sh34 (e34 n (⟨⟨l_habit_step, l_habit_place, l_habit_sink⟩, l_sights, l_notes⟩ : Life) hs)

-- left out: the program of this seat has no such function

/-! ### Which kinds each gap can have -/
def bitOf (k : Int) : Int := if k = 2 then 4 else if k = 1 then 2 else 1
def addBit (a k : Int) : Int := if (a.tdiv (bitOf k)).tmod 2 = 0 then a + bitOf k else a
def kindsTo (p : List Int → Bool) (m : Nat) : Nat → List Int × Bool
  | 0 => (List.replicate m 0, false)
  | j + 1 => if p (toC m j) = true then ((kindsTo p m j).1.zipWith addBit (toC m j), true) else kindsTo p m j
theorem kindsTo_length (p : List Int → Bool) (m : Nat) : ∀ j, (kindsTo p m j).1.length = m
  | 0 => by simp [kindsTo]
  | j + 1 => by
    rw [kindsTo]
    split
    · simp [kindsTo_length p m j, toC_length]
    · exact kindsTo_length p m j
theorem bit_cases {a k : Int} (ha : 0 ≤ a ∧ a ≤ 7) (hk : 0 ≤ k ∧ k ≤ 2) : (0 ≤ addBit a k ∧ addBit a k ≤ 7) ∧ vbin .shl .num (.pure (.int .i64 1)) (.pure (.int .i64 k)) = some (.pure (.int .i64 (bitOf k))) ∧ vbin .or .num (.pure (.int .i64 a)) (.pure (.int .i64 (bitOf k))) = some (.pure (.int .i64 (addBit a k))) ∧
    IntKind.i64.wrap (a.tdiv (bitOf k)) = a.tdiv (bitOf k) ∧ IntKind.i64.wrap (a + bitOf k) = a + bitOf k := by
  have h1 : a = 0 ∨ a = 1 ∨ a = 2 ∨ a = 3 ∨ a = 4 ∨ a = 5 ∨ a = 6 ∨ a = 7 := by omega
  have h2 : k = 0 ∨ k = 1 ∨ k = 2 := by omega
  rcases h1 with rfl | rfl | rfl | rfl | rfl | rfl | rfl | rfl <;> rcases h2 with rfl | rfl | rfl <;> exact ⟨⟨by decide, by decide⟩, rfl, rfl, rfl, rfl⟩
theorem kindsTo_le (p : List Int → Bool) (m : Nat) : ∀ j, ∀ a ∈ (kindsTo p m j).1, 0 ≤ a ∧ a ≤ 7
  | 0 => by
    intro a ha
    simp [kindsTo] at ha
    omega
  | j + 1 => by
    have ih := kindsTo_le p m j
    intro a ha
    rw [kindsTo] at ha
    split at ha
    · obtain ⟨i, hi, rfl⟩ := List.getElem_of_mem ha
      simp at hi ⊢
      exact (bit_cases (ih _ (List.getElem_mem _)) (toC_kinds m j _ (List.getElem_mem (by omega)))).1
    · exact ih a ha

def mixT (Z B : List Int) (i : Nat) : List Int := Z.take i ++ B.drop i
theorem mixT_length {Z B : List Int} {i : Nat} (h : Z.length = B.length) (hi : i ≤ B.length) : (mixT Z B i).length = B.length := by simp [mixT]; omega
theorem mixT_get {Z B : List Int} {i : Nat} (h : Z.length = B.length) (hi : i < B.length) (h' : i < (mixT Z B i).length) : (mixT Z B i)[i] = B[i] := by
  simp only [mixT]
  rw [List.getElem_append_right (by simp; omega)]
  simp [Nat.min_eq_left (show i ≤ Z.length by omega)]
theorem mixT_set {Z B : List Int} {i : Nat} (h : Z.length = B.length) (hi : i < B.length) : (mixT Z B i).set i (Z[i]'(by omega)) = mixT Z B (i + 1) := by
  have hl : (Z.take i).length = i := by simp; omega
  simp only [mixT]
  rw [List.set_append_right _ _ (by omega), hl, Nat.sub_self, List.drop_eq_getElem_cons hi, List.set_cons_zero, ← take_succ' (by omega), List.append_assoc]
  rfl
theorem mixT_end {Z B : List Int} {i : Nat} (h : Z.length = B.length) (hi : i = B.length) : mixT Z B i = Z := by
  simp only [mixT]
  rw [List.take_of_length_le (by omega), List.drop_eq_nil_of_le (by omega), List.append_nil]

theorem sh27 : G.shared 27 = false := by decide
theorem e27 (n : Nat) (l : Life) (hs : shortS l) : callP G (n + 10) 27 [.agg l.cells] = some ((if checkS l = 0 then (if (kindsTo (fitP l) (l.sights.xs.length - 1) (3 ^ (l.sights.xs.length - 1))).2 = true then .tup [(Sl.mk false (kindsTo (fitP l) (l.sights.xs.length - 1) (3 ^ (l.sights.xs.length - 1))).1).pv intF 1, .int .i64 0] else .tup [.nils, .int .i64 9]) else .tup [.nils, .int .i64 (checkS l)])) := by
  refine callP_of (ext_none _) rfl g27 rfl ?_
  have hcc : ∀ H, doCall (calleeOf G (n + 9)) H (.pure (.func 41 [])) [.pure (.agg l.cells)] = some (.val (.pure (.int .i64 (checkS l)))) := fun H => d41 (n + 4) H l.habit.step l.habit.place l.habit.sink l.sights l.notes hs
  simp only [Life.cells] at hcc
  by_cases hck : checkS l = 0
  · have hr := (right_iff l).1 hck
    have h1 := hr.one
    have h9 := hr.nine
    have hw : IntKind.i64.wrap ((l.sights.xs.length : Int) - 1) = ((l.sights.xs.length - 1 : Nat) : Int) := wrap_pred (by omega) (by omega)
    obtain ⟨m, hm0⟩ : ∃ m, m = l.sights.xs.length - 1 := ⟨_, rfl⟩
    rw [← hm0] at hw ⊢
    have hm1 : m * 8 ≤ maxCells := by unfold maxCells; omega
    have hm2 : m ≤ maxCells := by unfold maxCells; omega
    have hm8 : m ≤ 8 := by omega
    have hm : Hide _ := ⟨hm0⟩
    clear hm0
    (repeat' first | simp [*, initEnv, c27] | (refine wpIf_two (fun _ h => ?_) (fun _ h => ?_) <;> try simp [-Nat.le_zero_eq] at h))
    refine wp_courses (n := n) (l := l) hr (by simp) rfl (fun idc j H1 => 3 < idc ∧ H1.get 0 = .cells true (rowOf intF (kindsTo (fitP l) m j).1) ∧ H1.get 1 = .cells true [.row 0 1 0 m] ∧ H1.get 2 = .cells true [.pure (.bool (kindsTo (fitP l) m j).2)]) ?_ ?_ ?_ ?_ ?_
    · rintro idc j H1 H2 ⟨hi, g0, g1, g2⟩ hnx hsame
      have := nx_of_get g2
      exact ⟨hi, by rw [hsame 0 (by omega) (by omega) (by simp)]; exact g0, by rw [hsame 1 (by omega) (by omega) (by simp)]; exact g1, by rw [hsame 2 (by omega) (by omega) (by simp)]; exact g2⟩
    · intro idc hi
      refine ⟨by simpa using hi, ?_, by simp, by simp [kindsTo]⟩
      simp [kindsTo, rowOf_zeros]
    · rw [← hm.h]
      rintro idc j H1 hj ht ⟨hi, g0, g1, g2⟩
      have e : kindsTo (fitP l) m (j + 1) = kindsTo (fitP l) m j := by rw [kindsTo, if_neg (by simp [fitP, ht])]
      rw [e]
      exact ⟨hi, g0, g1, g2⟩
    · rw [← hm.h]
      intro idc j t H1 hj ht hi hlt
      (repeat' first | simp [*, initEnv] | (refine wpIf_two (fun _ h => ?_) (fun _ h => ?_) <;> try simp [-Nat.le_zero_eq] at h))
      rintro Hb hi2 g0 g1 g2 gc hnx
      have hcl := toC_length m j
      have e : Hide (kindsTo (fitP l) m (j + 1) = ((kindsTo (fitP l) m j).1.zipWith addBit (toC m j), true)) := ⟨by rw [kindsTo, if_pos (by simp [fitP, ht])]⟩
      have hBl := kindsTo_length (fitP l) m j
      have hBb := kindsTo_le (fitP l) m j
      generalize (kindsTo (fitP l) m j).2 = S0 at *
      generalize (kindsTo (fitP l) m j).1 = B at *
      have hck := toC_kinds m j
      generalize toC m j = C at *
      have hZl : (B.zipWith addBit C).length = B.length := by simp; omega
      have hnx2 : 2 < Hb.nx := by omega
      (repeat' first | simp [*, initEnv] | (refine wpIf_two (fun _ h => ?_) (fun _ h => ?_) <;> try simp [-Nat.le_zero_eq] at h))
      refine wp_loopF [(8, 9), (26, 39)] (fun (i : Nat) env H3 => env 26 = .pure (.int .i64 i) ∧ i ≤ m ∧ H3.nx = Hb.nx ∧ H3.get 0 = .cells true (rowOf intF (mixT (B.zipWith addBit C) B i)) ∧ H3.get 1 = .cells true [.row 0 1 0 m] ∧ H3.get 2 = .cells true [.pure (.bool true)] ∧ H3.get idc = .cells true (rowOf intF C) ∧ H3.get 3 = Hb.get 3) (fun i => m - i) 0 ?_ ?_ ?_ ?_
      · decide
      · refine ⟨by simp, by omega, by simp, by rw [get_set_ne (by decide)]; simpa [mixT] using g0, by rw [get_set_ne (by decide)]; exact g1, by rw [get_set_own hnx2], by rw [get_set_ne (by omega)]; exact gc, by rw [get_set_ne (by decide)]⟩
      · simp only [loopFuel]; omega
      rintro i env H3 ⟨h26, hi, gn, k0, k1, k2, kc, k3⟩
      have hfit : i < 9223372036854775807 := by omega
      have hXl := mixT_length (Z := B.zipWith addBit C) (B := B) (i := i) hZl (by omega)
      rw [hBl] at hXl
      have n0 := nx_of_get k0
      have hi0 : ¬ (idc = 0) := by omega
      have hi3 : ¬ (3 = 0) := by omega
      by_cases him : i < m
      · have hXg := mixT_get (Z := B.zipWith addBit C) (B := B) (i := i) hZl (by omega) (by omega)
        have hXs := mixT_set (Z := B.zipWith addBit C) (B := B) (i := i) hZl (by omega)
        have hZi : (B.zipWith addBit C)[i]'(by omega) = addBit (B[i]'(by omega)) (C[i]'(by omega)) := by simp
        rw [hZi] at hXs
        obtain ⟨b1, b2, b3, b4, b5⟩ := bit_cases (hBb _ (List.getElem_mem (l := B) (n := i) (by omega))) (hck _ (List.getElem_mem (l := C) (n := i) (by omega)))
        obtain ⟨X, k0, hXl, hXg, hXs⟩ : ∃ X : List Int, H3.get 0 = .cells true (rowOf intF X) ∧ X.length = m ∧ (∀ h, X[i]'h = B[i]'(by omega)) ∧ X.set i (addBit (B[i]'(by omega)) (C[i]'(by omega))) = mixT (B.zipWith addBit C) B (i + 1) := ⟨_, k0, hXl, fun _ => hXg, hXs⟩
        have hXs' : Hide _ := ⟨hXs⟩
        have hXg' := hXg (by omega)
        clear hXs hXg hZi b4 b5
        have hcl' : C.length = m := hcl
        (repeat' first | simp [*, initEnv] | (refine wpIf_two (fun _ h => ?_) (fun _ h => ?_) <;> try simp [-Nat.le_zero_eq] at h))
        exact ⟨i + 1, by omega, by simp, by omega, by first | rw [hXs'.h] | rw [get_set_own n0]⟩
      · have hie : i = m := by omega
        have hXe := mixT_end (Z := B.zipWith addBit C) (B := B) (i := i) hZl (by omega)
        rw [hXe] at k0
        have e1 : (kindsTo (fitP l) m (j + 1)).1 = B.zipWith addBit C := by rw [e.h]
        have e2 : (kindsTo (fitP l) m (j + 1)).2 = true := by rw [e.h]
        (repeat' first | simp [*, initEnv] | (refine wpIf_two (fun _ h => ?_) (fun _ h => ?_) <;> try simp [-Nat.le_zero_eq] at h))
    · rw [← hm.h]
      rintro idc H' ⟨hi, g0, g1, g2⟩
      have hlen := kindsTo_length (fitP l) m (3 ^ m)
      obtain ⟨ids, hids⟩ := row_res (f := intF) (sz := 1) (n := 9) (fun _ => rfl) g0 hlen
      (repeat' first | simp [*, initEnv] | (refine wpIf_two (fun _ h => ?_) (fun _ h => ?_) <;> try simp [-Nat.le_zero_eq] at h))
  · (repeat' first | simp [*, initEnv, c27] | (refine wpIf_two (fun _ h => ?_) (fun _ h => ?_) <;> try simp [-Nat.le_zero_eq] at h))
@[simp] theorem d27 (n : Nat) (H : Heap) (l_habit_step : Int) (l_habit_place : Int) (l_habit_sink : Int) (l_sights : Sl Sight) (l_notes : Sl Note) (hs : (fun (l : Life) => shortS l) (⟨⟨l_habit_step, l_habit_place, l_habit_sink⟩, l_sights, l_notes⟩ : Life)) : doCall (calleeOf G (n + 10)) H (.pure (.func 27 [])) [.pure (.agg [.int .i64 l_habit_step, .int .i64 l_habit_place, .int .i64 l_habit_sink, (l_sights).pv Sight.cells 9, (l_notes).pv Note.cells 4])] = some (.val (.pure ((fun (l : Life) => (if checkS l = 0 then (if (kindsTo (fitP l) (l.sights.xs.length - 1) (3 ^ (l.sights.xs.length - 1))).2 = true then .tup [(Sl.mk false (kindsTo (fitP l) (l.sights.xs.length - 1) (3 ^ (l.sights.xs.length - 1))).1).pv intF 1, .int .i64 0] else .tup [.nils, .int .i64 9]) else .tup [.nils, .int .i64 (checkS l)])) (⟨⟨l_habit_step, l_habit_place, l_habit_sink⟩, l_sights, l_notes⟩ : Life)))) :=
  call_pureC (ps := [_]) (caps := []) sh27 (e27 n (⟨⟨l_habit_step, l_habit_place, l_habit_sink⟩, l_sights, l_notes⟩ : Life) hs)

-- left out: the program of this seat has no such function
end Go.Proofs.YtnomliioadjdgaaGreat.Vm

namespace Go.Proofs.YtnomliioadjdgaaGreat.Vm
open Go
set_option linter.unusedSimpArgs false
set_option linter.unusedVariables false
set_option maxHeartbeats 4000000

theorem allL_full (l : List Span) : someS l = true ↔ ∀ s ∈ l, full s := by
  unfold someS
  rw [allL_iff]
  simp [full]
theorem getElem!_mem_or {c : List Int} (k : Nat) : c[k]! ∈ c ∨ c[k]! = 0 := by
  by_cases h : k < c.length
  · left; rw [getElem!_pos c k h]; exact List.getElem_mem _
  · right; rw [getElem!_neg c k h]; rfl
/-- The gaps of x and of y. -/
theorem gapsX {l : Life} (hr : Right l) (c : List Int) : Gaps (fun _ => True) (onX l c) (onX l c) := by
  have hd := fun (k : Nat) => far_le (k := c[k]!) hr.habit
  refine ⟨?_, ?_, ?_, ?_, fun _ _ _ _ => trivial⟩
  · intro k s t h; unfold sub onX onD at *; simp only; omega
  · intro k s t h; unfold sub onX onD at *; simp only; omega
  · intro k f t h
    have := hd k
    unfold sub onX onD meetS at *; simp only at *; omega
  · intro k f t _ hf ht h
    have := hd k
    unfold full sub onX onD meetS at *; simp only at *; omega
/-- The gaps of heights. -/
theorem gapsH {l : Life} (hr : Right l) (c : List Int) : Gaps (fun s => 0 ≤ s.lo ∧ s.hi ≤ 100) (onH l c) (backH l c) := by
  have hy : ∀ k, k + 1 < l.sights.xs.length → 0 ≤ l.habit.sink * yrS l.sights.xs k := fun k hk => by
    have h1 := hr.yr hk
    have h2 : yrS l.sights.xs k = l.sights.xs[k+1].year - l.sights.xs[k].year := by rw [yrS, getElem!_pos _ k (by omega), getElem!_pos _ (k+1) hk]
    rw [h2]
    exact (sink_le hr.habit h1).1
  refine ⟨?_, ?_, ?_, ?_, ?_⟩
  · intro k s t h
    unfold onH
    by_cases hk : k + 1 < l.sights.xs.length
    · rw [if_pos hk, if_pos hk]; unfold upH sub at *
      split <;> (simp only; omega)
    · rw [if_neg hk, if_neg hk]; exact h
  · intro k s t h
    unfold backH
    by_cases hk : k + 1 < l.sights.xs.length
    · rw [if_pos hk, if_pos hk]; unfold downH sub at *
      split <;> (simp only; omega)
    · rw [if_neg hk, if_neg hk]; exact h
  · intro k f t h
    unfold onH backH at *
    by_cases hk : k + 1 < l.sights.xs.length
    · rw [if_pos hk] at *; unfold upH downH sub meetS at *
      have := hy k hk
      split <;> rename_i h0 <;> simp only [h0, if_true, if_false] at h ⊢ <;> omega
    · rw [if_neg hk] at *
      rw [if_neg hk]
      exact sub_meet h (sub_refl _)
  · intro k f t hR hf ht h
    unfold onH backH at *
    by_cases hk : k + 1 < l.sights.xs.length
    · rw [if_pos hk] at *; unfold upH downH sub meetS full at *
      have := hy k hk
      split <;> rename_i h0 <;> simp only [h0, if_true, if_false] at h ⊢ <;> omega
    · rw [if_neg hk] at *
      unfold sub full meetS at *; simp only; omega
  · intro s t h1 h2
    unfold sub at h2; omega
/-- Rounds are once forth and once back. -/
theorem rounds_through {R : Span → Prop} {on back : Nat → Span → Span} {l : List Span} (g : Gaps R on back) (hR : ∀ s ∈ l, R s) {m r : Nat} (hm : m + 1 = l.length) (hr : l.length ≤ r) :
    throughS on back l = if someS (roundsS on back m r l) = true then some (roundsS on back m r l) else none := by
  by_cases h : ∀ i, i < l.length → full (fN on l i)
  · obtain ⟨h1, h2⟩ := rounds_full g hR hm hr h
    rw [through_some h, if_pos ((allL_full _).2 h2), h1]
  · have h' : ∃ i, i < l.length ∧ ¬ full (fN on l i) := Classical.byContradiction fun hc => h fun i hi => Classical.byContradiction fun hn => hc ⟨i, hi, hn⟩
    rw [through_none h', if_neg (fun e => rounds_empty g hm (by omega) h' ((allL_full _).1 e))]
section
variable {l : Life} {c : List Int}
theorem thX_eq (hr : Right l) (hc : c.length + 1 = l.sights.xs.length) : thX l c = if someS (narX l c) = true then some (narX l c) else none :=
  rounds_through (gapsX hr c) (fun _ _ => trivial) (by simpa using hc) (by simp; omega)
theorem thY_eq (hr : Right l) (hc : c.length + 1 = l.sights.xs.length) : thY l c = if someS (narY l c) = true then some (narY l c) else none :=
  rounds_through (gapsX hr c) (fun _ _ => trivial) (by simpa using hc) (by simp; omega)
theorem thH_eq (hr : Right l) (hc : c.length + 1 = l.sights.xs.length) : thH l c = if someS (narH l c) = true then some (narH l c) else none :=
  rounds_through (gapsH hr c) (fun s hs => by obtain ⟨a, ha, rfl⟩ := List.mem_map.1 hs; have := hr.sp ha; omega) (by simpa using hc) (by simp; omega)
/-- What the program tells is what the specification tells. -/
theorem tell_can (hr : Right l) (hc : c.length + 1 = l.sights.xs.length) : tellS l c = if canS l c = true then some ⟨(narX l c).zipWith Box.mk (narY l c), narH l c, (lettersS l.sights.xs c).getD []⟩ else none := by
  unfold tellS canS
  rw [thX_eq hr hc, thY_eq hr hc, thH_eq hr hc]
  by_cases h0 : allL (fun m => notedS l.sights.xs m c) l.notes.xs = true
  · rw [if_pos h0, h0]
    by_cases h1 : someS (narX l c) = true <;> by_cases h2 : someS (narY l c) = true <;> by_cases h3 : someS (narH l c) = true <;> cases h4 : lettersS l.sights.xs c <;> simp [h1, h2, h3, h4]
  · rw [if_neg h0]
    simp at h0
    simp [h0]
theorem fit_can (hr : Right l) (hc : c.length + 1 = l.sights.xs.length) : fitP l c = canS l c := by
  unfold fitP
  rw [tell_can hr hc]
  split
  · rename_i h; simp [h]
  · rename_i h; simp at h; simp [h]
theorem byTo_congr {p q : List Int → Bool} {m : Nat} (h : ∀ j, p (toC m j) = q (toC m j)) : ∀ j, byTo p m j = byTo q m j
  | 0 => rfl
  | j + 1 => by rw [byTo, byTo, byTo_congr h j, h j]
theorem kindsTo_congr {p q : List Int → Bool} {m : Nat} (h : ∀ j, p (toC m j) = q (toC m j)) : ∀ j, kindsTo p m j = kindsTo q m j
  | 0 => rfl
  | j + 1 => by rw [kindsTo, kindsTo, kindsTo_congr h j, h j]
theorem courses_eq (hr : Right l) (j : Nat) : byTo (fitP l) (l.sights.xs.length - 1) j = byTo (canS l) (l.sights.xs.length - 1) j :=
  byTo_congr (fun j => fit_can hr (by rw [toC_length]; have := hr.one; omega)) j
theorem kinds_eq (hr : Right l) (j : Nat) : kindsTo (fitP l) (l.sights.xs.length - 1) j = kindsTo (canS l) (l.sights.xs.length - 1) j :=
  kindsTo_congr (fun j => fit_can hr (by rw [toC_length]; have := hr.one; omega)) j
end
end Go.Proofs.YtnomliioadjdgaaGreat.Vm

namespace Go.Proofs.YtnomliioadjdgaaGreat.Vm
open Go
set_option linter.unusedSimpArgs false
set_option linter.unusedVariables false
set_option maxHeartbeats 4000000

theorem goL_length : ∀ (r : List (Int × List UInt8)) (p : List UInt8) (m : Nat) (t : List (List UInt8)), goL p m r = some t → t.length = m + r.length
  | [], p, m, t, h => by simp [goL] at h; subst h; simp
  | (k, x) :: r, p, m, t, h => by
    rw [goL] at h
    split at h
    · rw [Option.map_eq_some_iff] at h
      obtain ⟨u, h1, rfl⟩ := h
      have := goL_length r _ _ _ h1
      simp; omega
    · split at h
      · have := goL_length r _ _ _ h
        simp; omega
      · simp at h
theorem letters_length {l : List Sight} {c : List Int} (hl : l.length ≤ 9) : ((lettersS l c).getD []).length < 1000 := by
  unfold lettersS startL
  split
  · cases h : goL l[0].letters 1 ((gapsL l c).drop 0) with
    | none => simp
    | some t =>
      have := goL_length _ _ _ _ h
      simp [gapsL, lets] at this ⊢
      omega
  · simp

@[simp] theorem vbin_neqS (d : EqK) (a b : List UInt8) : vbin .neq d (.pure (.str ⟨a.toArray⟩)) (.pure (.str ⟨b.toArray⟩)) = some (.pure (.bool (!decide (a = b)))) := by
  simp only [vbin, strBin, toList_mk, Option.map_some]
  congr 3
  by_cases h : a = b <;> simp [h]
theorem st_aggEq {cl : Callee} {env : Env} {H : Heap} {neg : Bool} {n : Nat} {os : List Nat} {x y : Opnd} : step cl env H (.aggEq neg n os x y) = if isAggV (x.eval env) = true ∧ isAggV (y.eval env) = true ∧ (x.eval env).cells.length = n ∧ (y.eval env).cells.length = n then
      match cellsEq (x.eval env).cells (y.eval env).cells os with
      | some b => some (.val (.pure (.bool (b != neg))))
      | none => none
    else none := rfl

theorem sh14 : G.shared 14 = false := by decide
theorem e14 (n : Nat) (a : Sl Box) (ha : a.xs.length < 1000) : callP G (n + 1) 14 [a.pv Box.cells 4, a.pv Box.cells 4] = some (.bool true) := by
  refine callP_of (ext_none _) rfl g14 rfl ?_
  (repeat' first | simp [*, initEnv, c14] | (refine wpIf_two (fun _ h => ?_) (fun _ h => ?_) <;> try simp [-Nat.le_zero_eq] at h))
  refine wp_loopF [(4, 5), (11, 25)] (fun (i : Nat) env H => env 5 = .pure (.int .i64 i) ∧ i ≤ a.xs.length) (fun i => a.xs.length - i) 0 ?_ ?_ ?_ ?_
  · decide
  · simp
  · simp only [loopFuel]; omega
  rintro i env H ⟨h5, hi⟩
  have hfit : i < 9223372036854775807 := by omega
  (repeat' first | simp [*, initEnv, st_aggEq, cellsEq, isAggV] | (refine wpIf_two (fun _ h => ?_) (fun _ h => ?_) <;> try simp [-Nat.le_zero_eq] at h))
  all_goals try exact ⟨i + 1, by omega, by simp, by omega⟩
@[simp] theorem d14 (n : Nat) (H : Heap) (a : Sl Box) (ha : a.xs.length < 1000) : doCall (calleeOf G (n + 1)) H (.pure (.func 14 [])) [.pure (a.pv Box.cells 4), .pure (a.pv Box.cells 4)] = some (.val (.pure (.bool true))) :=
  call_pureC (ps := [_, _]) (caps := []) sh14 (e14 n a ha)
-- left out: the program of this seat has no such function
theorem sh40 : G.shared 40 = false := by decide
theorem e40 (n : Nat) (a : Sl (List UInt8)) (ha : a.xs.length < 1000) : callP G (n + 1) 40 [a.pv strF 1, a.pv strF 1] = some (.bool true) := by
  refine callP_of (ext_none _) rfl g40 rfl ?_
  (repeat' first | simp [*, initEnv, c40] | (refine wpIf_two (fun _ h => ?_) (fun _ h => ?_) <;> try simp [-Nat.le_zero_eq] at h))
  refine wp_loopF [(4, 5), (11, 25)] (fun (i : Nat) env H => env 5 = .pure (.int .i64 i) ∧ i ≤ a.xs.length) (fun i => a.xs.length - i) 0 ?_ ?_ ?_ ?_
  · decide
  · simp
  · simp only [loopFuel]; omega
  rintro i env H ⟨h5, hi⟩
  have hfit : i < 9223372036854775807 := by omega
  (repeat' first | simp [*, initEnv, st_aggEq, cellsEq, isAggV] | (refine wpIf_two (fun _ h => ?_) (fun _ h => ?_) <;> try simp [-Nat.le_zero_eq] at h))
  all_goals try exact ⟨i + 1, by omega, by simp, by omega⟩
@[simp] theorem d40 (n : Nat) (H : Heap) (a : Sl (List UInt8)) (ha : a.xs.length < 1000) : doCall (calleeOf G (n + 1)) H (.pure (.func 40 [])) [.pure (a.pv strF 1), .pure (a.pv strF 1)] = some (.val (.pure (.bool true))) :=
  call_pureC (ps := [_, _]) (caps := []) sh40 (e40 n a ha)
theorem sh36 : G.shared 36 = false := by decide
theorem e36 (n : Nat) (a : Sl Int) (ha : a.xs.length < 1000) : callP G (n + 1) 36 [a.pv intF 1, a.pv intF 1] = some (.bool true) := by
  refine callP_of (ext_none _) rfl g36 rfl ?_
  (repeat' first | simp [*, initEnv, c36] | (refine wpIf_two (fun _ h => ?_) (fun _ h => ?_) <;> try simp [-Nat.le_zero_eq] at h))
  refine wp_loopF [(4, 5), (11, 25)] (fun (i : Nat) env H => env 5 = .pure (.int .i64 i) ∧ i ≤ a.xs.length) (fun i => a.xs.length - i) 0 ?_ ?_ ?_ ?_
  · decide
  · simp
  · simp only [loopFuel]; omega
  rintro i env H ⟨h5, hi⟩
  have hfit : i < 9223372036854775807 := by omega
  (repeat' first | simp [*, initEnv, st_aggEq, cellsEq, isAggV] | (refine wpIf_two (fun _ h => ?_) (fun _ h => ?_) <;> try simp [-Nat.le_zero_eq] at h))
  all_goals try exact ⟨i + 1, by omega, by simp, by omega⟩
@[simp] theorem d36 (n : Nat) (H : Heap) (a : Sl Int) (ha : a.xs.length < 1000) : doCall (calleeOf G (n + 1)) H (.pure (.func 36 [])) [.pure (a.pv intF 1), .pure (a.pv intF 1)] = some (.val (.pure (.bool true))) :=
  call_pureC (ps := [_, _]) (caps := []) sh36 (e36 n a ha)

/-! ### Few sights -/
def fewS (l : Life) : Bool := if 9 < l.sights.xs.length ∨ 20 < l.notes.xs.length then true else allL (fun s => decide (s.letters.length ≤ 20)) l.sights.xs && decide (l.sights.xs.length ≤ 6)
theorem few_short {l : Life} (h : fewS l = true) : shortS l := by
  unfold fewS at h
  intro h1 h2 s hs
  rw [if_neg (by omega)] at h
  simp only [Bool.and_eq_true] at h
  simpa using allL_iff.1 h.1 s hs
theorem sh8 : G.shared 8 = false := by decide
theorem e8 (n : Nat) (l : Life) : callP G (n + 1) 8 [.agg l.cells] = some (.bool (fewS l)) := by
  refine callP_of (ext_none _) rfl g8 rfl ?_
  (repeat' first | simp [*, initEnv, c8] | (refine wpIf_two (fun _ h => ?_) (fun _ h => ?_) <;> try simp [-Nat.le_zero_eq] at h))
  all_goals try (rw [fewS, if_pos (by omega)]; done)
  have hP : Hide (fewS l = (allL (fun s => decide (s.letters.length ≤ 20)) l.sights.xs && decide (l.sights.xs.length ≤ 6))) := ⟨by rw [fewS, if_neg (by omega)]⟩
  generalize fewS l = P at *
  refine wp_loopF [(2, 3), (14, 28)] (fun (i : Nat) env H => env 3 = .pure (.int .i64 i) ∧ i ≤ l.sights.xs.length ∧ Hide (allL (fun s => decide (s.letters.length ≤ 20)) l.sights.xs = allL (fun s => decide (s.letters.length ≤ 20)) (l.sights.xs.drop i))) (fun i => l.sights.xs.length - i) 0 ?_ ?_ ?_ ?_
  · decide
  · simp
  · simp only [loopFuel]; omega
  rintro i env H ⟨h3, hi, hn⟩
  have hfit : i < 9223372036854775807 := by omega
  (repeat' first | simp [*, initEnv] | (refine wpIf_two (fun _ h => ?_) (fun _ h => ?_) <;> try simp [-Nat.le_zero_eq] at h))
  · have hlt : i < l.sights.xs.length := by assumption
    have hf : decide (l.sights.xs[i].letters.length ≤ 20) = false := by simp; omega
    rw [hP.h, hn.h, allL_drop hlt, hf]; rfl
  · have hlt : i < l.sights.xs.length := by assumption
    have hf : decide (l.sights.xs[i].letters.length ≤ 20) = true := by simp; omega
    exact ⟨i + 1, by omega, by simp, by omega, ⟨by rw [hn.h, allL_drop hlt, hf]; rfl⟩⟩
  rw [hP.h, hn.h, allL_end (by omega)]; simp; omega
@[simp] theorem d8 (n : Nat) (H : Heap) (l_habit_step : Int) (l_habit_place : Int) (l_habit_sink : Int) (l_sights : Sl Sight) (l_notes : Sl Note) : doCall (calleeOf G (n + 1)) H (.pure (.func 8 [])) [.pure (.agg [.int .i64 l_habit_step, .int .i64 l_habit_place, .int .i64 l_habit_sink, (l_sights).pv Sight.cells 9, (l_notes).pv Note.cells 4])] = some (.val (.pure ((fun (l : Life) => .bool (fewS l)) (⟨⟨l_habit_step, l_habit_place, l_habit_sink⟩, l_sights, l_notes⟩ : Life)))) :=
  call_pureC (ps := [_]) (caps := []) sh8 (e8 n (⟨⟨l_habit_step, l_habit_place, l_habit_sink⟩, l_sights, l_notes⟩ : Life))
end Go.Proofs.YtnomliioadjdgaaGreat.Vm

namespace Go.Proofs.YtnomliioadjdgaaGreat.Vm
open Go
set_option linter.unusedSimpArgs false
set_option linter.unusedVariables false
set_option maxHeartbeats 4000000

def coverS (a b : Span) : Span := ⟨min a.lo b.lo, max a.hi b.hi⟩
def coverB (a b : Box) : Box := ⟨coverS a.x b.x, coverS a.y b.y⟩
theorem sh48 : G.shared 48 = false := by decide
theorem e48 (n : Nat) (a b : Span) : callP G (n + 1) 48 [.agg a.cells, .agg b.cells] = some (.agg (coverS a b).cells) := by
  refine callP_of (ext_none _) rfl g48 rfl ?_
  (repeat' first | simp [*, initEnv, c48, Span.cells, coverS] | (refine wpIf_two (fun _ h => ?_) (fun _ h => ?_) <;> try simp [-Nat.le_zero_eq] at h))
@[simp] theorem d48 (n : Nat) (H : Heap) (a_lo : Int) (a_hi : Int) (b_lo : Int) (b_hi : Int) : doCall (calleeOf G (n + 1)) H (.pure (.func 48 [])) [.pure (.agg [.int .i64 a_lo, .int .i64 a_hi]), .pure (.agg [.int .i64 b_lo, .int .i64 b_hi])] = some (.val (.pure ((fun (a : Span) => (fun (b : Span) => .agg (coverS a b).cells) (⟨b_lo, b_hi⟩ : Span)) (⟨a_lo, a_hi⟩ : Span)))) :=
  call_pureC (ps := [_, _]) (caps := []) sh48 (e48 n (⟨a_lo, a_hi⟩ : Span) (⟨b_lo, b_hi⟩ : Span))
theorem sh16 : G.shared 16 = false := by decide
theorem e16 (n : Nat) (a b : Box) (ha : properS a = true) (hb : properS b = true) : callP G (n + 4) 16 [.agg a.cells, .agg b.cells] = some (.tup [.agg (coverB a b).cells, .bool true]) := by
  refine callP_of (ext_none _) rfl g16 rfl ?_
  (repeat' first | simp [*, initEnv, c16, Box.cells, coverB] | (refine wpIf_two (fun _ h => ?_) (fun _ h => ?_) <;> try simp [-Nat.le_zero_eq] at h))
@[simp] theorem d16 (n : Nat) (H : Heap) (a_x_lo : Int) (a_x_hi : Int) (a_y_lo : Int) (a_y_hi : Int) (b_x_lo : Int) (b_x_hi : Int) (b_y_lo : Int) (b_y_hi : Int) (ha : (fun (a : Box) => properS a = true) (⟨⟨a_x_lo, a_x_hi⟩, ⟨a_y_lo, a_y_hi⟩⟩ : Box)) (hb : (fun (b : Box) => properS b = true) (⟨⟨b_x_lo, b_x_hi⟩, ⟨b_y_lo, b_y_hi⟩⟩ : Box)) : doCall (calleeOf G (n + 4)) H (.pure (.func 16 [])) [.pure (.agg [.int .i64 a_x_lo, .int .i64 a_x_hi, .int .i64 a_y_lo, .int .i64 a_y_hi]), .pure (.agg [.int .i64 b_x_lo, .int .i64 b_x_hi, .int .i64 b_y_lo, .int .i64 b_y_hi])] = some (.val (.pure ((fun (a : Box) => (fun (b : Box) => .tup [.agg (coverB a b).cells, .bool true]) (⟨⟨b_x_lo, b_x_hi⟩, ⟨b_y_lo, b_y_hi⟩⟩ : Box)) (⟨⟨a_x_lo, a_x_hi⟩, ⟨a_y_lo, a_y_hi⟩⟩ : Box)))) :=
  call_pureC (ps := [_, _]) (caps := []) sh16 (e16 n (⟨⟨a_x_lo, a_x_hi⟩, ⟨a_y_lo, a_y_hi⟩⟩ : Box) (⟨⟨b_x_lo, b_x_hi⟩, ⟨b_y_lo, b_y_hi⟩⟩ : Box) ha hb)
theorem sh47 : G.shared 47 = false := by decide
theorem e47 (n : Nat) (a b : Box) (ha : properR a = true) (hb : properR b = true) : callP G (n + 4) 47 [.agg a.cells, .agg b.cells] = some (.tup [.agg (coverB a b).cells, .bool true]) := by
  refine callP_of (ext_none _) rfl g47 rfl ?_
  (repeat' first | simp [*, initEnv, c47, Box.cells, coverB, coverS] | (refine wpIf_two (fun _ h => ?_) (fun _ h => ?_) <;> try simp [-Nat.le_zero_eq] at h))
@[simp] theorem d47 (n : Nat) (H : Heap) (a_x_lo : Int) (a_x_hi : Int) (a_y_lo : Int) (a_y_hi : Int) (b_x_lo : Int) (b_x_hi : Int) (b_y_lo : Int) (b_y_hi : Int) (ha : (fun (a : Box) => properR a = true) (⟨⟨a_x_lo, a_x_hi⟩, ⟨a_y_lo, a_y_hi⟩⟩ : Box)) (hb : (fun (b : Box) => properR b = true) (⟨⟨b_x_lo, b_x_hi⟩, ⟨b_y_lo, b_y_hi⟩⟩ : Box)) : doCall (calleeOf G (n + 4)) H (.pure (.func 47 [])) [.pure (.agg [.int .i64 a_x_lo, .int .i64 a_x_hi, .int .i64 a_y_lo, .int .i64 a_y_hi]), .pure (.agg [.int .i64 b_x_lo, .int .i64 b_x_hi, .int .i64 b_y_lo, .int .i64 b_y_hi])] = some (.val (.pure ((fun (a : Box) => (fun (b : Box) => .tup [.agg (coverB a b).cells, .bool true]) (⟨⟨b_x_lo, b_x_hi⟩, ⟨b_y_lo, b_y_hi⟩⟩ : Box)) (⟨⟨a_x_lo, a_x_hi⟩, ⟨a_y_lo, a_y_hi⟩⟩ : Box)))) :=
  call_pureC (ps := [_, _]) (caps := []) sh47 (e47 n (⟨⟨a_x_lo, a_x_hi⟩, ⟨a_y_lo, a_y_hi⟩⟩ : Box) (⟨⟨b_x_lo, b_x_hi⟩, ⟨b_y_lo, b_y_hi⟩⟩ : Box) ha hb)

theorem proper_iff {b : Box} : properS b = true ↔ (-1048576 ≤ b.x.lo ∧ b.x.lo ≤ b.x.hi ∧ b.x.hi ≤ 1048576) ∧ (-1048576 ≤ b.y.lo ∧ b.y.lo ≤ b.y.hi ∧ b.y.hi ≤ 1048576) := by
  simp only [properS, spanS, Bool.and_eq_true, decide_eq_true_eq]
  omega
theorem cover_proper {a b : Box} (ha : properS a = true) (hb : properS b = true) : properS (coverB a b) = true := by
  rw [proper_iff] at *
  simp only [coverB, coverS]
  omega
theorem nar_proper {l : Life} {c : List Int} (hr : Right l) (hc : c.length + 1 = l.sights.xs.length) (hx : someS (narX l c) = true) (hy : someS (narY l c) = true) : ∀ b ∈ (narX l c).zipWith Box.mk (narY l c), properS b = true := by
  intro b hb
  obtain ⟨i, hi, rfl⟩ := List.mem_iff_getElem.1 hb
  have hi' : i < (narX l c).length ∧ i < (narY l c).length := by simp at hi; omega
  have hl : (narX l c).length = l.sights.xs.length := by simp [narX, roundsS_length]
  have hli : i < l.sights.xs.length := by omega
  have sx := rounds_sub (on := onX l c) (back := onX l c) (l := l.sights.xs.map (·.box.x)) (2 * l.sights.xs.length) c.length (by simp; omega) i (by simpa using hli)
  have sy := rounds_sub (on := onX l c) (back := onX l c) (l := l.sights.xs.map (·.box.y)) (2 * l.sights.xs.length) c.length (by simp; omega) i (by simpa using hli)
  have fx := (allL_full _).1 hx _ (List.getElem_mem hi'.1)
  have fy := (allL_full _).1 hy _ (List.getElem_mem hi'.2)
  have hs := hr.sp (List.getElem_mem hli)
  rw [getElem!_pos (roundsS _ _ _ _ _) i (by simpa [roundsS_length] using hli), getElem!_pos (l.sights.xs.map _) i (by simpa using hli)] at sx sy
  rw [proper_iff]
  simp only [List.getElem_zipWith]
  have ex : (narX l c)[i]'hi'.1 = (roundsS (onX l c) (onX l c) c.length (2 * l.sights.xs.length) (l.sights.xs.map (·.box.x)))[i]'(by simpa [roundsS_length] using hli) := rfl
  have ey : (narY l c)[i]'hi'.2 = (roundsS (onX l c) (onX l c) c.length (2 * l.sights.xs.length) (l.sights.xs.map (·.box.y)))[i]'(by simpa [roundsS_length] using hli) := rfl
  rw [ex] at fx ⊢
  rw [ey] at fy ⊢
  simp only [List.getElem_map] at sx sy
  unfold sub at sx sy
  unfold full at fx fy
  unfold okSp at hs
  omega
theorem tell_proper {l : Life} {c : List Int} (hr : Right l) (hc : c.length + 1 = l.sights.xs.length) {t : TellR} (ht : tellS l c = some t) : t.boxes.length = l.sights.xs.length ∧ ∀ b ∈ t.boxes, properS b = true := by
  rw [tell_can hr hc] at ht
  split at ht
  · rename_i h
    simp only [Option.some.injEq] at ht
    subst ht
    unfold canS at h
    simp only [Bool.and_eq_true] at h
    refine ⟨by simp [narX, narY, roundsS_length], nar_proper hr hc (by simp [h]) (by simp [h])⟩
  · simp at ht

/-! ### The fold over all courses -/
def boxesP (l : Life) (c : List Int) : Option (List Box) := (tellS l c).map (·.boxes)
def covO (B : List Box) : Option (List Box) → List Box
  | none => B
  | some A => A.zipWith coverB B
def extTo (f : List Int → Option (List Box)) (most : Int) (m : Nat) : Nat → Option (List Box)
  | 0 => none
  | j + 1 => match f (toC m j) with
    | none => extTo f most m j
    | some B => if most < chg (toC m j) then extTo f most m j else some (covO B (extTo f most m j))
def okBs (n : Nat) (B : List Box) : Prop := B.length = n ∧ ∀ b ∈ B, properS b = true
theorem okBs_cover {n : Nat} {A B : List Box} (ha : okBs n A) (hb : okBs n B) : okBs n (A.zipWith coverB B) := by
  refine ⟨by simp [ha.1, hb.1], fun b h => ?_⟩
  obtain ⟨i, hi, rfl⟩ := List.mem_iff_getElem.1 h
  rw [List.getElem_zipWith]
  exact cover_proper (ha.2 _ (List.getElem_mem _)) (hb.2 _ (List.getElem_mem _))
theorem extTo_ok {f : List Int → Option (List Box)} {most : Int} {m n : Nat} (hf : ∀ j B, f (toC m j) = some B → okBs n B) : ∀ j A, extTo f most m j = some A → okBs n A
  | 0, A, h => by simp [extTo] at h
  | j + 1, A, h => by
    have ih := extTo_ok (most := most) hf j
    rw [extTo] at h
    split at h
    · exact ih _ h
    · rename_i B hB
      have hb := hf _ _ hB
      split at h
      · exact ih _ h
      · simp only [Option.some.injEq] at h
        subst h
        cases hA : extTo f most m j with
        | none => exact hb
        | some A' => exact okBs_cover (ih _ hA) hb
theorem boxes_ok {l : Life} (hr : Right l) : ∀ j B, boxesP l (toC (l.sights.xs.length - 1) j) = some B → okBs l.sights.xs.length B := fun j B h => by
  have h1 := hr.one
  unfold boxesP at h
  rw [Option.map_eq_some_iff] at h
  obtain ⟨t, ht, rfl⟩ := h
  exact tell_proper hr (by rw [toC_length]; omega) ht

/-! ### Lists changed place by place -/
def mixG {α : Type} (Z B : List α) (i : Nat) : List α := Z.take i ++ B.drop i
section
variable {α : Type} {Z B : List α} {i : Nat}
theorem mixG_length (h : Z.length = B.length) (hi : i ≤ B.length) : (mixG Z B i).length = B.length := by simp [mixG]; omega
theorem mixG_get (h : Z.length = B.length) (hi : i < B.length) (hj : i < (mixG Z B i).length) : (mixG Z B i)[i] = B[i] := by
  simp only [mixG]
  rw [List.getElem_append_right (by simp; omega)]
  simp [Nat.min_eq_left (show i ≤ Z.length by omega)]
theorem mixG_set (h : Z.length = B.length) (hi : i < B.length) : (mixG Z B i).set i (Z[i]'(by omega)) = mixG Z B (i + 1) := by
  have hl : (Z.take i).length = i := by simp; omega
  simp only [mixG]
  rw [List.set_append_right _ _ (by omega), hl, Nat.sub_self, List.drop_eq_getElem_cons hi, List.set_cons_zero, ← take_succ' (by omega), List.append_assoc]
  rfl
theorem mixG_end (h : Z.length = B.length) (hi : i = B.length) : mixG Z B i = Z := by
  simp only [mixG]
  rw [List.take_of_length_le (by omega), List.drop_eq_nil_of_le (by omega), List.append_nil]
end
end Go.Proofs.YtnomliioadjdgaaGreat.Vm
