/- The courses of a life, as the program yields them. What the functions compute that go through all courses. What Kinds and Courses compute: the program's, and the specification's. What the program tells of a course is what the specification tells: plain Lean. The specification's comparing, and which lives are few. What makes an account of a stone's life true: the program's led, the specification's gap. What the program's True computes, and the specification's: the first sight or note that is not so. -/
import Derived.Test.YtnomliioadjdgaaGreatPk17
namespace Go.Proofs.YtnomliioadjdgaaGreat.Vm
open Go
set_option linter.unusedSimpArgs false
set_option linter.unusedVariables false
set_option maxHeartbeats 4000000

/-- The course of a number: its digits to the base 3. -/
def toC : Nat → Nat → List Int
  | 0, _ => []
  | m + 1, j => ((j % 3 : Nat) : Int) :: toC m (j / 3)
def incC : List Int → Option (List Int)
  | [] => none
  | d :: r => if d < 2 then some ((d + 1) :: r) else (incC r).map (0 :: ·)
theorem toC_length : ∀ (m j : Nat), (toC m j).length = m
  | 0, _ => rfl
  | m + 1, j => by simp [toC, toC_length m]
theorem toC_kinds : ∀ (m j : Nat), ∀ k ∈ toC m j, 0 ≤ k ∧ k ≤ 2
  | 0, _ => by simp [toC]
  | m + 1, j => by
    intro k hk
    rcases List.mem_cons.1 hk with rfl | hk
    · omega
    · exact toC_kinds m _ k hk
theorem toC_zero : ∀ (m : Nat), toC m 0 = List.replicate m 0
  | 0 => rfl
  | m + 1 => by simp [toC, toC_zero m, List.replicate_succ]
theorem incC_toC : ∀ (m j : Nat), j < 3 ^ m → incC (toC m j) = if j + 1 < 3 ^ m then some (toC m (j + 1)) else none
  | 0, j, h => by
    have : ¬ (j + 1 < 3 ^ 0) := by simp
    rw [if_neg this]; rfl
  | m + 1, j, h => by
    have hj : j / 3 < 3 ^ m := by rw [Nat.pow_succ] at h; omega
    rw [toC, incC, incC_toC m _ hj]
    by_cases hd : ((j % 3 : Nat) : Int) < 2
    · have h1 : (j + 1) % 3 = j % 3 + 1 := by omega
      have h2 : (j + 1) / 3 = j / 3 := by omega
      have h3 : j + 1 < 3 ^ (m + 1) := by rw [Nat.pow_succ] at h ⊢; omega
      rw [if_pos hd, if_pos h3, toC, h1, h2]
      simp
    · have h1 : (j + 1) % 3 = 0 := by omega
      have h2 : (j + 1) / 3 = j / 3 + 1 := by omega
      rw [if_neg hd]
      by_cases h3 : j + 1 < 3 ^ (m + 1)
      · have h4 : j / 3 + 1 < 3 ^ m := by rw [Nat.pow_succ] at h3; omega
        rw [if_pos h3, if_pos h4, toC, h1, h2]; rfl
      · have h4 : ¬ (j / 3 + 1 < 3 ^ m) := by rw [Nat.pow_succ] at h3 h; omega
        rw [if_neg h3, if_neg h4]; rfl

/-! ### What tell returns names no hot memory -/
theorem cold_sl {α : Type} {f : α → List PV} {sz n : Nat} (hf : ∀ a, (f a).all (PV.coldN n) = true) (l : List α) : PV.coldN (n + 1) ((Sl.of l).pv f sz) = true := by
  cases l with
  | nil => rfl
  | cons a l => simp [Sl.of, Sl.pv, PV.coldN]; exact ⟨by simpa using hf a, fun a _ => by simpa using hf a⟩
theorem cold_tell (o : Option TellR) : (tellPV o).cold = true := by
  cases o with
  | none => rfl
  | some t =>
    have h1 := cold_sl (f := Box.cells) (sz := 4) (n := 9) (fun a => rfl) t.boxes
    have h2 := cold_sl (f := Span.cells) (sz := 2) (n := 9) (fun a => rfl) t.heights
    have h3 := cold_sl (f := strF) (sz := 1) (n := 9) (fun a => rfl) t.letters
    simp [tellPV, PV.cold, PV.coldN, TellR.told] at *
    simp [h1, h2, h3, PV.coldN]
theorem gen_call (n : Nat) (l : Life) (hr : Right l) (H : Heap) (id0 : Nat) (r : LoopR) (hr1 : r.state = .ready) (hr2 : r.pending = .normal) (hr3 : r.params.length = 2) (hid0 : id0 < H.nx) (hg : H.get id0 = .loop r)
    (J : Nat → Nat → Heap → Prop)
    (hstab : ∀ idc j H1 H2, J idc j H1 → H1.nx ≤ H2.nx → (∀ i, i < H1.nx → i ≠ idc → i ≠ id0 → H2.get i = H1.get i) → J idc j H2)
    (h0 : ∀ idc, H.nx ≤ idc → J idc 0 H)
    (hskip : ∀ idc j H1, j < 3 ^ (l.sights.xs.length - 1) → tellS l (toC (l.sights.xs.length - 1) j) = none → J idc j H1 → J idc (j + 1) H1)
    (hbody : ∀ idc j t H1, j < 3 ^ (l.sights.xs.length - 1) → tellS l (toC (l.sights.xs.length - 1) j) = some t → J idc j H1 → H.nx ≤ idc → H1.get idc = .cells true (rowOf intF (toC (l.sights.xs.length - 1) j)) → H1.get id0 = .loop r →
      wp (calleeOf G (n + 7)) r.assign ((r.params.zip [.row idc 1 0 (l.sights.xs.length - 1), .pure (.agg t.told.cells)]).foldl (fun e x => upd e x.1 x.2) r.env) H1 (fun x env2 H2 => x = .normal ∧ H2.get id0 = .loop r ∧
        wp (calleeOf G (n + 7)) r.body env2 (H2.set id0 (.loop { r with state := .busy })) (fun x _ H3 => x = .normal ∧ H3.get id0 = .loop { r with state := .busy } ∧ H3.get idc = .cells true (rowOf intF (toC (l.sights.xs.length - 1) j)) ∧ H1.nx ≤ H3.nx ∧ J idc (j + 1) H3) .mk) .mk) :
    ∃ v H', Vm.call G (n + 9) (.fn 112) [.yield id0, .pure (.ptr false l.cells 0)] H = some (v, H') ∧ H'.get id0 = .loop r ∧ ∃ idc, J idc (3 ^ (l.sights.xs.length - 1)) H' := by
  have h1 := hr.one
  have h9 := hr.nine
  have hw : IntKind.i64.wrap ((l.sights.xs.length : Int) - 1) = ((l.sights.xs.length - 1 : Nat) : Int) := wrap_pred (by omega) (by omega)
  obtain ⟨m, hm0⟩ : ∃ m, m = l.sights.xs.length - 1 := ⟨_, rfl⟩
  rw [← hm0] at hskip hbody hw ⊢
  have hm8 : m ≤ 8 := by omega
  have hmx : m * 8 ≤ maxCells := by unfold maxCells; omega
  have hmy : m ≤ maxCells := by unfold maxCells; omega
  have hm : Hide _ := ⟨hm0⟩
  clear hm0
  have hlr : Hide (r = { r with state := .ready, pending := .normal }) := ⟨by rw [← hr1, ← hr2]⟩
  refine call_of rfl g112 rfl ?_
  (repeat' first | simp [*, initEnv, c112] | (refine wpIf_two (fun _ h => ?_) (fun _ h => ?_) <;> try simp [-Nat.le_zero_eq] at h))
  have hs0 : H.nx ≠ id0 := by omega
  refine wp_loopF [(4, 6), (12, 45)] (fun (j : Nat) env H1 => j < 3 ^ m ∧ H1.get H.nx = .cells true (rowOf intF (toC m j)) ∧ H1.get id0 = .loop r ∧ J H.nx j H1) (fun j => 3 ^ m - j) 0 ?_ ?_ ?_ ?_
  · decide
  · refine ⟨Nat.pos_of_ne_zero (by simp), ?_, ?_, ?_⟩
    · rw [get_alloc_nx, toC_zero, rowOf_zeros]; simp
    · rw [get_alloc_lt hid0]; exact hg
    · exact hstab _ _ _ _ (h0 _ (Nat.le_refl _)) (by simp) (fun i hi _ _ => get_alloc_lt hi)
  · have : 3 ^ m ≤ 3 ^ 8 := Nat.pow_le_pow_right (by decide) hm8
    simp only [loopFuel]
    have : (3 ^ 8 : Nat) = 6561 := rfl
    omega
  rintro j env H1 ⟨hj, hgc, hgl, hJ⟩
  have hidc := nx_of_get hgc
  have hid1 := lt_of_get (H := H1) (i := id0) (by rw [hgl]; simp)
  have hcl := toC_length m j
  have hown : OwnV intF 1 H1 (.row H.nx 1 0 m) (toC m j) := .inr ⟨H.nx, by rw [hcl], hgc⟩
  obtain ⟨s, hs1, hs2⟩ : ∃ s : Sl Int, s.xs = toC m j ∧ FrzK H1 true 12 (.row H.nx 1 0 m) (s.pv intF 1) := by
    rcases hown.frz (k := true) (n := 10) (fun _ => rfl) with h | ⟨h, h'⟩
    · cases hc : toC m j with
      | nil => rw [hc] at h; exact ⟨.nil, rfl, h⟩
      | cons a q => rw [hc] at h; exact ⟨.mk true (a :: q), rfl, h⟩
    · exact ⟨.mk true [], h.symm, h'⟩
  have htell : callP G (n + 8) 60 [.agg l.cells, s.pv intF 1] = some (tellPV (tellS l (toC m j))) := by
    have := e60 (n + 1) l s hr (by have := hm.h; rw [hs1, hcl]; omega) (by rw [hs1]; exact toC_kinds m j)
    rw [hs1] at this
    exact this
  (repeat' first | simp [*, initEnv] | (refine wpIf_two (fun _ h => ?_) (fun _ h => ?_) <;> try simp [-Nat.le_zero_eq] at h))
  refine wpE_own (caps := []) sh60 (.cons (.pure (.agg l.cells)) (.cons hs2 .nil)) htell (cold_tell _) ?_
  have hs1' : ¬ (id0 = H.nx) := by omega
  cases ht : tellS l (toC m j) with
  | none =>
    obtain ⟨H9, h9e⟩ : ∃ H9, H9 = (H1.alloc (.cells true [.pure .nils, .pure .nils, .pure .nils])).set H1.nx (.cells true [.pure .nils, .pure .nils, .pure .nils]) := ⟨_, rfl⟩
    have gc9 : H9.get H.nx = .cells true (rowOf intF (toC m j)) := by rw [h9e, get_set_ne (by omega), get_alloc_lt hidc]; exact hgc
    have gl9 : H9.get id0 = .loop r := by rw [h9e, get_set_ne (by omega), get_alloc_lt hid1]; exact hgl
    have J9 : J H.nx (j + 1) H9 := hskip _ _ _ hj ht (hstab _ _ _ _ hJ (by rw [h9e]; simp) (fun i hi _ _ => by rw [h9e, get_set_ne (by omega), get_alloc_lt hi]))
    clear hskip hbody hJ
    (repeat' first | simp [*, initEnv, tellPV] | (refine wpIf_two (fun _ h => ?_) (fun _ h => ?_) <;> try simp [-Nat.le_zero_eq] at h))
    rw [← h9e]
    clear h9e
    refine wp_loopF [(6, 6), (28, 45)] (fun (k : Nat) env2 H2 => env2 28 = .pure (.int .i64 k) ∧ k ≤ m ∧ H2.get H.nx = .cells true (rowOf intF (List.replicate k 0 ++ (toC m j).drop k)) ∧ H2.get id0 = .loop r ∧ J H.nx (j + 1) H2 ∧
        Hide (incC (toC m j) = (incC ((toC m j).drop k)).map (List.replicate k 0 ++ ·))) (fun k => m - k) 0 ?_ ?_ ?_ ?_
    · decide
    · refine ⟨by simp, by omega, by simpa using gc9, gl9, J9, ⟨by simp⟩⟩
    · simp only [loopFuel]; omega
    rintro k env2 H2 ⟨h28, hk, hgc2, hgl2, hJ2, hinc⟩
    have hfitk : k < 9223372036854775807 := by omega
    have hXl : (List.replicate k 0 ++ (toC m j).drop k).length = m := by rw [List.length_append, List.length_replicate, List.length_drop, hcl]; omega
    have hXk : ∀ (h : k < m) h', (List.replicate k 0 ++ (toC m j).drop k)[k]'h' = (toC m j)[k]'(by omega) := fun h h' => by
      rw [List.getElem_append_right (by simp)]; simp
    have hXs : ∀ (h : k < m) x, (List.replicate k 0 ++ (toC m j).drop k).set k x = List.replicate k 0 ++ x :: (toC m j).drop (k + 1) := fun h x => by
      rw [List.set_append_right _ _ (by simp), List.length_replicate, Nat.sub_self, List.drop_eq_getElem_cons (by omega), List.set_cons_zero]
    have hck : ∀ (h : k < m), 0 ≤ (toC m j)[k]'(by omega) ∧ (toC m j)[k]'(by omega) ≤ 2 := fun h => toC_kinds m j _ (List.getElem_mem _)
    have hwk : ∀ (h : k < m), IntKind.i64.wrap ((toC m j)[k]'(by omega) + 1) = (toC m j)[k]'(by omega) + 1 := fun h => by have := hck h; exact wrap64 (by omega) (by omega)
    have hi1 : ∀ (h : k < m), (toC m j)[k]'(by omega) < 2 → Hide (j + 1 < 3 ^ m ∧ toC m (j + 1) = List.replicate k 0 ++ ((toC m j)[k]'(by omega) + 1) :: (toC m j).drop (k + 1)) := fun h h2 => ⟨by
      have e1 := hinc.h
      rw [List.drop_eq_getElem_cons (by omega), incC, if_pos h2, incC_toC m j hj] at e1
      split at e1
      · rename_i h3; simp at e1; exact ⟨h3, e1⟩
      · simp at e1⟩
    have hi2 : ∀ (h : k < m), ¬ (toC m j)[k]'(by omega) < 2 → Hide (incC (toC m j) = (incC ((toC m j).drop (k + 1))).map (List.replicate (k + 1) 0 ++ ·)) := fun h h2 => ⟨by
      have e1 := hinc.h
      rw [List.drop_eq_getElem_cons (by omega), incC, if_neg h2] at e1
      rw [e1, List.replicate_succ', Option.map_map]
      simp [Function.comp_def]⟩
    have hi3 : k = m → Hide (¬ j + 1 < 3 ^ m) := fun h => ⟨fun h3 => by
      have e1 := hinc.h
      rw [List.drop_eq_nil_of_le (by omega), incC_toC m j hj, if_pos h3] at e1
      simp [incC] at e1⟩
    have hlen9 : Hide _ := ⟨hcl⟩
    obtain ⟨X, hX⟩ : ∃ X, X = List.replicate k 0 ++ (toC m j).drop k := ⟨_, rfl⟩
    have hXk' : Hide (∀ (h : k < m) h', X[k]'h' = (toC m j)[k]'(by omega)) := ⟨by subst hX; exact hXk⟩
    rw [← hX] at hgc2 hXl hXs
    have hX' : Hide _ := ⟨hX⟩
    have hXs' : Hide _ := ⟨hXs⟩
    clear hXk hX hXs hinc
    have hidc2 := nx_of_get hgc2
    have hid2 := lt_of_get (H := H2) (i := id0) (by rw [hgl2]; simp)
    have hJs : ∀ o, Hide (J H.nx (j + 1) (H2.set H.nx o)) := fun o => ⟨hstab _ _ _ _ hJ2 (by simp) (fun i _ hi _ => get_set_ne hi)⟩
    have hlw : ∀ (h : k < m) h', IntKind.i64.wrap (X[k]'h' + 1) = X[k]'h' + 1 := fun h h' => by rw [hXk'.h h]; exact hwk h
    have hs1' : ¬ (id0 = H.nx) := by omega
    have hJ2' : Hide _ := ⟨hJ2⟩
    clear hwk hJ2
    (repeat' first | simp [*, initEnv] | (refine wpIf_two (fun _ h => ?_) (fun _ h => ?_) <;> try simp [-Nat.le_zero_eq] at h))
    · have hkm : k < m := by assumption
      have h2 : X[k]'(by omega) < 2 := by assumption
      rw [hXk'.h hkm] at h2
      obtain ⟨h3, h4⟩ := (hi1 hkm h2).h
      refine ⟨j + 1, by omega, h3, ?_, (hJs _).h⟩
      rw [h4, hXs'.h hkm, hXk'.h hkm]
    · have hkm : k < m := by assumption
      have h2 : ¬ X[k]'(by omega) < 2 := by omega
      rw [hXk'.h hkm] at h2
      refine ⟨k + 1, by omega, by simp, by omega, ?_, (hJs _).h, hi2 hkm h2⟩
      rw [hXs'.h hkm, List.replicate_succ']
      simp
    · have hkm : k = m := by omega
      have h3 := (hi3 hkm).h
      have h4 : 3 ^ m = j + 1 := by omega
      rw [h4]
      exact ⟨_, hJ2'.h⟩
  | some t =>
    (repeat' first | simp [*, initEnv, tellPV] | (refine wpIf_two (fun _ h => ?_) (fun _ h => ?_) <;> try simp [-Nat.le_zero_eq] at h))
    obtain ⟨H9, h9e⟩ : ∃ H9, H9 = (H1.alloc (.cells true [.pure .nils, .pure .nils, .pure .nils])).set H1.nx (.cells true [.pure (Sl.pv Box.cells 4 t.told.boxes), .pure (Sl.pv Span.cells 2 t.told.heights), .pure (Sl.pv strF 1 t.told.letters)]) := ⟨_, rfl⟩
    have gc9 : H9.get H.nx = .cells true (rowOf intF (toC m j)) := by rw [h9e, get_set_ne (by omega), get_alloc_lt hidc]; exact hgc
    have gl9 : H9.get id0 = .loop r := by rw [h9e, get_set_ne (by omega), get_alloc_lt hid1]; exact hgl
    have J9 : J H.nx j H9 := hstab _ _ _ _ hJ (by rw [h9e]; simp) (fun i hi _ _ => by rw [h9e, get_set_ne (by omega), get_alloc_lt hi])
    rw [← h9e]
    refine wpE_yieldA gl9 hr1 (by rw [hr3]; rfl) ?_
    refine (hbody H.nx j t _ hj ht J9 (Nat.le_refl _) gc9 gl9).mono ?_
    rintro x env5 H5 ⟨rfl, gl5, hw5⟩
    refine ⟨rfl, gl5, hw5.mono ?_⟩
    rintro x env6 H6 ⟨rfl, g1, g2, g3, g4⟩
    refine ⟨rfl, g1, ?_⟩
    rw [← hlr.h]
    clear hskip hbody hJ J9 gc9 gl9 h9e hw5
    obtain ⟨H9, h9e⟩ : ∃ H9, H9 = H6.set id0 (.loop r) := ⟨_, rfl⟩
    have hid6 := lt_of_get (H := H6) (i := id0) (by rw [g1]; simp)
    have gc9 : H9.get H.nx = .cells true (rowOf intF (toC m j)) := by rw [h9e, get_set_ne (by omega)]; exact g2
    have gl9 : H9.get id0 = .loop r := by rw [h9e, get_set_own hid6]
    have J9 : J H.nx (j + 1) H9 := hstab _ _ _ _ g4 (by rw [h9e]; simp) (fun i hi _ hi2 => by rw [h9e, get_set_ne hi2])
    rw [← h9e]
    clear h9e g1 g2 g3 g4
    (repeat' first | simp [*, initEnv] | (refine wpIf_two (fun _ h => ?_) (fun _ h => ?_) <;> try simp [-Nat.le_zero_eq] at h))
    refine wp_loopF [(6, 6), (28, 45)] (fun (k : Nat) env2 H2 => env2 28 = .pure (.int .i64 k) ∧ k ≤ m ∧ H2.get H.nx = .cells true (rowOf intF (List.replicate k 0 ++ (toC m j).drop k)) ∧ H2.get id0 = .loop r ∧ J H.nx (j + 1) H2 ∧
        Hide (incC (toC m j) = (incC ((toC m j).drop k)).map (List.replicate k 0 ++ ·))) (fun k => m - k) 0 ?_ ?_ ?_ ?_
    · decide
    · refine ⟨by simp, by omega, by simpa using gc9, gl9, J9, ⟨by simp⟩⟩
    · simp only [loopFuel]; omega
    rintro k env2 H2 ⟨h28, hk, hgc2, hgl2, hJ2, hinc⟩
    have hfitk : k < 9223372036854775807 := by omega
    have hXl : (List.replicate k 0 ++ (toC m j).drop k).length = m := by rw [List.length_append, List.length_replicate, List.length_drop, hcl]; omega
    have hXk : ∀ (h : k < m) h', (List.replicate k 0 ++ (toC m j).drop k)[k]'h' = (toC m j)[k]'(by omega) := fun h h' => by
      rw [List.getElem_append_right (by simp)]; simp
    have hXs : ∀ (h : k < m) x, (List.replicate k 0 ++ (toC m j).drop k).set k x = List.replicate k 0 ++ x :: (toC m j).drop (k + 1) := fun h x => by
      rw [List.set_append_right _ _ (by simp), List.length_replicate, Nat.sub_self, List.drop_eq_getElem_cons (by omega), List.set_cons_zero]
    have hck : ∀ (h : k < m), 0 ≤ (toC m j)[k]'(by omega) ∧ (toC m j)[k]'(by omega) ≤ 2 := fun h => toC_kinds m j _ (List.getElem_mem _)
    have hwk : ∀ (h : k < m), IntKind.i64.wrap ((toC m j)[k]'(by omega) + 1) = (toC m j)[k]'(by omega) + 1 := fun h => by have := hck h; exact wrap64 (by omega) (by omega)
    have hi1 : ∀ (h : k < m), (toC m j)[k]'(by omega) < 2 → Hide (j + 1 < 3 ^ m ∧ toC m (j + 1) = List.replicate k 0 ++ ((toC m j)[k]'(by omega) + 1) :: (toC m j).drop (k + 1)) := fun h h2 => ⟨by
      have e1 := hinc.h
      rw [List.drop_eq_getElem_cons (by omega), incC, if_pos h2, incC_toC m j hj] at e1
      split at e1
      · rename_i h3; simp at e1; exact ⟨h3, e1⟩
      · simp at e1⟩
    have hi2 : ∀ (h : k < m), ¬ (toC m j)[k]'(by omega) < 2 → Hide (incC (toC m j) = (incC ((toC m j).drop (k + 1))).map (List.replicate (k + 1) 0 ++ ·)) := fun h h2 => ⟨by
      have e1 := hinc.h
      rw [List.drop_eq_getElem_cons (by omega), incC, if_neg h2] at e1
      rw [e1, List.replicate_succ', Option.map_map]
      simp [Function.comp_def]⟩
    have hi3 : k = m → Hide (¬ j + 1 < 3 ^ m) := fun h => ⟨fun h3 => by
      have e1 := hinc.h
      rw [List.drop_eq_nil_of_le (by omega), incC_toC m j hj, if_pos h3] at e1
      simp [incC] at e1⟩
    have hlen9 : Hide _ := ⟨hcl⟩
    obtain ⟨X, hX⟩ : ∃ X, X = List.replicate k 0 ++ (toC m j).drop k := ⟨_, rfl⟩
    have hXk' : Hide (∀ (h : k < m) h', X[k]'h' = (toC m j)[k]'(by omega)) := ⟨by subst hX; exact hXk⟩
    rw [← hX] at hgc2 hXl hXs
    have hX' : Hide _ := ⟨hX⟩
    have hXs' : Hide _ := ⟨hXs⟩
    clear hXk hX hXs hinc
    have hidc2 := nx_of_get hgc2
    have hid2 := lt_of_get (H := H2) (i := id0) (by rw [hgl2]; simp)
    have hJs : ∀ o, Hide (J H.nx (j + 1) (H2.set H.nx o)) := fun o => ⟨hstab _ _ _ _ hJ2 (by simp) (fun i _ hi _ => get_set_ne hi)⟩
    have hlw : ∀ (h : k < m) h', IntKind.i64.wrap (X[k]'h' + 1) = X[k]'h' + 1 := fun h h' => by rw [hXk'.h h]; exact hwk h
    have hs1' : ¬ (id0 = H.nx) := by omega
    have hJ2' : Hide _ := ⟨hJ2⟩
    clear hwk hJ2
    (repeat' first | simp [*, initEnv] | (refine wpIf_two (fun _ h => ?_) (fun _ h => ?_) <;> try simp [-Nat.le_zero_eq] at h))
    · have hkm : k < m := by assumption
      have h2 : X[k]'(by omega) < 2 := by assumption
      rw [hXk'.h hkm] at h2
      obtain ⟨h3, h4⟩ := (hi1 hkm h2).h
      refine ⟨j + 1, by omega, h3, ?_, (hJs _).h⟩
      rw [h4, hXs'.h hkm, hXk'.h hkm]
    · have hkm : k < m := by assumption
      have h2 : ¬ X[k]'(by omega) < 2 := by omega
      rw [hXk'.h hkm] at h2
      refine ⟨k + 1, by omega, by simp, by omega, ?_, (hJs _).h, hi2 hkm h2⟩
      rw [hXs'.h hkm, List.replicate_succ']
      simp
    · have hkm : k = m := by omega
      have h3 := (hi3 hkm).h
      have h4 : 3 ^ m = j + 1 := by omega
      rw [h4]
      exact ⟨_, hJ2'.h⟩

/-- A loop over all courses of a right life. -/
theorem wp_coursesA {n : Nat} {l : Life} (hr : Right l) {env : Env} {H : Heap} {f : Opnd} {params : List Nat} {assign body : VCode} {Q : VExit → Env → Heap → Prop} {u} (hf : f.eval env = .pure (.func 112 [.ptr false l.cells 0])) (hp : params.length = 2)
    (J : Nat → Nat → Heap → Prop)
    (hstab : ∀ idc j H1 H2, J idc j H1 → H1.nx ≤ H2.nx → (∀ i, i < H1.nx → i ≠ idc → i ≠ H.nx → H2.get i = H1.get i) → J idc j H2)
    (h0 : ∀ idc, H.nx < idc → J idc 0 H)
    (hskip : ∀ idc j H1, j < 3 ^ (l.sights.xs.length - 1) → tellS l (toC (l.sights.xs.length - 1) j) = none → J idc j H1 → J idc (j + 1) H1)
    (hbody : ∀ idc j t H1, j < 3 ^ (l.sights.xs.length - 1) → tellS l (toC (l.sights.xs.length - 1) j) = some t → H.nx < idc → idc < H1.nx →
      wp (calleeOf G (n + 7)) assign ((params.zip [.row idc 1 0 (l.sights.xs.length - 1), .pure (.agg t.told.cells)]).foldl (fun e x => upd e x.1 x.2) env) H1 (fun x env2 H2 => x = .normal ∧ H1.nx ≤ H2.nx ∧ (∀ i, i < H1.nx → H2.get i = H1.get i) ∧
        ∀ Hb, Hb.nx = H2.nx → (∀ i, i ≠ H.nx → Hb.get i = H2.get i) → J idc j Hb → Hb.get idc = .cells true (rowOf intF (toC (l.sights.xs.length - 1) j)) → H.nx < Hb.nx →
          wp (calleeOf G (n + 7)) body env2 Hb (fun x _ H3 => x = .normal ∧ H3.get H.nx = Hb.get H.nx ∧ H3.get idc = .cells true (rowOf intF (toC (l.sights.xs.length - 1) j)) ∧ Hb.nx ≤ H3.nx ∧ J idc (j + 1) H3) .mk) .mk)
    (hend : ∀ idc H', J idc (3 ^ (l.sights.xs.length - 1)) H' → Q .normal env H') :
    wp (calleeOf G (n + 9)) (.rangeFunc f params assign body) env H Q u := by
  refine wp_rangeFunc hf ?_
  obtain ⟨v, H2, h1, h2, idc, h3⟩ := gen_call n l hr (H.alloc (.loop { env, params, assign, body, state := .ready, pending := .normal })) H.nx { env, params, assign, body, state := .ready, pending := .normal } rfl rfl hp (by simp) (get_alloc_nx _) J hstab
    (fun idc hi => hstab idc 0 H _ (h0 idc (by simp at hi; omega)) (by simp) (fun i hi _ _ => get_alloc_lt hi)) hskip
    (fun idc j t H1 hj ht hJ hi hgc hgl => by
      have hlt := nx_of_get hgc
      have hi' : H.nx < idc := by simp at hi; omega
      refine (hbody idc j t H1 hj ht hi' hlt).mono ?_
      rintro x env2 H2 ⟨rfl, hx2, hs2, hw⟩
      have hid1 := lt_of_get (H := H1) (i := H.nx) (by rw [hgl]; simp)
      have hgl2 : H2.get H.nx = _ := (hs2 _ hid1).trans hgl
      refine ⟨rfl, hgl2, ?_⟩
      have hid := lt_of_get (H := H2) (i := H.nx) (by rw [hgl2]; simp)
      refine (hw (H2.set H.nx (.loop { env, params, assign, body, state := .busy, pending := .normal })) rfl (fun i hi => get_set_ne hi) (hstab _ _ _ _ hJ (by simpa using hx2) (fun i hi _ hi2 => by rw [get_set_ne hi2]; exact hs2 i hi)) (by rw [get_set_ne (by omega), hs2 _ hlt]; exact hgc) (by simpa using hid)).mono ?_
      rintro x env3 H3 ⟨rfl, g1, g2, g3, g4⟩
      exact ⟨rfl, by rw [g1, get_set_own hid], g2, by simp at g3; omega, g4⟩)
  refine ⟨v, H2, h1, h2, hend idc _ (hstab _ _ _ _ h3 (by simp) (fun i _ _ hi => get_set_ne hi))⟩
theorem wp_courses {n : Nat} {l : Life} (hr : Right l) {env : Env} {H : Heap} {f : Opnd} {params : List Nat} {assign body : VCode} {Q : VExit → Env → Heap → Prop} {u} (hf : f.eval env = .pure (.func 112 [.ptr false l.cells 0])) (hp : params.length = 2)
    (J : Nat → Nat → Heap → Prop)
    (hstab : ∀ idc j H1 H2, J idc j H1 → H1.nx ≤ H2.nx → (∀ i, i < H1.nx → i ≠ idc → i ≠ H.nx → H2.get i = H1.get i) → J idc j H2)
    (h0 : ∀ idc, H.nx < idc → J idc 0 H)
    (hskip : ∀ idc j H1, j < 3 ^ (l.sights.xs.length - 1) → tellS l (toC (l.sights.xs.length - 1) j) = none → J idc j H1 → J idc (j + 1) H1)
    (hbody : ∀ idc j t H1, j < 3 ^ (l.sights.xs.length - 1) → tellS l (toC (l.sights.xs.length - 1) j) = some t → H.nx < idc → idc < H1.nx →
      wp (calleeOf G (n + 7)) assign ((params.zip [.row idc 1 0 (l.sights.xs.length - 1), .pure (.agg t.told.cells)]).foldl (fun e x => upd e x.1 x.2) env) H1 (fun x env2 H2 => x = .normal ∧ H2 = H1 ∧
        ∀ Hb, J idc j Hb → Hb.get idc = .cells true (rowOf intF (toC (l.sights.xs.length - 1) j)) → H.nx < Hb.nx →
          wp (calleeOf G (n + 7)) body env2 Hb (fun x _ H3 => x = .normal ∧ H3.get H.nx = Hb.get H.nx ∧ H3.get idc = .cells true (rowOf intF (toC (l.sights.xs.length - 1) j)) ∧ Hb.nx ≤ H3.nx ∧ J idc (j + 1) H3) .mk) .mk)
    (hend : ∀ idc H', J idc (3 ^ (l.sights.xs.length - 1)) H' → Q .normal env H') :
    wp (calleeOf G (n + 9)) (.rangeFunc f params assign body) env H Q u :=
  wp_coursesA hr hf hp J hstab h0 hskip (fun idc j t H1 hj ht hi hlt => (hbody idc j t H1 hj ht hi hlt).mono fun x env2 H2 h => by
    obtain ⟨h1, rfl, h3⟩ := h
    exact ⟨h1, Nat.le_refl _, fun _ _ => rfl, fun Hb _ _ hJ hg hn => h3 Hb hJ hg hn⟩) hend
end Go.Proofs.YtnomliioadjdgaaGreat.Vm

namespace Go.Proofs.YtnomliioadjdgaaGreat.Vm
open Go
set_option linter.unusedSimpArgs false
set_option linter.unusedVariables false
set_option maxHeartbeats 4000000

def chg (c : List Int) : Nat := c.countP (fun k => !decide (k = 0))
theorem chg_succ {c : List Int} {i : Nat} (h : i < c.length) : chg (c.take (i + 1)) = chg (c.take i) + if c[i] = 0 then 0 else 1 := by
  rw [← take_succ' h, chg, List.countP_append]
  by_cases h0 : c[i] = 0 <;> simp [chg, h0]
theorem chg_le (c : List Int) : chg c ≤ c.length := List.countP_le_length
theorem sh76 : G.shared 76 = false := by decide
theorem e76 (n : Nat) (c : Sl Int) (hc : c.xs.length < 1000) : callP G (n + 1) 76 [c.pv intF 1] = some (.int .i64 (chg c.xs)) := by
  refine callP_of (ext_none _) rfl g76 rfl ?_
  (repeat' first | simp [*, initEnv, c76] | (refine wpIf_two (fun _ h => ?_) (fun _ h => ?_) <;> try simp [-Nat.le_zero_eq] at h))
  refine wp_loopF [(3, 3), (5, 5), (8, 16)] (fun (i : Nat) env H => env 8 = .pure (.int .i64 i) ∧ env 3 = .pure (.int .i64 (chg (c.xs.take i))) ∧ i ≤ c.xs.length) (fun i => c.xs.length - i) 0 ?_ ?_ ?_ ?_
  · decide
  · simp [chg]
  · simp only [loopFuel]; omega
  rintro i env H ⟨h8, h3, hi⟩
  have hfit : i < 9223372036854775807 := by omega
  have hcl := chg_le (c.xs.take i)
  rw [List.length_take] at hcl
  have hfit2 : chg (c.xs.take i) < 9223372036854775807 := by omega
  have hs : ∀ h : i < c.xs.length, Hide (chg (c.xs.take (i + 1)) = chg (c.xs.take i) + if c.xs[i] = 0 then 0 else 1) := fun h => ⟨chg_succ h⟩
  (repeat' first | simp [*, initEnv] | (refine wpIf_two (fun _ h => ?_) (fun _ h => ?_) <;> try simp [-Nat.le_zero_eq] at h))
  · exact ⟨i + 1, by omega, by simp, by rw [(hs (by assumption)).h, if_pos (by assumption)]; simp, by omega⟩
  · exact ⟨i + 1, by omega, by simp, by rw [(hs (by assumption)).h, if_neg (by assumption)]; simp, by omega⟩
  · rw [List.take_of_length_le (by omega)]
@[simp] theorem d76 (n : Nat) (H : Heap) (c : Sl Int) (hc : c.xs.length < 1000) : doCall (calleeOf G (n + 1)) H (.pure (.func 76 [])) [.pure (c.pv intF 1)] = some (.val (.pure (.int .i64 (chg c.xs)))) :=
  call_pureC (ps := [_]) (caps := []) sh76 (e76 n c hc)
theorem sh26 : G.shared 26 = false := by decide
theorem e26 (n : Nat) (c : Sl Int) (hc : c.xs.length < 1000) : callP G (n + 1) 26 [c.pv intF 1] = some (.int .i64 (chg c.xs)) := by
  refine callP_of (ext_none _) rfl g26 rfl ?_
  (repeat' first | simp [*, initEnv, c26] | (refine wpIf_two (fun _ h => ?_) (fun _ h => ?_) <;> try simp [-Nat.le_zero_eq] at h))
  refine wp_loopF [(3, 17)] (fun (i : Nat) env H => env 4 = .pure (.int .i64 i) ∧ env 3 = .pure (.int .i64 (chg (c.xs.take i))) ∧ i ≤ c.xs.length) (fun i => c.xs.length - i) 0 ?_ ?_ ?_ ?_
  · decide
  · simp [chg]
  · simp only [loopFuel]; omega
  rintro i env H ⟨h8, h3, hi⟩
  have hfit : i < 9223372036854775807 := by omega
  have hcl := chg_le (c.xs.take i)
  rw [List.length_take] at hcl
  have hfit2 : chg (c.xs.take i) < 9223372036854775807 := by omega
  have hs : ∀ h : i < c.xs.length, Hide (chg (c.xs.take (i + 1)) = chg (c.xs.take i) + if c.xs[i] = 0 then 0 else 1) := fun h => ⟨chg_succ h⟩
  (repeat' first | simp [*, initEnv] | (refine wpIf_two (fun _ h => ?_) (fun _ h => ?_) <;> try simp [-Nat.le_zero_eq] at h))
  · exact ⟨i + 1, by omega, by simp, by rw [(hs (by assumption)).h, if_pos (by assumption)]; simp, by omega⟩
  · exact ⟨i + 1, by omega, by simp, by rw [(hs (by assumption)).h, if_neg (by assumption)]; simp, by omega⟩
  · rw [List.take_of_length_le (by omega)]
@[simp] theorem d26 (n : Nat) (H : Heap) (c : Sl Int) (hc : c.xs.length < 1000) : doCall (calleeOf G (n + 1)) H (.pure (.func 26 [])) [.pure (c.pv intF 1)] = some (.val (.pure (.int .i64 (chg c.xs)))) :=
  call_pureC (ps := [_]) (caps := []) sh26 (e26 n c hc)
theorem sh92 : G.shared 92 = false := by decide
theorem e92 (n : Nat) (l : Life) (N : Nat) (hN : N = 3 ^ (l.sights.xs.length - 1)) (h1 : 1 ≤ l.sights.xs.length) (h9 : l.sights.xs.length ≤ 9) : callP G (n + 1) 92 [.agg l.cells] = some (.int .i64 (N : Nat)) := by
  refine callP_of (ext_none _) rfl g92 rfl ?_
  have hP : Hide _ := ⟨hN⟩
  clear hN
  (repeat' first | simp [*, initEnv, c92] | (refine wpIf_two (fun _ h => ?_) (fun _ h => ?_) <;> try simp [-Nat.le_zero_eq] at h))
  refine wp_loopF [(3, 13)] (fun (s : Nat × Nat) env H => env 4 = .pure (.int .i64 s.1) ∧ env 3 = .pure (.int .i64 s.2) ∧ 1 ≤ s.1 ∧ s.1 ≤ l.sights.xs.length ∧ s.2 ≤ 6561 ∧ Hide (s.2 = 3 ^ (s.1 - 1))) (fun s => l.sights.xs.length - s.1) (1, 1) ?_ ?_ ?_ ?_
  · decide
  · simp [h1]
  · simp only [loopFuel]; omega
  rintro ⟨i, p⟩ env H ⟨h4, h3, hi1, hi, hp, hn⟩
  simp only at h4 h3 hi1 hi hp hn
  have hfit : i < 9223372036854775807 := by omega
  have hw : IntKind.i64.wrap (3 * (p : Int)) = ((3 * p : Nat) : Int) := by rw [wrap64 (by omega) (by omega)]; simp
  have hstep : Hide (3 * p = 3 ^ (i + 1 - 1)) := ⟨by
    have : i + 1 - 1 = (i - 1) + 1 := by omega
    rw [hn.h, this, Nat.pow_succ, Nat.mul_comm]⟩
  (repeat' first | simp [*, initEnv] | (refine wpIf_two (fun _ h => ?_) (fun _ h => ?_) <;> try simp [-Nat.le_zero_eq] at h))
  · refine ⟨i + 1, by omega, by simp, 3 * p, by simp, by omega, by omega, ?_, hstep⟩
    rw [hstep.h]
    have h8 : i + 1 - 1 ≤ 8 := by omega
    have : 3 ^ (i + 1 - 1) ≤ 3 ^ 8 := Nat.pow_le_pow_right (by decide) h8
    exact this
  · have : i = l.sights.xs.length := by omega
    rw [hn.h, hP.h, this]
@[simp] theorem d92 (n : Nat) (H : Heap) (l_habit_step : Int) (l_habit_place : Int) (l_habit_sink : Int) (l_sights : Sl Sight) (l_notes : Sl Note) (N : Nat) (hN : (fun (l : Life) => N = 3 ^ (l.sights.xs.length - 1)) (⟨⟨l_habit_step, l_habit_place, l_habit_sink⟩, l_sights, l_notes⟩ : Life)) (h1 : (fun (l : Life) => 1 ≤ l.sights.xs.length) (⟨⟨l_habit_step, l_habit_place, l_habit_sink⟩, l_sights, l_notes⟩ : Life)) (h9 : (fun (l : Life) => l.sights.xs.length ≤ 9) (⟨⟨l_habit_step, l_habit_place, l_habit_sink⟩, l_sights, l_notes⟩ : Life)) : doCall (calleeOf G (n + 1)) H (.pure (.func 92 [])) [.pure (.agg [.int .i64 l_habit_step, .int .i64 l_habit_place, .int .i64 l_habit_sink, (l_sights).pv Sight.cells 9, (l_notes).pv Note.cells 4])] = some (.val (.pure (.int .i64 (N : Nat)))) :=
  call_pureC (ps := [_]) (caps := []) sh92 (e92 n (⟨⟨l_habit_step, l_habit_place, l_habit_sink⟩, l_sights, l_notes⟩ : Life) N hN h1 h9)
theorem sh93 : G.shared 93 = false := by decide
theorem e93 (n : Nat) (l : Life) (j : Nat) (h1 : 1 ≤ l.sights.xs.length) (h9 : l.sights.xs.length ≤ 9) (hj : j < 100000) : callP G (n + 1) 93 [.agg l.cells, .int .i64 (j : Nat)] = some ((Sl.of (toC (l.sights.xs.length - 1) j)).pv intF 1) := by
  refine callP_of (ext_none _) rfl g93 rfl ?_
  obtain ⟨c0, hc0⟩ : ∃ c, c = toC (l.sights.xs.length - 1) j := ⟨_, rfl⟩
  rw [← hc0]
  have hcc : Hide _ := ⟨hc0⟩
  clear hc0
  (repeat' first | simp [*, initEnv, c93] | (refine wpIf_two (fun _ h => ?_) (fun _ h => ?_) <;> try simp [-Nat.le_zero_eq] at h) | (apply wpE_appendV; (focus (first | assumption | (repeat' first | assumption | with_reducible apply GrowV.setNew | with_reducible apply GrowV.alloc | with_reducible apply GrowV.set | (with_reducible show ¬ Names _ _; simp [*]; done)))); (focus (exact fun _ => rfl)); (focus decide); (focus (intro a; first | rfl | simp)); (focus (simp [maxCells] <;> omega))) | (refine after_intro fun v2 H2 hv2 hnx2 hget2 hnew2 hone2 hcel2 => ?_))
  refine wp_loopF [(1, 1), (5, 20)] (fun (s : Nat × Nat × List Int) env H => env 6 = .pure (.int .i64 s.1) ∧ env 1 = .pure (.int .i64 s.2.1) ∧ GrowV intF 1 H (env 5) s.2.2 ∧ 1 ≤ s.1 ∧ s.1 ≤ l.sights.xs.length ∧ s.2.1 < 100000 ∧ s.2.2.length < 10 ∧ Hide (s.2.2.length = s.1 - 1 ∧ c0 = s.2.2 ++ toC (l.sights.xs.length - s.1) s.2.1)) (fun s => l.sights.xs.length - s.1) (1, j, []) ?_ ?_ ?_ ?_
  · decide
  · refine ⟨by simp, by simp [initEnv], by simpa using GrowV.nil, by omega, by omega, hj, by simp, ⟨rfl, by rw [hcc.h]; rfl⟩⟩
  · simp only [loopFuel]; omega
  rintro ⟨i, cur, out⟩ env H ⟨h6, h1', hg, hi1, hi, hcur, hol, hn⟩
  simp only at h6 h1' hg hi1 hi hcur hol hn
  have hfit : i < 9223372036854775807 := by omega
  have ht : ((cur : Int)).tmod 3 = ((cur % 3 : Nat) : Int) := rfl
  have hq : IntKind.i64.wrap ((cur : Int).tdiv 3) = ((cur / 3 : Nat) : Int) := by
    have : (cur : Int).tdiv 3 = ((cur / 3 : Nat) : Int) := rfl
    rw [this, wrap64 (by omega) (by omega)]
  obtain ⟨q, hq0⟩ : ∃ q, q = cur / 3 := ⟨_, rfl⟩
  obtain ⟨d, hd0⟩ : ∃ d, d = cur % 3 := ⟨_, rfl⟩
  rw [← hq0] at hq
  rw [← hd0] at ht
  have hq2 : IntKind.i64.wrap ((cur : Int) / 3) = q := by rw [wrap64 (by omega) (by omega), hq0]; omega
  have hd2 : (cur : Int) % 3 = d := by omega
  have hq1 : Hide _ := ⟨hq0⟩
  have hd1 : Hide _ := ⟨hd0⟩
  clear hq0 hd0
  obtain ⟨ids, hids⟩ := hg.res (n := 10) (fun _ => rfl)
  (repeat' first | simp [*, initEnv] | (refine wpIf_two (fun _ h => ?_) (fun _ h => ?_) <;> try simp [-Nat.le_zero_eq] at h) | (apply wpE_appendV; (focus (first | assumption | (repeat' first | assumption | with_reducible apply GrowV.setNew | with_reducible apply GrowV.alloc | with_reducible apply GrowV.set | (with_reducible show ¬ Names _ _; simp [*]; done)))); (focus (exact fun _ => rfl)); (focus decide); (focus (intro a; first | rfl | simp)); (focus (simp [maxCells] <;> omega))) | (refine after_intro fun v2 H2 hv2 hnx2 hget2 hnew2 hone2 hcel2 => ?_))
  · refine ⟨i + 1, by omega, by simp, q, by first | rfl | exact hq2, out ++ [(d : Int)], hv2, by omega, by omega, by have := hq1.h; omega, ?_, ⟨?_, ?_⟩⟩
    · have := hn.h.1; simp; omega
    · have := hn.h.1; simp; omega
    · have e : l.sights.xs.length - i = (l.sights.xs.length - (i + 1)) + 1 := by omega
      rw [hn.h.2, e, toC, ← hq1.h, ← hd1.h]
      simp
  · have e : l.sights.xs.length - i = 0 := by omega
    have := hn.h.2
    rw [e, toC, List.append_nil] at this
    rw [this]
    exact ⟨ids, hids⟩
@[simp] theorem d93 (n : Nat) (H : Heap) (l_habit_step : Int) (l_habit_place : Int) (l_habit_sink : Int) (l_sights : Sl Sight) (l_notes : Sl Note) (j : Nat) (h1 : (fun (l : Life) => 1 ≤ l.sights.xs.length) (⟨⟨l_habit_step, l_habit_place, l_habit_sink⟩, l_sights, l_notes⟩ : Life)) (h9 : (fun (l : Life) => l.sights.xs.length ≤ 9) (⟨⟨l_habit_step, l_habit_place, l_habit_sink⟩, l_sights, l_notes⟩ : Life)) (hj : j < 100000) : doCall (calleeOf G (n + 1)) H (.pure (.func 93 [])) [.pure (.agg [.int .i64 l_habit_step, .int .i64 l_habit_place, .int .i64 l_habit_sink, (l_sights).pv Sight.cells 9, (l_notes).pv Note.cells 4]), .pure (.int .i64 (j : Nat))] = some (.val (.pure ((fun (l : Life) => (Sl.of (toC (l.sights.xs.length - 1) j)).pv intF 1) (⟨⟨l_habit_step, l_habit_place, l_habit_sink⟩, l_sights, l_notes⟩ : Life)))) :=
  call_pureC (ps := [_, _]) (caps := []) sh93 (e93 n (⟨⟨l_habit_step, l_habit_place, l_habit_sink⟩, l_sights, l_notes⟩ : Life) j h1 h9 hj)
end Go.Proofs.YtnomliioadjdgaaGreat.Vm

namespace Go.Proofs.YtnomliioadjdgaaGreat.Vm
open Go
set_option linter.unusedSimpArgs false
set_option linter.unusedVariables false
set_option maxHeartbeats 4000000

/-! ### How many courses there are, by their changes -/
def addAt (out : List Int) (i : Nat) : List Int := out.set i (out[i]! + 1)
def byTo (p : List Int → Bool) (m : Nat) : Nat → List Int
  | 0 => List.replicate (m + 1) 0
  | j + 1 => if p (toC m j) = true then addAt (byTo p m j) (chg (toC m j)) else byTo p m j
theorem byTo_length (p : List Int → Bool) (m : Nat) : ∀ j, (byTo p m j).length = m + 1
  | 0 => by simp [byTo]
  | j + 1 => by
    rw [byTo]
    split
    · rw [addAt, List.length_set, byTo_length p m j]
    · exact byTo_length p m j
theorem byTo_le (p : List Int → Bool) (m : Nat) : ∀ j, ∀ a ∈ byTo p m j, 0 ≤ a ∧ a ≤ j
  | 0 => by
    intro a ha
    simp [byTo] at ha
    omega
  | j + 1 => by
    have ih := byTo_le p m j
    intro a ha
    rw [byTo] at ha
    split at ha
    · rcases List.mem_or_eq_of_mem_set ha with ha | rfl
      · have := ih a ha; omega
      · have hl := byTo_length p m j
        have hc := chg_le (toC m j)
        rw [toC_length] at hc
        have := ih ((byTo p m j)[chg (toC m j)]!) (by rw [getElem!_pos _ _ (by omega)]; exact List.getElem_mem _)
        omega
    · have := ih a ha; omega
theorem pow_le_of {m : Nat} (h : m ≤ 8) : 3 ^ m ≤ 6561 := by
  have : 3 ^ m ≤ 3 ^ 8 := Nat.pow_le_pow_right (by decide) h
  exact this
def fitP (l : Life) (c : List Int) : Bool := (tellS l c).isSome

theorem sh62 : G.shared 62 = false := by decide
theorem e62 (n : Nat) (l : Life) : callP G (n + 1) 62 [.agg l.cells] = some (.func 112 [.ptr false l.cells 0]) := by
  refine callP_of (ext_none _) rfl g62 rfl ?_
  (repeat' first | simp [*, initEnv, c62] | (refine wpIf_two (fun _ h => ?_) (fun _ h => ?_) <;> try simp [-Nat.le_zero_eq] at h))
@[simp] theorem d62 (n : Nat) (H : Heap) (l_habit_step : Int) (l_habit_place : Int) (l_habit_sink : Int) (l_sights : Sl Sight) (l_notes : Sl Note) : doCall (calleeOf G (n + 1)) H (.pure (.func 62 [])) [.pure (.agg [.int .i64 l_habit_step, .int .i64 l_habit_place, .int .i64 l_habit_sink, (l_sights).pv Sight.cells 9, (l_notes).pv Note.cells 4])] = some (.val (.pure ((fun (l : Life) => .func 112 [.ptr false l.cells 0]) (⟨⟨l_habit_step, l_habit_place, l_habit_sink⟩, l_sights, l_notes⟩ : Life)))) :=
  call_pureC (ps := [_]) (caps := []) sh62 (e62 n (⟨⟨l_habit_step, l_habit_place, l_habit_sink⟩, l_sights, l_notes⟩ : Life))
theorem sh34 : G.shared 34 = false := by decide
theorem e34 (n : Nat) (l : Life) (hs : shortS l) : callP G (n + 10) 34 [.agg l.cells] = some ((if checkS l = 0 then .tup [(Sl.mk false (byTo (fitP l) (l.sights.xs.length - 1) (3 ^ (l.sights.xs.length - 1)))).pv intF 1, .int .i64 0] else .tup [.nils, .int .i64 (checkS l)])) := by
  refine callP_of (ext_none _) rfl g34 rfl ?_
  have hcc : ∀ H, doCall (calleeOf G (n + 9)) H (.pure (.func 41 [])) [.pure (.agg l.cells)] = some (.val (.pure (.int .i64 (checkS l)))) := fun H => d41 (n + 4) H l.habit.step l.habit.place l.habit.sink l.sights l.notes hs
  simp only [Life.cells] at hcc
  by_cases hck : checkS l = 0
  · have hr := (right_iff l).1 hck
    have h1 := hr.one
    have h9 := hr.nine
    have hm1 : l.sights.xs.length * 8 ≤ maxCells := by unfold maxCells; omega
    have hm2 : l.sights.xs.length ≤ maxCells := by unfold maxCells; omega
    (repeat' first | simp [*, initEnv, c34] | (refine wpIf_two (fun _ h => ?_) (fun _ h => ?_) <;> try simp [-Nat.le_zero_eq] at h))
    refine wp_courses (n := n) (l := l) hr (by simp) rfl (fun idc j H1 => 2 < idc ∧ H1.get 0 = .cells true (rowOf intF (byTo (fitP l) (l.sights.xs.length - 1) j)) ∧ H1.get 1 = .cells true [.row 0 1 0 l.sights.xs.length]) ?_ ?_ ?_ ?_ ?_
    · rintro idc j H1 H2 ⟨hi, g0, g1⟩ hnx hsame
      have := nx_of_get g1
      refine ⟨hi, by rw [hsame 0 (by omega) (by omega) (by simp)]; exact g0, by rw [hsame 1 (by omega) (by omega) (by simp)]; exact g1⟩
    · intro idc hi
      have e : l.sights.xs.length - 1 + 1 = l.sights.xs.length := by omega
      refine ⟨by simpa using hi, ?_, by simp⟩
      simp [byTo, rowOf_zeros, e]
    · rintro idc j H1 hj ht ⟨hi, g0, g1⟩
      refine ⟨hi, ?_, g1⟩
      rw [byTo, if_neg (by simp [fitP, ht])]; exact g0
    · intro idc j t H1 hj ht hi hlt
      (repeat' first | simp [*, initEnv] | (refine wpIf_two (fun _ h => ?_) (fun _ h => ?_) <;> try simp [-Nat.le_zero_eq] at h))
      rintro Hb hi2 g0 g1 gc hnx
      have hcl := toC_length (l.sights.xs.length - 1) j
      obtain ⟨s, hs1, hs2⟩ := row_sl (f := intF) (sz := 1) (n := 10) (fun _ => rfl) gc hcl
      have hch : callP G (n + 7) 76 [s.pv intF 1] = some (.int .i64 (chg (toC (l.sights.xs.length - 1) j))) := by
        have := e76 (n + 6) s (by rw [hs1, hcl]; omega)
        rw [hs1] at this; exact this
      have hlen := byTo_length (fitP l) (l.sights.xs.length - 1) j
      have hle := chg_le (toC (l.sights.xs.length - 1) j)
      rw [hcl] at hle
      have hj3 := pow_le_of (m := l.sights.xs.length - 1) (by omega)
      have hbd := byTo_le (fitP l) (l.sights.xs.length - 1) j
      have hst : Hide (byTo (fitP l) (l.sights.xs.length - 1) (j + 1) = addAt (byTo (fitP l) (l.sights.xs.length - 1) j) (chg (toC (l.sights.xs.length - 1) j))) := ⟨by rw [byTo, if_pos (by simp [fitP, ht])]⟩
      have hk1 : chg (toC (l.sights.xs.length - 1) j) < l.sights.xs.length := by omega
      generalize hB : byTo (fitP l) (l.sights.xs.length - 1) j = B at *
      generalize hK : chg (toC (l.sights.xs.length - 1) j) = K at *
      have hk2 : K < B.length := by omega
      have hbk := hbd B[K] (List.getElem_mem _)
      have hwr : IntKind.i64.wrap (B[K] + 1) = B[K] + 1 := wrap64 (by omega) (by omega)
      have hn0 : 0 < Hb.nx := by omega
      have hi0 : ¬ (idc = 0) := by omega
      clear hcc hlen hbd hB hK
      (repeat' first | simp [*, initEnv] | (refine wpIf_two (fun _ h => ?_) (fun _ h => ?_) <;> try simp [-Nat.le_zero_eq] at h))
      refine wpE_own (caps := []) (by decide) (.cons hs2 .nil) hch rfl ?_
      (repeat' first | simp [*, initEnv] | (refine wpIf_two (fun _ h => ?_) (fun _ h => ?_) <;> try simp [-Nat.le_zero_eq] at h))
      rw [hst.h, addAt, getElem!_pos B K hk2]
    · rintro idc H' ⟨hi, g0, g1⟩
      have hlen := byTo_length (fitP l) (l.sights.xs.length - 1) (3 ^ (l.sights.xs.length - 1))
      have e : l.sights.xs.length - 1 + 1 = l.sights.xs.length := by omega
      rw [e] at hlen
      obtain ⟨ids, hids⟩ := row_res (f := intF) (sz := 1) (n := 9) (fun _ => rfl) g0 hlen
      (repeat' first | simp [*, initEnv] | (refine wpIf_two (fun _ h => ?_) (fun _ h => ?_) <;> try simp [-Nat.le_zero_eq] at h))
  · (repeat' first | simp [*, initEnv, c34] | (refine wpIf_two (fun _ h => ?_) (fun _ h => ?_) <;> try simp [-Nat.le_zero_eq] at h))
@[simp] theorem d34 (n : Nat) (H : Heap) (l_habit_step : Int) (l_habit_place : Int) (l_habit_sink : Int) (l_sights : Sl Sight) (l_notes : Sl Note) (hs : (fun (l : Life) => shortS l) (⟨⟨l_habit_step, l_habit_place, l_habit_sink⟩, l_sights, l_notes⟩ : Life)) : doCall (calleeOf G (n + 10)) H (.pure (.func 34 [])) [.pure (.agg [.int .i64 l_habit_step, .int .i64 l_habit_place, .int .i64 l_habit_sink, (l_sights).pv Sight.cells 9, (l_notes).pv Note.cells 4])] = some (.val (.pure ((fun (l : Life) => (if checkS l = 0 then .tup [(Sl.mk false (byTo (fitP l) (l.sights.xs.length - 1) (3 ^ (l.sights.xs.length - 1)))).pv intF 1, .int .i64 0] else .tup [.nils, .int .i64 (checkS l)])) (⟨⟨l_habit_step, l_habit_place, l_habit_sink⟩, l_sights, l_notes⟩ : Life)))) :=
  call_pureC (ps := [_]) (caps := []) sh34 (e34 n (⟨⟨l_habit_step, l_habit_place, l_habit_sink⟩, l_sights, l_notes⟩ : Life) hs)

-- left out: the program of this seat has no such function

/-! ### Which kinds each gap can have -/
def bitOf (k : Int) : Int := if k = 2 then 4 else if k = 1 then 2 else 1
def addBit (a k : Int) : Int := if (a.tdiv (bitOf k)).tmod 2 = 0 then a + bitOf k else a
def kindsTo (p : List Int → Bool) (m : Nat) : Nat → List Int × Bool
  | 0 => (List.replicate m 0, false)
  | j + 1 => if p (toC m j) = true then ((kindsTo p m j).1.zipWith addBit (toC m j), true) else kindsTo p m j
theorem kindsTo_length (p : List Int → Bool) (m : Nat) : ∀ j, (kindsTo p m j).1.length = m
  | 0 => by simp [kindsTo]
  | j + 1 => by
    rw [kindsTo]
    split
    · simp [kindsTo_length p m j, toC_length]
    · exact kindsTo_length p m j
theorem bit_cases {a k : Int} (ha : 0 ≤ a ∧ a ≤ 7) (hk : 0 ≤ k ∧ k ≤ 2) : (0 ≤ addBit a k ∧ addBit a k ≤ 7) ∧ vbin .shl .num (.pure (.int .i64 1)) (.pure (.int .i64 k)) = some (.pure (.int .i64 (bitOf k))) ∧ vbin .or .num (.pure (.int .i64 a)) (.pure (.int .i64 (bitOf k))) = some (.pure (.int .i64 (addBit a k))) ∧
    IntKind.i64.wrap (a.tdiv (bitOf k)) = a.tdiv (bitOf k) ∧ IntKind.i64.wrap (a + bitOf k) = a + bitOf k := by
  have h1 : a = 0 ∨ a = 1 ∨ a = 2 ∨ a = 3 ∨ a = 4 ∨ a = 5 ∨ a = 6 ∨ a = 7 := by omega
  have h2 : k = 0 ∨ k = 1 ∨ k = 2 := by omega
  rcases h1 with rfl | rfl | rfl | rfl | rfl | rfl | rfl | rfl <;> rcases h2 with rfl | rfl | rfl <;> exact ⟨⟨by decide, by decide⟩, rfl, rfl, rfl, rfl⟩
theorem kindsTo_le (p : List Int → Bool) (m : Nat) : ∀ j, ∀ a ∈ (kindsTo p m j).1, 0 ≤ a ∧ a ≤ 7
  | 0 => by
    intro a ha
    simp [kindsTo] at ha
    omega
  | j + 1 => by
    have ih := kindsTo_le p m j
    intro a ha
    rw [kindsTo] at ha
    split at ha
    · obtain ⟨i, hi, rfl⟩ := List.getElem_of_mem ha
      simp at hi ⊢
      exact (bit_cases (ih _ (List.getElem_mem _)) (toC_kinds m j _ (List.getElem_mem (by omega)))).1
    · exact ih a ha

def mixT (Z B : List Int) (i : Nat) : List Int := Z.take i ++ B.drop i
theorem mixT_length {Z B : List Int} {i : Nat} (h : Z.length = B.length) (hi : i ≤ B.length) : (mixT Z B i).length = B.length := by simp [mixT]; omega
theorem mixT_get {Z B : List Int} {i : Nat} (h : Z.length = B.length) (hi : i < B.length) (h' : i < (mixT Z B i).length) : (mixT Z B i)[i] = B[i] := by
  simp only [mixT]
  rw [List.getElem_append_right (by simp; omega)]
  simp [Nat.min_eq_left (show i ≤ Z.length by omega)]
theorem mixT_set {Z B : List Int} {i : Nat} (h : Z.length = B.length) (hi : i < B.length) : (mixT Z B i).set i (Z[i]'(by omega)) = mixT Z B (i + 1) := by
  have hl : (Z.take i).length = i := by simp; omega
  simp only [mixT]
  rw [List.set_append_right _ _ (by omega), hl, Nat.sub_self, List.drop_eq_getElem_cons hi, List.set_cons_zero, ← take_succ' (by omega), List.append_assoc]
  rfl
theorem mixT_end {Z B : List Int} {i : Nat} (h : Z.length = B.length) (hi : i = B.length) : mixT Z B i = Z := by
  simp only [mixT]
  rw [List.take_of_length_le (by omega), List.drop_eq_nil_of_le (by omega), List.append_nil]

theorem sh27 : G.shared 27 = false := by decide
theorem e27 (n : Nat) (l : Life) (hs : shortS l) : callP G (n + 10) 27 [.agg l.cells] = some ((if checkS l = 0 then (if (kindsTo (fitP l) (l.sights.xs.length - 1) (3 ^ (l.sights.xs.length - 1))).2 = true then .tup [(Sl.mk false (kindsTo (fitP l) (l.sights.xs.length - 1) (3 ^ (l.sights.xs.length - 1))).1).pv intF 1, .int .i64 0] else .tup [.nils, .int .i64 9]) else .tup [.nils, .int .i64 (checkS l)])) := by
  refine callP_of (ext_none _) rfl g27 rfl ?_
  have hcc : ∀ H, doCall (calleeOf G (n + 9)) H (.pure (.func 41 [])) [.pure (.agg l.cells)] = some (.val (.pure (.int .i64 (checkS l)))) := fun H => d41 (n + 4) H l.habit.step l.habit.place l.habit.sink l.sights l.notes hs
  simp only [Life.cells] at hcc
  by_cases hck : checkS l = 0
  · have hr := (right_iff l).1 hck
    have h1 := hr.one
    have h9 := hr.nine
    have hw : IntKind.i64.wrap ((l.sights.xs.length : Int) - 1) = ((l.sights.xs.length - 1 : Nat) : Int) := wrap_pred (by omega) (by omega)
    obtain ⟨m, hm0⟩ : ∃ m, m = l.sights.xs.length - 1 := ⟨_, rfl⟩
    rw [← hm0] at hw ⊢
    have hm1 : m * 8 ≤ maxCells := by unfold maxCells; omega
    have hm2 : m ≤ maxCells := by unfold maxCells; omega
    have hm8 : m ≤ 8 := by omega
    have hm : Hide _ := ⟨hm0⟩
    clear hm0
    (repeat' first | simp [*, initEnv, c27] | (refine wpIf_two (fun _ h => ?_) (fun _ h => ?_) <;> try simp [-Nat.le_zero_eq] at h))
    refine wp_courses (n := n) (l := l) hr (by simp) rfl (fun idc j H1 => 3 < idc ∧ H1.get 0 = .cells true (rowOf intF (kindsTo (fitP l) m j).1) ∧ H1.get 1 = .cells true [.row 0 1 0 m] ∧ H1.get 2 = .cells true [.pure (.bool (kindsTo (fitP l) m j).2)]) ?_ ?_ ?_ ?_ ?_
    · rintro idc j H1 H2 ⟨hi, g0, g1, g2⟩ hnx hsame
      have := nx_of_get g2
      exact ⟨hi, by rw [hsame 0 (by omega) (by omega) (by simp)]; exact g0, by rw [hsame 1 (by omega) (by omega) (by simp)]; exact g1, by rw [hsame 2 (by omega) (by omega) (by simp)]; exact g2⟩
    · intro idc hi
      refine ⟨by simpa using hi, ?_, by simp, by simp [kindsTo]⟩
      simp [kindsTo, rowOf_zeros]
    · rw [← hm.h]
      rintro idc j H1 hj ht ⟨hi, g0, g1, g2⟩
      have e : kindsTo (fitP l) m (j + 1) = kindsTo (fitP l) m j := by rw [kindsTo, if_neg (by simp [fitP, ht])]
      rw [e]
      exact ⟨hi, g0, g1, g2⟩
    · rw [← hm.h]
      intro idc j t H1 hj ht hi hlt
      (repeat' first | simp [*, initEnv] | (refine wpIf_two (fun _ h => ?_) (fun _ h => ?_) <;> try simp [-Nat.le_zero_eq] at h))
      rintro Hb hi2 g0 g1 g2 gc hnx
      have hcl := toC_length m j
      have e : Hide (kindsTo (fitP l) m (j + 1) = ((kindsTo (fitP l) m j).1.zipWith addBit (toC m j), true)) := ⟨by rw [kindsTo, if_pos (by simp [fitP, ht])]⟩
      have hBl := kindsTo_length (fitP l) m j
      have hBb := kindsTo_le (fitP l) m j
      generalize (kindsTo (fitP l) m j).2 = S0 at *
      generalize (kindsTo (fitP l) m j).1 = B at *
      have hck := toC_kinds m j
      generalize toC m j = C at *
      have hZl : (B.zipWith addBit C).length = B.length := by simp; omega
      have hnx2 : 2 < Hb.nx := by omega
      (repeat' first | simp [*, initEnv] | (refine wpIf_two (fun _ h => ?_) (fun _ h => ?_) <;> try simp [-Nat.le_zero_eq] at h))
      refine wp_loopF [(8, 9), (26, 39)] (fun (i : Nat) env H3 => env 26 = .pure (.int .i64 i) ∧ i ≤ m ∧ H3.nx = Hb.nx ∧ H3.get 0 = .cells true (rowOf intF (mixT (B.zipWith addBit C) B i)) ∧ H3.get 1 = .cells true [.row 0 1 0 m] ∧ H3.get 2 = .cells true [.pure (.bool true)] ∧ H3.get idc = .cells true (rowOf intF C) ∧ H3.get 3 = Hb.get 3) (fun i => m - i) 0 ?_ ?_ ?_ ?_
      · decide
      · refine ⟨by simp, by omega, by simp, by rw [get_set_ne (by decide)]; simpa [mixT] using g0, by rw [get_set_ne (by decide)]; exact g1, by rw [get_set_own hnx2], by rw [get_set_ne (by omega)]; exact gc, by rw [get_set_ne (by decide)]⟩
      · simp only [loopFuel]; omega
      rintro i env H3 ⟨h26, hi, gn, k0, k1, k2, kc, k3⟩
      have hfit : i < 9223372036854775807 := by omega
      have hXl := mixT_length (Z := B.zipWith addBit C) (B := B) (i := i) hZl (by omega)
      rw [hBl] at hXl
      have n0 := nx_of_get k0
      have hi0 : ¬ (idc = 0) := by omega
      have hi3 : ¬ (3 = 0) := by omega
      by_cases him : i < m
      · have hXg := mixT_get (Z := B.zipWith addBit C) (B := B) (i := i) hZl (by omega) (by omega)
        have hXs := mixT_set (Z := B.zipWith addBit C) (B := B) (i := i) hZl (by omega)
        have hZi : (B.zipWith addBit C)[i]'(by omega) = addBit (B[i]'(by omega)) (C[i]'(by omega)) := by simp
        rw [hZi] at hXs
        obtain ⟨b1, b2, b3, b4, b5⟩ := bit_cases (hBb _ (List.getElem_mem (l := B) (n := i) (by omega))) (hck _ (List.getElem_mem (l := C) (n := i) (by omega)))
        obtain ⟨X, k0, hXl, hXg, hXs⟩ : ∃ X : List Int, H3.get 0 = .cells true (rowOf intF X) ∧ X.length = m ∧ (∀ h, X[i]'h = B[i]'(by omega)) ∧ X.set i (addBit (B[i]'(by omega)) (C[i]'(by omega))) = mixT (B.zipWith addBit C) B (i + 1) := ⟨_, k0, hXl, fun _ => hXg, hXs⟩
        have hXs' : Hide _ := ⟨hXs⟩
        have hXg' := hXg (by omega)
        clear hXs hXg hZi b4 b5
        have hcl' : C.length = m := hcl
        (repeat' first | simp [*, initEnv] | (refine wpIf_two (fun _ h => ?_) (fun _ h => ?_) <;> try simp [-Nat.le_zero_eq] at h))
        exact ⟨i + 1, by omega, by simp, by omega, by first | rw [hXs'.h] | rw [get_set_own n0]⟩
      · have hie : i = m := by omega
        have hXe := mixT_end (Z := B.zipWith addBit C) (B := B) (i := i) hZl (by omega)
        rw [hXe] at k0
        have e1 : (kindsTo (fitP l) m (j + 1)).1 = B.zipWith addBit C := by rw [e.h]
        have e2 : (kindsTo (fitP l) m (j + 1)).2 = true := by rw [e.h]
        (repeat' first | simp [*, initEnv] | (refine wpIf_two (fun _ h => ?_) (fun _ h => ?_) <;> try simp [-Nat.le_zero_eq] at h))
    · rw [← hm.h]
      rintro idc H' ⟨hi, g0, g1, g2⟩
      have hlen := kindsTo_length (fitP l) m (3 ^ m)
      obtain ⟨ids, hids⟩ := row_res (f := intF) (sz := 1) (n := 9) (fun _ => rfl) g0 hlen
      (repeat' first | simp [*, initEnv] | (refine wpIf_two (fun _ h => ?_) (fun _ h => ?_) <;> try simp [-Nat.le_zero_eq] at h))
  · (repeat' first | simp [*, initEnv, c27] | (refine wpIf_two (fun _ h => ?_) (fun _ h => ?_) <;> try simp [-Nat.le_zero_eq] at h))
@[simp] theorem d27 (n : Nat) (H : Heap) (l_habit_step : Int) (l_habit_place : Int) (l_habit_sink : Int) (l_sights : Sl Sight) (l_notes : Sl Note) (hs : (fun (l : Life) => shortS l) (⟨⟨l_habit_step, l_habit_place, l_habit_sink⟩, l_sights, l_notes⟩ : Life)) : doCall (calleeOf G (n + 10)) H (.pure (.func 27 [])) [.pure (.agg [.int .i64 l_habit_step, .int .i64 l_habit_place, .int .i64 l_habit_sink, (l_sights).pv Sight.cells 9, (l_notes).pv Note.cells 4])] = some (.val (.pure ((fun (l : Life) => (if checkS l = 0 then (if (kindsTo (fitP l) (l.sights.xs.length - 1) (3 ^ (l.sights.xs.length - 1))).2 = true then .tup [(Sl.mk false (kindsTo (fitP l) (l.sights.xs.length - 1) (3 ^ (l.sights.xs.length - 1))).1).pv intF 1, .int .i64 0] else .tup [.nils, .int .i64 9]) else .tup [.nils, .int .i64 (checkS l)])) (⟨⟨l_habit_step, l_habit_place, l_habit_sink⟩, l_sights, l_notes⟩ : Life)))) :=
  call_pureC (ps := [_]) (caps := []) sh27 (e27 n (⟨⟨l_habit_step, l_habit_place, l_habit_sink⟩, l_sights, l_notes⟩ : Life) hs)

-- left out: the program of this seat has no such function
end Go.Proofs.YtnomliioadjdgaaGreat.Vm

namespace Go.Proofs.YtnomliioadjdgaaGreat.Vm
open Go
set_option linter.unusedSimpArgs false
set_option linter.unusedVariables false
set_option maxHeartbeats 4000000

theorem allL_full (l : List Span) : someS l = true ↔ ∀ s ∈ l, full s := by
  unfold someS
  rw [allL_iff]
  simp [full]
theorem getElem!_mem_or {c : List Int} (k : Nat) : c[k]! ∈ c ∨ c[k]! = 0 := by
  by_cases h : k < c.length
  · left; rw [getElem!_pos c k h]; exact List.getElem_mem _
  · right; rw [getElem!_neg c k h]; rfl
/-- The gaps of x and of y. -/
theorem gapsX {l : Life} (hr : Right l) (c : List Int) : Gaps (fun _ => True) (onX l c) (onX l c) := by
  have hd := fun (k : Nat) => far_le (k := c[k]!) hr.habit
  refine ⟨?_, ?_, ?_, ?_, fun _ _ _ _ => trivial⟩
  · intro k s t h; unfold sub onX onD at *; simp only; omega
  · intro k s t h; unfold sub onX onD at *; simp only; omega
  · intro k f t h
    have := hd k
    unfold sub onX onD meetS at *; simp only at *; omega
  · intro k f t _ hf ht h
    have := hd k
    unfold full sub onX onD meetS at *; simp only at *; omega
/-- The gaps of heights. -/
theorem gapsH {l : Life} (hr : Right l) (c : List Int) : Gaps (fun s => 0 ≤ s.lo ∧ s.hi ≤ 100) (onH l c) (backH l c) := by
  have hy : ∀ k, k + 1 < l.sights.xs.length → 0 ≤ l.habit.sink * yrS l.sights.xs k := fun k hk => by
    have h1 := hr.yr hk
    have h2 : yrS l.sights.xs k = l.sights.xs[k+1].year - l.sights.xs[k].year := by rw [yrS, getElem!_pos _ k (by omega), getElem!_pos _ (k+1) hk]
    rw [h2]
    exact (sink_le hr.habit h1).1
  refine ⟨?_, ?_, ?_, ?_, ?_⟩
  · intro k s t h
    unfold onH
    by_cases hk : k + 1 < l.sights.xs.length
    · rw [if_pos hk, if_pos hk]; unfold upH sub at *
      split <;> (simp only; omega)
    · rw [if_neg hk, if_neg hk]; exact h
  · intro k s t h
    unfold backH
    by_cases hk : k + 1 < l.sights.xs.length
    · rw [if_pos hk, if_pos hk]; unfold downH sub at *
      split <;> (simp only; omega)
    · rw [if_neg hk, if_neg hk]; exact h
  · intro k f t h
    unfold onH backH at *
    by_cases hk : k + 1 < l.sights.xs.length
    · rw [if_pos hk] at *; unfold upH downH sub meetS at *
      have := hy k hk
      split <;> rename_i h0 <;> simp only [h0, if_true, if_false] at h ⊢ <;> omega
    · rw [if_neg hk] at *
      rw [if_neg hk]
      exact sub_meet h (sub_refl _)
  · intro k f t hR hf ht h
    unfold onH backH at *
    by_cases hk : k + 1 < l.sights.xs.length
    · rw [if_pos hk] at *; unfold upH downH sub meetS full at *
      have := hy k hk
      split <;> rename_i h0 <;> simp only [h0, if_true, if_false] at h ⊢ <;> omega
    · rw [if_neg hk] at *
      unfold sub full meetS at *; simp only; omega
  · intro s t h1 h2
    unfold sub at h2; omega
/-- Rounds are once forth and once back. -/
theorem rounds_through {R : Span → Prop} {on back : Nat → Span → Span} {l : List Span} (g : Gaps R on back) (hR : ∀ s ∈ l, R s) {m r : Nat} (hm : m + 1 = l.length) (hr : l.length ≤ r) :
    throughS on back l = if someS (roundsS on back m r l) = true then some (roundsS on back m r l) else none := by
  by_cases h : ∀ i, i < l.length → full (fN on l i)
  · obtain ⟨h1, h2⟩ := rounds_full g hR hm hr h
    rw [through_some h, if_pos ((allL_full _).2 h2), h1]
  · have h' : ∃ i, i < l.length ∧ ¬ full (fN on l i) := Classical.byContradiction fun hc => h fun i hi => Classical.byContradiction fun hn => hc ⟨i, hi, hn⟩
    rw [through_none h', if_neg (fun e => rounds_empty g hm (by omega) h' ((allL_full _).1 e))]
section
variable {l : Life} {c : List Int}
theorem thX_eq (hr : Right l) (hc : c.length + 1 = l.sights.xs.length) : thX l c = if someS (narX l c) = true then some (narX l c) else none :=
  rounds_through (gapsX hr c) (fun _ _ => trivial) (by simpa using hc) (by simp; omega)
theorem thY_eq (hr : Right l) (hc : c.length + 1 = l.sights.xs.length) : thY l c = if someS (narY l c) = true then some (narY l c) else none :=
  rounds_through (gapsX hr c) (fun _ _ => trivial) (by simpa using hc) (by simp; omega)
theorem thH_eq (hr : Right l) (hc : c.length + 1 = l.sights.xs.length) : thH l c = if someS (narH l c) = true then some (narH l c) else none :=
  rounds_through (gapsH hr c) (fun s hs => by obtain ⟨a, ha, rfl⟩ := List.mem_map.1 hs; have := hr.sp ha; omega) (by simpa using hc) (by simp; omega)
/-- What the program tells is what the specification tells. -/
theorem tell_can (hr : Right l) (hc : c.length + 1 = l.sights.xs.length) : tellS l c = if canS l c = true then some ⟨(narX l c).zipWith Box.mk (narY l c), narH l c, (lettersS l.sights.xs c).getD []⟩ else none := by
  unfold tellS canS
  rw [thX_eq hr hc, thY_eq hr hc, thH_eq hr hc]
  by_cases h0 : allL (fun m => notedS l.sights.xs m c) l.notes.xs = true
  · rw [if_pos h0, h0]
    by_cases h1 : someS (narX l c) = true <;> by_cases h2 : someS (narY l c) = true <;> by_cases h3 : someS (narH l c) = true <;> cases h4 : lettersS l.sights.xs c <;> simp [h1, h2, h3, h4]
  · rw [if_neg h0]
    simp at h0
    simp [h0]
theorem fit_can (hr : Right l) (hc : c.length + 1 = l.sights.xs.length) : fitP l c = canS l c := by
  unfold fitP
  rw [tell_can hr hc]
  split
  · rename_i h; simp [h]
  · rename_i h; simp at h; simp [h]
theorem byTo_congr {p q : List Int → Bool} {m : Nat} (h : ∀ j, p (toC m j) = q (toC m j)) : ∀ j, byTo p m j = byTo q m j
  | 0 => rfl
  | j + 1 => by rw [byTo, byTo, byTo_congr h j, h j]
theorem kindsTo_congr {p q : List Int → Bool} {m : Nat} (h : ∀ j, p (toC m j) = q (toC m j)) : ∀ j, kindsTo p m j = kindsTo q m j
  | 0 => rfl
  | j + 1 => by rw [kindsTo, kindsTo, kindsTo_congr h j, h j]
theorem courses_eq (hr : Right l) (j : Nat) : byTo (fitP l) (l.sights.xs.length - 1) j = byTo (canS l) (l.sights.xs.length - 1) j :=
  byTo_congr (fun j => fit_can hr (by rw [toC_length]; have := hr.one; omega)) j
theorem kinds_eq (hr : Right l) (j : Nat) : kindsTo (fitP l) (l.sights.xs.length - 1) j = kindsTo (canS l) (l.sights.xs.length - 1) j :=
  kindsTo_congr (fun j => fit_can hr (by rw [toC_length]; have := hr.one; omega)) j
end
end Go.Proofs.YtnomliioadjdgaaGreat.Vm

namespace Go.Proofs.YtnomliioadjdgaaGreat.Vm
open Go
set_option linter.unusedSimpArgs false
set_option linter.unusedVariables false
set_option maxHeartbeats 4000000

theorem goL_length : ∀ (r : List (Int × List UInt8)) (p : List UInt8) (m : Nat) (t : List (List UInt8)), goL p m r = some t → t.length = m + r.length
  | [], p, m, t, h => by simp [goL] at h; subst h; simp
  | (k, x) :: r, p, m, t, h => by
    rw [goL] at h
    split at h
    · rw [Option.map_eq_some_iff] at h
      obtain ⟨u, h1, rfl⟩ := h
      have := goL_length r _ _ _ h1
      simp; omega
    · split at h
      · have := goL_length r _ _ _ h
        simp; omega
      · simp at h
theorem letters_length {l : List Sight} {c : List Int} (hl : l.length ≤ 9) : ((lettersS l c).getD []).length < 1000 := by
  unfold lettersS startL
  split
  · cases h : goL l[0].letters 1 ((gapsL l c).drop 0) with
    | none => simp
    | some t =>
      have := goL_length _ _ _ _ h
      simp [gapsL, lets] at this ⊢
      omega
  · simp

@[simp] theorem vbin_neqS (d : EqK) (a b : List UInt8) : vbin .neq d (.pure (.str ⟨a.toArray⟩)) (.pure (.str ⟨b.toArray⟩)) = some (.pure (.bool (!decide (a = b)))) := by
  simp only [vbin, strBin, toList_mk, Option.map_some]
  congr 3
  by_cases h : a = b <;> simp [h]
theorem st_aggEq {cl : Callee} {env : Env} {H : Heap} {neg : Bool} {n : Nat} {os : List Nat} {x y : Opnd} : step cl env H (.aggEq neg n os x y) = if isAggV (x.eval env) = true ∧ isAggV (y.eval env) = true ∧ (x.eval env).cells.length = n ∧ (y.eval env).cells.length = n then
      match cellsEq (x.eval env).cells (y.eval env).cells os with
      | some b => some (.val (.pure (.bool (b != neg))))
      | none => none
    else none := rfl

theorem sh14 : G.shared 14 = false := by decide
theorem e14 (n : Nat) (a : Sl Box) (ha : a.xs.length < 1000) : callP G (n + 1) 14 [a.pv Box.cells 4, a.pv Box.cells 4] = some (.bool true) := by
  refine callP_of (ext_none _) rfl g14 rfl ?_
  (repeat' first | simp [*, initEnv, c14] | (refine wpIf_two (fun _ h => ?_) (fun _ h => ?_) <;> try simp [-Nat.le_zero_eq] at h))
  refine wp_loopF [(4, 5), (11, 25)] (fun (i : Nat) env H => env 5 = .pure (.int .i64 i) ∧ i ≤ a.xs.length) (fun i => a.xs.length - i) 0 ?_ ?_ ?_ ?_
  · decide
  · simp
  · simp only [loopFuel]; omega
  rintro i env H ⟨h5, hi⟩
  have hfit : i < 9223372036854775807 := by omega
  (repeat' first | simp [*, initEnv, st_aggEq, cellsEq, isAggV] | (refine wpIf_two (fun _ h => ?_) (fun _ h => ?_) <;> try simp [-Nat.le_zero_eq] at h))
  all_goals try exact ⟨i + 1, by omega, by simp, by omega⟩
@[simp] theorem d14 (n : Nat) (H : Heap) (a : Sl Box) (ha : a.xs.length < 1000) : doCall (calleeOf G (n + 1)) H (.pure (.func 14 [])) [.pure (a.pv Box.cells 4), .pure (a.pv Box.cells 4)] = some (.val (.pure (.bool true))) :=
  call_pureC (ps := [_, _]) (caps := []) sh14 (e14 n a ha)
-- left out: the program of this seat has no such function
theorem sh40 : G.shared 40 = false := by decide
theorem e40 (n : Nat) (a : Sl (List UInt8)) (ha : a.xs.length < 1000) : callP G (n + 1) 40 [a.pv strF 1, a.pv strF 1] = some (.bool true) := by
  refine callP_of (ext_none _) rfl g40 rfl ?_
  (repeat' first | simp [*, initEnv, c40] | (refine wpIf_two (fun _ h => ?_) (fun _ h => ?_) <;> try simp [-Nat.le_zero_eq] at h))
  refine wp_loopF [(4, 5), (11, 25)] (fun (i : Nat) env H => env 5 = .pure (.int .i64 i) ∧ i ≤ a.xs.length) (fun i => a.xs.length - i) 0 ?_ ?_ ?_ ?_
  · decide
  · simp
  · simp only [loopFuel]; omega
  rintro i env H ⟨h5, hi⟩
  have hfit : i < 9223372036854775807 := by omega
  (repeat' first | simp [*, initEnv, st_aggEq, cellsEq, isAggV] | (refine wpIf_two (fun _ h => ?_) (fun _ h => ?_) <;> try simp [-Nat.le_zero_eq] at h))
  all_goals try exact ⟨i + 1, by omega, by simp, by omega⟩
@[simp] theorem d40 (n : Nat) (H : Heap) (a : Sl (List UInt8)) (ha : a.xs.length < 1000) : doCall (calleeOf G (n + 1)) H (.pure (.func 40 [])) [.pure (a.pv strF 1), .pure (a.pv strF 1)] = some (.val (.pure (.bool true))) :=
  call_pureC (ps := [_, _]) (caps := []) sh40 (e40 n a ha)
theorem sh36 : G.shared 36 = false := by decide
theorem e36 (n : Nat) (a : Sl Int) (ha : a.xs.length < 1000) : callP G (n + 1) 36 [a.pv intF 1, a.pv intF 1] = some (.bool true) := by
  refine callP_of (ext_none _) rfl g36 rfl ?_
  (repeat' first | simp [*, initEnv, c36] | (refine wpIf_two (fun _ h => ?_) (fun _ h => ?_) <;> try simp [-Nat.le_zero_eq] at h))
  refine wp_loopF [(4, 5), (11, 25)] (fun (i : Nat) env H => env 5 = .pure (.int .i64 i) ∧ i ≤ a.xs.length) (fun i => a.xs.length - i) 0 ?_ ?_ ?_ ?_
  · decide
  · simp
  · simp only [loopFuel]; omega
  rintro i env H ⟨h5, hi⟩
  have hfit : i < 9223372036854775807 := by omega
  (repeat' first | simp [*, initEnv, st_aggEq, cellsEq, isAggV] | (refine wpIf_two (fun _ h => ?_) (fun _ h => ?_) <;> try simp [-Nat.le_zero_eq] at h))
  all_goals try exact ⟨i + 1, by omega, by simp, by omega⟩
@[simp] theorem d36 (n : Nat) (H : Heap) (a : Sl Int) (ha : a.xs.length < 1000) : doCall (calleeOf G (n + 1)) H (.pure (.func 36 [])) [.pure (a.pv intF 1), .pure (a.pv intF 1)] = some (.val (.pure (.bool true))) :=
  call_pureC (ps := [_, _]) (caps := []) sh36 (e36 n a ha)

/-! ### Few sights -/
def fewS (l : Life) : Bool := if 9 < l.sights.xs.length ∨ 20 < l.notes.xs.length then true else allL (fun s => decide (s.letters.length ≤ 20)) l.sights.xs && decide (l.sights.xs.length ≤ 6)
theorem few_short {l : Life} (h : fewS l = true) : shortS l := by
  unfold fewS at h
  intro h1 h2 s hs
  rw [if_neg (by omega)] at h
  simp only [Bool.and_eq_true] at h
  simpa using allL_iff.1 h.1 s hs
theorem sh8 : G.shared 8 = false := by decide
theorem e8 (n : Nat) (l : Life) : callP G (n + 1) 8 [.agg l.cells] = some (.bool (fewS l)) := by
  refine callP_of (ext_none _) rfl g8 rfl ?_
  (repeat' first | simp [*, initEnv, c8] | (refine wpIf_two (fun _ h => ?_) (fun _ h => ?_) <;> try simp [-Nat.le_zero_eq] at h))
  all_goals try (rw [fewS, if_pos (by omega)]; done)
  have hP : Hide (fewS l = (allL (fun s => decide (s.letters.length ≤ 20)) l.sights.xs && decide (l.sights.xs.length ≤ 6))) := ⟨by rw [fewS, if_neg (by omega)]⟩
  generalize fewS l = P at *
  refine wp_loopF [(2, 3), (14, 28)] (fun (i : Nat) env H => env 3 = .pure (.int .i64 i) ∧ i ≤ l.sights.xs.length ∧ Hide (allL (fun s => decide (s.letters.length ≤ 20)) l.sights.xs = allL (fun s => decide (s.letters.length ≤ 20)) (l.sights.xs.drop i))) (fun i => l.sights.xs.length - i) 0 ?_ ?_ ?_ ?_
  · decide
  · simp
  · simp only [loopFuel]; omega
  rintro i env H ⟨h3, hi, hn⟩
  have hfit : i < 9223372036854775807 := by omega
  (repeat' first | simp [*, initEnv] | (refine wpIf_two (fun _ h => ?_) (fun _ h => ?_) <;> try simp [-Nat.le_zero_eq] at h))
  · have hlt : i < l.sights.xs.length := by assumption
    have hf : decide (l.sights.xs[i].letters.length ≤ 20) = false := by simp; omega
    rw [hP.h, hn.h, allL_drop hlt, hf]; rfl
  · have hlt : i < l.sights.xs.length := by assumption
    have hf : decide (l.sights.xs[i].letters.length ≤ 20) = true := by simp; omega
    exact ⟨i + 1, by omega, by simp, by omega, ⟨by rw [hn.h, allL_drop hlt, hf]; rfl⟩⟩
  rw [hP.h, hn.h, allL_end (by omega)]; simp; omega
@[simp] theorem d8 (n : Nat) (H : Heap) (l_habit_step : Int) (l_habit_place : Int) (l_habit_sink : Int) (l_sights : Sl Sight) (l_notes : Sl Note) : doCall (calleeOf G (n + 1)) H (.pure (.func 8 [])) [.pure (.agg [.int .i64 l_habit_step, .int .i64 l_habit_place, .int .i64 l_habit_sink, (l_sights).pv Sight.cells 9, (l_notes).pv Note.cells 4])] = some (.val (.pure ((fun (l : Life) => .bool (fewS l)) (⟨⟨l_habit_step, l_habit_place, l_habit_sink⟩, l_sights, l_notes⟩ : Life)))) :=
  call_pureC (ps := [_]) (caps := []) sh8 (e8 n (⟨⟨l_habit_step, l_habit_place, l_habit_sink⟩, l_sights, l_notes⟩ : Life))
end Go.Proofs.YtnomliioadjdgaaGreat.Vm

namespace Go.Proofs.YtnomliioadjdgaaGreat.Vm
open Go
set_option linter.unusedSimpArgs false
set_option linter.unusedVariables false
set_option maxHeartbeats 4000000

structure Pt where
  x : Int
  y : Int
  deriving Inhabited
@[simp] def Pt.cells (s : Pt) : List PV := [.int .i64 s.x, .int .i64 s.y]
@[simp] theorem Pt.eta (s : Pt) : (⟨s.x, s.y⟩ : Pt) = s := rfl
@[simp] theorem asF_Pt (x0 : Int) (x1 : Int) (P : Pt → Prop) {u} : asF Pt.cells [.pure (.int .i64 x0), .pure (.int .i64 x1)] P u ↔ P ⟨x0, x1⟩ := by
  constructor
  · rintro ⟨a, h, hp⟩
    simp [Pt.cells] at h
    obtain ⟨rfl, rfl⟩ := h
    exact hp
  · intro h; exact ⟨_, rfl, h⟩
@[simp] theorem putIn_Pt {l : List Pt} {i : Nat} (x0 : Int) (x1 : Int) (h : i < l.length) : putIn (.cells true (rowOf Pt.cells l)) 2 (i * 2) [.pure (.int .i64 x0), .pure (.int .i64 x1)] = some (.cells true (rowOf Pt.cells (l.set i ⟨x0, x1⟩))) := putIn_rowG (f := Pt.cells) (a := ⟨x0, x1⟩) (fun _ => rfl) (fun _ => by first | rfl | simp) (by decide) h
structure Lived where
  points : Sl Pt
  letters : Sl (List UInt8)
  heights : Sl Int
  course : Sl Int
  deriving Inhabited
@[simp] def Lived.cells (s : Lived) : List PV := [(s.points).pv Pt.cells 2, (s.letters).pv strF 1, (s.heights).pv intF 1, (s.course).pv intF 1]
@[simp] theorem Lived.eta (s : Lived) : (⟨s.points, s.letters, s.heights, s.course⟩ : Lived) = s := rfl
@[simp] theorem putIn_Lived {l : List Lived} {i : Nat} (x0 : Sl Pt) (x1 : Sl (List UInt8)) (x2 : Sl Int) (x3 : Sl Int) (h : i < l.length) : putIn (.cells true (rowOf Lived.cells l)) 4 (i * 4) [.pure ((x0).pv Pt.cells 2), .pure ((x1).pv strF 1), .pure ((x2).pv intF 1), .pure ((x3).pv intF 1)] = some (.cells true (rowOf Lived.cells (l.set i ⟨x0, x1, x2, x3⟩))) := putIn_rowG (f := Lived.cells) (a := ⟨x0, x1, x2, x3⟩) (fun _ => rfl) (fun _ => by first | rfl | simp) (by decide) h

def inBox (b : Box) (p : Pt) : Bool := properS b && (decide (b.x.lo ≤ p.x) && decide (p.x ≤ b.x.hi)) && (decide (b.y.lo ≤ p.y) && decide (p.y ≤ b.y.hi))
theorem sh28 : G.shared 28 = false := by decide
theorem e28 (n : Nat) (b : Box) (p : Pt) : callP G (n + 4) 28 [.agg b.cells, .agg p.cells] = some (.bool (inBox b p)) := by
  refine callP_of (ext_none _) rfl g28 rfl ?_
  (repeat' first | simp [*, initEnv, c28, Box.cells, Pt.cells, inBox] | (refine wpIf_two (fun _ h => ?_) (fun _ h => ?_) <;> try simp [-Nat.le_zero_eq] at h))
@[simp] theorem d28 (n : Nat) (H : Heap) (b_x_lo : Int) (b_x_hi : Int) (b_y_lo : Int) (b_y_hi : Int) (p_x : Int) (p_y : Int) : doCall (calleeOf G (n + 4)) H (.pure (.func 28 [])) [.pure (.agg [.int .i64 b_x_lo, .int .i64 b_x_hi, .int .i64 b_y_lo, .int .i64 b_y_hi]), .pure (.agg [.int .i64 p_x, .int .i64 p_y])] = some (.val (.pure ((fun (b : Box) => (fun (p : Pt) => .bool (inBox b p)) (⟨p_x, p_y⟩ : Pt)) (⟨⟨b_x_lo, b_x_hi⟩, ⟨b_y_lo, b_y_hi⟩⟩ : Box)))) :=
  call_pureC (ps := [_, _]) (caps := []) sh28 (e28 n (⟨⟨b_x_lo, b_x_hi⟩, ⟨b_y_lo, b_y_hi⟩⟩ : Box) (⟨p_x, p_y⟩ : Pt))
theorem sh55 : G.shared 55 = false := by decide
theorem e55 (n : Nat) (b : Box) (p : Pt) : callP G (n + 4) 55 [.agg b.cells, .agg p.cells] = some (.bool (inBox b p)) := by
  refine callP_of (ext_none _) rfl g55 rfl ?_
  have hp := spanS_valid b
  (repeat' first | simp [*, initEnv, c55, Box.cells, Pt.cells, inBox] | (refine wpIf_two (fun _ h => ?_) (fun _ h => ?_) <;> try simp [-Nat.le_zero_eq] at h))
@[simp] theorem d55 (n : Nat) (H : Heap) (b_x_lo : Int) (b_x_hi : Int) (b_y_lo : Int) (b_y_hi : Int) (p_x : Int) (p_y : Int) : doCall (calleeOf G (n + 4)) H (.pure (.func 55 [])) [.pure (.agg [.int .i64 b_x_lo, .int .i64 b_x_hi, .int .i64 b_y_lo, .int .i64 b_y_hi]), .pure (.agg [.int .i64 p_x, .int .i64 p_y])] = some (.val (.pure ((fun (b : Box) => (fun (p : Pt) => .bool (inBox b p)) (⟨p_x, p_y⟩ : Pt)) (⟨⟨b_x_lo, b_x_hi⟩, ⟨b_y_lo, b_y_hi⟩⟩ : Box)))) :=
  call_pureC (ps := [_, _]) (caps := []) sh55 (e55 n (⟨⟨b_x_lo, b_x_hi⟩, ⟨b_y_lo, b_y_hi⟩⟩ : Box) (⟨p_x, p_y⟩ : Pt))
def ptEq (v w : AV) : Option Eff := if isAggV v = true ∧ isAggV w = true ∧ v.cells.length = 2 ∧ w.cells.length = 2 then
      match cellsEq v.cells w.cells [0, 1] with
      | some b => some (.val (.pure (.bool (b != false))))
      | none => none
    else none
@[simp] theorem ptEq_pt (a b c d : Int) : ptEq (.pure (.agg [.int .i64 a, .int .i64 b])) (.pure (.agg [.int .i64 c, .int .i64 d])) = some (.val (.pure (.bool (decide (a = c) && decide (b = d))))) := by
  unfold ptEq
  rw [if_pos ⟨rfl, rfl, rfl, rfl⟩]
  by_cases h1 : a = c <;> by_cases h2 : b = d <;> simp [cellsEq, h1, h2]
theorem st_ptEq {cl : Callee} {env : Env} {H : Heap} (x y : Opnd) : step cl env H (.aggEq false 2 [0, 1] x y) = ptEq (x.eval env) (y.eval env) := rfl
def nearS (p q : Pt) (d : Int) : Bool := (decide (-d ≤ p.x - q.x) && decide (p.x - q.x ≤ d)) && (decide (-d ≤ p.y - q.y) && decide (p.y - q.y ≤ d))
def okPt (p : Pt) : Prop := -1048576 ≤ p.x ∧ p.x ≤ 1048576 ∧ -1048576 ≤ p.y ∧ p.y ≤ 1048576
theorem sh98 : G.shared 98 = false := by decide
theorem e98 (n : Nat) (p q : Pt) (d : Int) (hp : okPt p) (hq : okPt q) (hd : 0 ≤ d ∧ d ≤ 1000000) : callP G (n + 2) 98 [.agg p.cells, .agg q.cells, .int .i64 d] = some (.bool (nearS p q d)) := by
  refine callP_of (ext_none _) rfl g98 rfl ?_
  unfold okPt at hp hq
  have w1 : IntKind.i64.wrap (p.x - q.x) = p.x - q.x := wrap64 (by omega) (by omega)
  have w2 : IntKind.i64.wrap (p.y - q.y) = p.y - q.y := wrap64 (by omega) (by omega)
  have w3 : IntKind.i64.wrap (0 - d) = -d := by rw [wrap64 (by omega) (by omega)]; omega
  have w4 : IntKind.i64.wrap (-d) = -d := wrap64 (by omega) (by omega)
  (repeat' first | simp [*, initEnv, c98, Pt.cells, nearS] | (refine wpIf_two (fun _ h => ?_) (fun _ h => ?_) <;> try simp [-Nat.le_zero_eq] at h))
@[simp] theorem d98 (n : Nat) (H : Heap) (p_x : Int) (p_y : Int) (q_x : Int) (q_y : Int) (d : Int) (hp : (fun (p : Pt) => okPt p) (⟨p_x, p_y⟩ : Pt)) (hq : (fun (q : Pt) => okPt q) (⟨q_x, q_y⟩ : Pt)) (hd : 0 ≤ d ∧ d ≤ 1000000) : doCall (calleeOf G (n + 2)) H (.pure (.func 98 [])) [.pure (.agg [.int .i64 p_x, .int .i64 p_y]), .pure (.agg [.int .i64 q_x, .int .i64 q_y]), .pure (.int .i64 d)] = some (.val (.pure ((fun (p : Pt) => (fun (q : Pt) => .bool (nearS p q d)) (⟨q_x, q_y⟩ : Pt)) (⟨p_x, p_y⟩ : Pt)))) :=
  call_pureC (ps := [_, _, _]) (caps := []) sh98 (e98 n (⟨p_x, p_y⟩ : Pt) (⟨q_x, q_y⟩ : Pt) d hp hq hd)
/-- Is what was so in the gap from a to b? -/
def gapP (h : Habit) (c : Int) (p q : Pt) (s t : List UInt8) (a b yr : Int) : Bool :=
  if c = 0 then (decide (p.x = q.x) && decide (p.y = q.y)) && decide (s = t) && (decide (0 ≤ a - b) && decide (a - b ≤ h.sink * yr)) else (decide (c = 2) || decide (s = t)) && nearS p q (farD h c)
structure Sized (l : Life) (x : Lived) : Prop where
  points : x.points.xs.length = l.sights.xs.length
  letters : x.letters.xs.length = l.sights.xs.length
  heights : x.heights.xs.length = l.sights.xs.length
  course : x.course.xs.length + 1 = l.sights.xs.length
  kinds : ∀ c ∈ x.course.xs, 0 ≤ c ∧ c ≤ 2
def gapS (l : Life) (x : Lived) (k : Nat) : Bool := gapP l.habit x.course.xs[k-1]! x.points.xs[k-1]! x.points.xs[k]! x.letters.xs[k-1]! x.letters.xs[k]! x.heights.xs[k-1]! x.heights.xs[k]! (l.sights.xs[k]!.year - l.sights.xs[k-1]!.year)
def okR (x : Lived) (k : Nat) : Prop := okPt x.points.xs[k]! ∧ 0 ≤ x.heights.xs[k]! ∧ x.heights.xs[k]! ≤ 100
theorem sh52 : G.shared 52 = false := by decide
theorem e52 (n : Nat) (l : Life) (x : Lived) (k : Nat) (hr : Right l) (hz : Sized l x) (h0 : 0 < k) (hk : k < l.sights.xs.length) (ha : okR x (k - 1)) (hb : okR x k) : callP G (n + 3) 52 [.agg l.cells, .agg x.cells, .int .i64 k] = some (.bool (gapS l x k)) := by
  refine callP_of (ext_none _) rfl g52 rfl ?_
  have h9 := hr.nine
  have hk1 : k - 1 < l.sights.xs.length := by omega
  have hfit : k < 9223372036854775807 := by omega
  have hw : IntKind.i64.wrap ((k : Int) - 1) = ((k - 1 : Nat) : Int) := wrap_pred h0 hfit
  have a1 := addrV_sl (f := Pt.cells) (sz := 2) (k := .i64) (s := x.points) (n := k - 1) (by rw [hz.points]; exact hk1)
  have a2 := addrV_sl (f := Pt.cells) (sz := 2) (k := .i64) (s := x.points) (n := k) (by rw [hz.points]; exact hk)
  have a3 := addrV_sl (f := strF) (sz := 1) (k := .i64) (s := x.letters) (n := k - 1) (by rw [hz.letters]; exact hk1)
  have a4 := addrV_sl (f := strF) (sz := 1) (k := .i64) (s := x.letters) (n := k) (by rw [hz.letters]; exact hk)
  have a5 := addrV_sl (f := intF) (sz := 1) (k := .i64) (s := x.heights) (n := k - 1) (by rw [hz.heights]; exact hk1)
  have a6 := addrV_sl (f := intF) (sz := 1) (k := .i64) (s := x.heights) (n := k) (by rw [hz.heights]; exact hk)
  have a7 := addrV_sl (f := intF) (sz := 1) (k := .i64) (s := x.course) (n := k - 1) (by have := hz.course; omega)
  have a8 := addrV_sl (f := Sight.cells) (sz := 9) (k := .i64) (s := l.sights) (n := k - 1) hk1
  have a9 := addrV_sl (f := Sight.cells) (sz := 9) (k := .i64) (s := l.sights) (n := k) hk
  have hc := hz.kinds _ (List.getElem_mem (l := x.course.xs) (n := k - 1) (by have := hz.course; omega))
  have hy := hr.yr (k := k - 1) (by omega)
  have hP : gapS l x k = gapP l.habit (x.course.xs[k-1]'(by have := hz.course; omega)) (x.points.xs[k-1]'(by rw [hz.points]; exact hk1)) (x.points.xs[k]'(by rw [hz.points]; exact hk)) (x.letters.xs[k-1]'(by rw [hz.letters]; exact hk1)) (x.letters.xs[k]'(by rw [hz.letters]; exact hk)) (x.heights.xs[k-1]'(by rw [hz.heights]; exact hk1)) (x.heights.xs[k]'(by rw [hz.heights]; exact hk)) ((l.sights.xs[k]'hk).year - (l.sights.xs[k-1]'hk1).year) := by
    unfold gapS
    rw [getElem!_pos x.course.xs (k-1) (by have := hz.course; omega), getElem!_pos x.points.xs (k-1) (by rw [hz.points]; exact hk1), getElem!_pos x.points.xs k (by rw [hz.points]; exact hk), getElem!_pos x.letters.xs (k-1) (by rw [hz.letters]; exact hk1), getElem!_pos x.letters.xs k (by rw [hz.letters]; exact hk), getElem!_pos x.heights.xs (k-1) (by rw [hz.heights]; exact hk1), getElem!_pos x.heights.xs k (by rw [hz.heights]; exact hk), getElem!_pos l.sights.xs k hk, getElem!_pos l.sights.xs (k-1) hk1]
  rw [hP]
  unfold okR at ha hb
  rw [getElem!_pos x.points.xs (k-1) (by rw [hz.points]; exact hk1), getElem!_pos x.heights.xs (k-1) (by rw [hz.heights]; exact hk1)] at ha
  rw [getElem!_pos x.points.xs k (by rw [hz.points]; exact hk), getElem!_pos x.heights.xs k (by rw [hz.heights]; exact hk)] at hb
  simp only [show k - 1 + 1 = k by omega] at hy
  generalize x.points.xs[k-1]'(by rw [hz.points]; exact hk1) = p at *
  generalize x.points.xs[k]'(by rw [hz.points]; exact hk) = q at *
  generalize x.letters.xs[k-1]'(by rw [hz.letters]; exact hk1) = s at *
  generalize x.letters.xs[k]'(by rw [hz.letters]; exact hk) = t at *
  generalize x.heights.xs[k-1]'(by rw [hz.heights]; exact hk1) = a at *
  generalize x.heights.xs[k]'(by rw [hz.heights]; exact hk) = b at *
  generalize x.course.xs[k-1]'(by have := hz.course; omega) = c at *
  generalize l.sights.xs[k-1]'hk1 = y1 at *
  generalize l.sights.xs[k]'hk = y2 at *
  have hh := hr.habit
  have hsk := sink_le hh hy
  have hfr := fun k => far_le (k := k) hh
  have hst := hfr 1
  have hpl := hfr 2
  simp only [farD] at hst hpl
  have w1 : IntKind.i64.wrap (y2.year - y1.year) = y2.year - y1.year := wrap64 (by omega) (by omega)
  have w2 : IntKind.i64.wrap (l.habit.sink * (y2.year - y1.year)) = l.habit.sink * (y2.year - y1.year) := wrap64 (by omega) (by omega)
  have w3 : IntKind.i64.wrap (a - b) = a - b := wrap64 (by omega) (by omega)
  have hn1 : ∀ H, doCall (calleeOf G (n + 2)) H (.pure (.func 98 [])) [.pure (.agg p.cells), .pure (.agg q.cells), .pure (.int .i64 l.habit.step)] = some (.val (.pure (.bool (nearS p q l.habit.step)))) := fun H => d98 n H p.x p.y q.x q.y l.habit.step ha.1 hb.1 (by simpa using hst)
  have hn2 : ∀ H, doCall (calleeOf G (n + 2)) H (.pure (.func 98 [])) [.pure (.agg p.cells), .pure (.agg q.cells), .pure (.int .i64 l.habit.place)] = some (.val (.pure (.bool (nearS p q l.habit.place)))) := fun H => d98 n H p.x p.y q.x q.y l.habit.place ha.1 hb.1 (by simpa using hpl)
  simp only [Pt.cells] at hn1 hn2 a1 a2
  simp only [Sight.cells] at a8 a9
  have hc3 : c = 0 ∨ c = 1 ∨ c = 2 := by omega
  clear hP ha hb hy hr hz hfr hst hpl hc hsk hh
  rcases hc3 with rfl | rfl | rfl
  all_goals (repeat' first | simp [*, initEnv, c52, gapP, farD, st_ptEq] | (refine wpIf_two (fun _ h => ?_) (fun _ h => ?_) <;> try simp [-Nat.le_zero_eq] at h))
@[simp] theorem d52 (n : Nat) (H : Heap) (l_habit_step : Int) (l_habit_place : Int) (l_habit_sink : Int) (l_sights : Sl Sight) (l_notes : Sl Note) (x_points : Sl Pt) (x_letters : Sl (List UInt8)) (x_heights : Sl Int) (x_course : Sl Int) (k : Nat) (hr : (fun (l : Life) => Right l) (⟨⟨l_habit_step, l_habit_place, l_habit_sink⟩, l_sights, l_notes⟩ : Life)) (hz : (fun (x : Lived) => (fun (l : Life) => Sized l x) (⟨⟨l_habit_step, l_habit_place, l_habit_sink⟩, l_sights, l_notes⟩ : Life)) (⟨x_points, x_letters, x_heights, x_course⟩ : Lived)) (h0 : 0 < k) (hk : (fun (l : Life) => k < l.sights.xs.length) (⟨⟨l_habit_step, l_habit_place, l_habit_sink⟩, l_sights, l_notes⟩ : Life)) (ha : (fun (x : Lived) => okR x (k - 1)) (⟨x_points, x_letters, x_heights, x_course⟩ : Lived)) (hb : (fun (x : Lived) => okR x k) (⟨x_points, x_letters, x_heights, x_course⟩ : Lived)) : doCall (calleeOf G (n + 3)) H (.pure (.func 52 [])) [.pure (.agg [.int .i64 l_habit_step, .int .i64 l_habit_place, .int .i64 l_habit_sink, (l_sights).pv Sight.cells 9, (l_notes).pv Note.cells 4]), .pure (.agg [(x_points).pv Pt.cells 2, (x_letters).pv strF 1, (x_heights).pv intF 1, (x_course).pv intF 1]), .pure (.int .i64 k)] = some (.val (.pure ((fun (l : Life) => (fun (x : Lived) => .bool (gapS l x k)) (⟨x_points, x_letters, x_heights, x_course⟩ : Lived)) (⟨⟨l_habit_step, l_habit_place, l_habit_sink⟩, l_sights, l_notes⟩ : Life)))) :=
  call_pureC (ps := [_, _, _]) (caps := []) sh52 (e52 n (⟨⟨l_habit_step, l_habit_place, l_habit_sink⟩, l_sights, l_notes⟩ : Life) (⟨x_points, x_letters, x_heights, x_course⟩ : Lived) k hr hz h0 hk ha hb)
theorem sh58 : G.shared 58 = false := by decide
theorem e58 (n : Nat) (l : Life) (x : Lived) (k : Nat) (hr : Right l) (hz : Sized l x) (h0 : 0 < k) (hk : k < l.sights.xs.length) (ha : okR x (k - 1)) (hb : okR x k) : callP G (n + 3) 58 [.agg l.cells, .agg x.cells, .int .i64 k] = some (.bool (gapS l x k)) := by
  refine callP_of (ext_none _) rfl g58 rfl ?_
  have h9 := hr.nine
  have hk1 : k - 1 < l.sights.xs.length := by omega
  have hfit : k < 9223372036854775807 := by omega
  have hw : IntKind.i64.wrap ((k : Int) - 1) = ((k - 1 : Nat) : Int) := wrap_pred h0 hfit
  have a1 := addrV_sl (f := Pt.cells) (sz := 2) (k := .i64) (s := x.points) (n := k - 1) (by rw [hz.points]; exact hk1)
  have a2 := addrV_sl (f := Pt.cells) (sz := 2) (k := .i64) (s := x.points) (n := k) (by rw [hz.points]; exact hk)
  have a3 := addrV_sl (f := strF) (sz := 1) (k := .i64) (s := x.letters) (n := k - 1) (by rw [hz.letters]; exact hk1)
  have a4 := addrV_sl (f := strF) (sz := 1) (k := .i64) (s := x.letters) (n := k) (by rw [hz.letters]; exact hk)
  have a5 := addrV_sl (f := intF) (sz := 1) (k := .i64) (s := x.heights) (n := k - 1) (by rw [hz.heights]; exact hk1)
  have a6 := addrV_sl (f := intF) (sz := 1) (k := .i64) (s := x.heights) (n := k) (by rw [hz.heights]; exact hk)
  have a7 := addrV_sl (f := intF) (sz := 1) (k := .i64) (s := x.course) (n := k - 1) (by have := hz.course; omega)
  have a8 := addrV_sl (f := Sight.cells) (sz := 9) (k := .i64) (s := l.sights) (n := k - 1) hk1
  have a9 := addrV_sl (f := Sight.cells) (sz := 9) (k := .i64) (s := l.sights) (n := k) hk
  have hc := hz.kinds _ (List.getElem_mem (l := x.course.xs) (n := k - 1) (by have := hz.course; omega))
  have hy := hr.yr (k := k - 1) (by omega)
  have hP : gapS l x k = gapP l.habit (x.course.xs[k-1]'(by have := hz.course; omega)) (x.points.xs[k-1]'(by rw [hz.points]; exact hk1)) (x.points.xs[k]'(by rw [hz.points]; exact hk)) (x.letters.xs[k-1]'(by rw [hz.letters]; exact hk1)) (x.letters.xs[k]'(by rw [hz.letters]; exact hk)) (x.heights.xs[k-1]'(by rw [hz.heights]; exact hk1)) (x.heights.xs[k]'(by rw [hz.heights]; exact hk)) ((l.sights.xs[k]'hk).year - (l.sights.xs[k-1]'hk1).year) := by
    unfold gapS
    rw [getElem!_pos x.course.xs (k-1) (by have := hz.course; omega), getElem!_pos x.points.xs (k-1) (by rw [hz.points]; exact hk1), getElem!_pos x.points.xs k (by rw [hz.points]; exact hk), getElem!_pos x.letters.xs (k-1) (by rw [hz.letters]; exact hk1), getElem!_pos x.letters.xs k (by rw [hz.letters]; exact hk), getElem!_pos x.heights.xs (k-1) (by rw [hz.heights]; exact hk1), getElem!_pos x.heights.xs k (by rw [hz.heights]; exact hk), getElem!_pos l.sights.xs k hk, getElem!_pos l.sights.xs (k-1) hk1]
  rw [hP]
  unfold okR at ha hb
  rw [getElem!_pos x.points.xs (k-1) (by rw [hz.points]; exact hk1), getElem!_pos x.heights.xs (k-1) (by rw [hz.heights]; exact hk1)] at ha
  rw [getElem!_pos x.points.xs k (by rw [hz.points]; exact hk), getElem!_pos x.heights.xs k (by rw [hz.heights]; exact hk)] at hb
  simp only [show k - 1 + 1 = k by omega] at hy
  generalize x.points.xs[k-1]'(by rw [hz.points]; exact hk1) = p at *
  generalize x.points.xs[k]'(by rw [hz.points]; exact hk) = q at *
  generalize x.letters.xs[k-1]'(by rw [hz.letters]; exact hk1) = s at *
  generalize x.letters.xs[k]'(by rw [hz.letters]; exact hk) = t at *
  generalize x.heights.xs[k-1]'(by rw [hz.heights]; exact hk1) = a at *
  generalize x.heights.xs[k]'(by rw [hz.heights]; exact hk) = b at *
  generalize x.course.xs[k-1]'(by have := hz.course; omega) = c at *
  generalize l.sights.xs[k-1]'hk1 = y1 at *
  generalize l.sights.xs[k]'hk = y2 at *
  have hh := hr.habit
  have hsk := sink_le hh hy
  have hfr := fun k => far_le (k := k) hh
  have hst := hfr 1
  have hpl := hfr 2
  simp only [farD] at hst hpl
  have w1 : IntKind.i64.wrap (y2.year - y1.year) = y2.year - y1.year := wrap64 (by omega) (by omega)
  have w2 : IntKind.i64.wrap (l.habit.sink * (y2.year - y1.year)) = l.habit.sink * (y2.year - y1.year) := wrap64 (by omega) (by omega)
  have w3 : IntKind.i64.wrap (a - b) = a - b := wrap64 (by omega) (by omega)
  simp only [Pt.cells] at a1 a2
  simp only [Sight.cells] at a8 a9
  have hc3 : c = 0 ∨ c = 1 ∨ c = 2 := by omega
  unfold okPt at ha hb
  have v1 : IntKind.i64.wrap (p.x - q.x) = p.x - q.x := wrap64 (by omega) (by omega)
  have v2 : IntKind.i64.wrap (q.x - p.x) = q.x - p.x := wrap64 (by omega) (by omega)
  have v3 : IntKind.i64.wrap (p.y - q.y) = p.y - q.y := wrap64 (by omega) (by omega)
  have v4 : IntKind.i64.wrap (q.y - p.y) = q.y - p.y := wrap64 (by omega) (by omega)
  have v5 : IntKind.i64.wrap (a - l.habit.sink * (y2.year - y1.year)) = a - l.habit.sink * (y2.year - y1.year) := wrap64 (by omega) (by omega)
  clear hP ha hb hy hr hz hfr hst hpl hc hsk hh
  rcases hc3 with rfl | rfl | rfl
  all_goals (repeat' first | simp [*, initEnv, c58, gapP, nearS, farD, st_ptEq] | (refine wpIf_two (fun _ h => ?_) (fun _ h => ?_) <;> try simp [-Nat.le_zero_eq] at h))
  all_goals first | omega | (intros; omega) | (intros; constructor <;> omega)
@[simp] theorem d58 (n : Nat) (H : Heap) (l_habit_step : Int) (l_habit_place : Int) (l_habit_sink : Int) (l_sights : Sl Sight) (l_notes : Sl Note) (x_points : Sl Pt) (x_letters : Sl (List UInt8)) (x_heights : Sl Int) (x_course : Sl Int) (k : Nat) (hr : (fun (l : Life) => Right l) (⟨⟨l_habit_step, l_habit_place, l_habit_sink⟩, l_sights, l_notes⟩ : Life)) (hz : (fun (x : Lived) => (fun (l : Life) => Sized l x) (⟨⟨l_habit_step, l_habit_place, l_habit_sink⟩, l_sights, l_notes⟩ : Life)) (⟨x_points, x_letters, x_heights, x_course⟩ : Lived)) (h0 : 0 < k) (hk : (fun (l : Life) => k < l.sights.xs.length) (⟨⟨l_habit_step, l_habit_place, l_habit_sink⟩, l_sights, l_notes⟩ : Life)) (ha : (fun (x : Lived) => okR x (k - 1)) (⟨x_points, x_letters, x_heights, x_course⟩ : Lived)) (hb : (fun (x : Lived) => okR x k) (⟨x_points, x_letters, x_heights, x_course⟩ : Lived)) : doCall (calleeOf G (n + 3)) H (.pure (.func 58 [])) [.pure (.agg [.int .i64 l_habit_step, .int .i64 l_habit_place, .int .i64 l_habit_sink, (l_sights).pv Sight.cells 9, (l_notes).pv Note.cells 4]), .pure (.agg [(x_points).pv Pt.cells 2, (x_letters).pv strF 1, (x_heights).pv intF 1, (x_course).pv intF 1]), .pure (.int .i64 k)] = some (.val (.pure ((fun (l : Life) => (fun (x : Lived) => .bool (gapS l x k)) (⟨x_points, x_letters, x_heights, x_course⟩ : Lived)) (⟨⟨l_habit_step, l_habit_place, l_habit_sink⟩, l_sights, l_notes⟩ : Life)))) :=
  call_pureC (ps := [_, _, _]) (caps := []) sh58 (e58 n (⟨⟨l_habit_step, l_habit_place, l_habit_sink⟩, l_sights, l_notes⟩ : Life) (⟨x_points, x_letters, x_heights, x_course⟩ : Lived) k hr hz h0 hk ha hb)
end Go.Proofs.YtnomliioadjdgaaGreat.Vm

namespace Go.Proofs.YtnomliioadjdgaaGreat.Vm
open Go
set_option linter.unusedSimpArgs false
set_option linter.unusedVariables false
set_option maxHeartbeats 4000000

def seeA (s : Sight) (p : Pt) (t : List UInt8) (h : Int) : Bool := inBox s.box p && ((noDot t && agreeR t s.letters) && (decide (s.height.lo ≤ h) && decide (h ≤ s.height.hi)))
def seeS (l : Life) (x : Lived) (k : Nat) : Bool := seeA l.sights.xs[k]! x.points.xs[k]! x.letters.xs[k]! x.heights.xs[k]! && (decide (k = 0) || gapS l x k)
theorem seeS_at {l : Life} {x : Lived} {k : Nat} (h1 : k < l.sights.xs.length) (h2 : k < x.points.xs.length) (h3 : k < x.letters.xs.length) (h4 : k < x.heights.xs.length) :
    seeS l x k = (seeA l.sights.xs[k] x.points.xs[k] x.letters.xs[k] x.heights.xs[k] && (decide (k = 0) || gapS l x k)) := by
  unfold seeS
  rw [getElem!_pos l.sights.xs k h1, getElem!_pos x.points.xs k h2, getElem!_pos x.letters.xs k h3, getElem!_pos x.heights.xs k h4]
theorem find_drop {α : Type} {q : α → Bool} {l : List α} {i : Nat} (h : i < l.length) : (l.drop i).find? q = if q l[i] = true then some l[i] else (l.drop (i + 1)).find? q := by
  rw [List.drop_eq_getElem_cons h, List.find?_cons]
  cases q l[i] <;> rfl
theorem find_range {q : Nat → Bool} {n i : Nat} (h : i < n) : ((List.range n).drop i).find? q = if q i = true then some i else ((List.range n).drop (i + 1)).find? q := by
  rw [find_drop (by simpa using h)]
  simp
theorem find_end {α : Type} {q : α → Bool} {l : List α} {i : Nat} (h : l.length ≤ i) : (l.drop i).find? q = none := by
  rw [List.drop_eq_nil_of_le h]; rfl
def sizesS (l : Life) (x : Lived) : Prop := x.points.xs.length = l.sights.xs.length ∧ x.letters.xs.length = l.sights.xs.length ∧ x.heights.xs.length = l.sights.xs.length
instance (l : Life) (x : Lived) : Decidable (sizesS l x) := by unfold sizesS; infer_instance
def badSee (l : Life) (x : Lived) : Option Nat := (List.range l.sights.xs.length).find? fun k => !seeS l x k
def badNote (l : Life) (x : Lived) : Option Note := l.notes.xs.find? fun m => !notedS l.sights.xs m x.course.xs
def trueR (l : Life) (x : Lived) : Int × Bool × Int :=
  if givenS l x.course.xs ≠ 0 then (0, false, givenS l x.course.xs) else if sizesS l x then
    match badSee l x with
    | some k => (l.sights.xs[k]!.id, false, 0)
    | none => match badNote l x with
      | some m => (m.id, false, 0)
      | none => (0, true, 0)
  else (0, false, 1)
def trueP (r : Int × Bool × Int) : PV := .tup [.int .i64 r.1, .bool r.2.1, .int .i64 r.2.2]
def trueA (r : Int × Bool × Int) : PV := .agg [.int .i64 r.1, .bool r.2.1, .int .i64 r.2.2]
theorem okR_of {l : Life} {x : Lived} (hr : Right l) (hz : sizesS l x) {k : Nat} (hk : k < l.sights.xs.length) (h : seeS l x k = true) : okR x k := by
  have hp := hr.sp (List.getElem_mem (l := l.sights.xs) (n := k) hk)
  rw [seeS_at hk (by rw [hz.1]; exact hk) (by rw [hz.2.1]; exact hk) (by rw [hz.2.2]; exact hk)] at h
  unfold okR okPt
  rw [getElem!_pos x.points.xs k (by rw [hz.1]; exact hk), getElem!_pos x.heights.xs k (by rw [hz.2.2]; exact hk)]
  simp only [seeA, inBox, Bool.and_eq_true, decide_eq_true_eq] at h
  unfold okSp at hp
  omega
theorem okR_of' {l : Life} {x : Lived} (hr : Right l) (hz : sizesS l x) {k : Nat} (hk : k < l.sights.xs.length) (h1 : inBox l.sights.xs[k].box (x.points.xs[k]'(by rw [hz.1]; exact hk)) = true)
    (h2 : l.sights.xs[k].height.lo ≤ x.heights.xs[k]'(by rw [hz.2.2]; exact hk)) (h3 : x.heights.xs[k]'(by rw [hz.2.2]; exact hk) ≤ l.sights.xs[k].height.hi) : okR x k := by
  have hp := hr.sp (List.getElem_mem (l := l.sights.xs) (n := k) hk)
  unfold okR okPt
  rw [getElem!_pos x.points.xs k (by rw [hz.1]; exact hk), getElem!_pos x.heights.xs k (by rw [hz.2.2]; exact hk)]
  simp only [inBox, Bool.and_eq_true, decide_eq_true_eq] at h1
  unfold okSp at hp
  omega

theorem sh20 : G.shared 20 = false := by decide
theorem e20 (n : Nat) (l : Life) (x : Lived) (hs : shortS l) (hc : x.course.xs.length < 1000) : callP G (n + 7) 20 [.agg l.cells, .agg x.cells] = some (trueP (trueR l x)) := by
  refine callP_of (ext_none _) rfl g20 rfl ?_
  obtain ⟨P, hPe⟩ : ∃ P, P = trueP (trueR l x) := ⟨_, rfl⟩
  rw [← hPe]
  have hP : Hide _ := ⟨hPe⟩
  clear hPe
  have hgc : ∀ H, doCall (calleeOf G (n + 6)) H (.pure (.func 50 [])) [.pure (.agg l.cells), .pure (x.course.pv intF 1)] = some (.val (.pure (.int .i64 (givenS l x.course.xs)))) := fun H => d50 n H l.habit.step l.habit.place l.habit.sink l.sights l.notes x.course hs hc
  simp only [Life.cells] at hgc
  by_cases hg : givenS l x.course.xs = 0
  case neg =>
    have hP2 : P = .tup [.int .i64 0, .bool false, .int .i64 (givenS l x.course.xs)] := by rw [hP.h]; unfold trueR; rw [if_pos hg]; rfl
    clear hP
    (repeat' first | simp [*, initEnv, c20] | (refine wpIf_two (fun _ h => ?_) (fun _ h => ?_) <;> try simp [-Nat.le_zero_eq] at h))
  obtain ⟨hr, hcl, hck⟩ := given_zero hg
  by_cases hz : sizesS l x
  case neg =>
    have hP2 : P = .tup [.int .i64 0, .bool false, .int .i64 1] := by rw [hP.h]; unfold trueR; rw [if_neg (by simpa using hg), if_neg hz]; rfl
    clear hP
    rw [hg] at hgc
    have hz' : Hide (¬ sizesS l x) := ⟨hz⟩
    clear hz
    (repeat' first | simp [*, initEnv, c20] | (refine wpIf_two (fun _ h => ?_) (fun _ h => ?_) <;> try simp [-Nat.le_zero_eq] at h))
    all_goals
      exfalso
      exact hz'.h ⟨by omega, by omega, by omega⟩
  have hP2 : Hide (P = match badSee l x with
    | some k => trueP (l.sights.xs[k]!.id, false, 0)
    | none => match badNote l x with
      | some m => trueP (m.id, false, 0)
      | none => trueP (0, true, 0)) := ⟨by
        rw [hP.h]; unfold trueR; rw [if_neg (by simpa using hg), if_pos hz]
        cases badSee l x with
        | some k => rfl
        | none => cases badNote l x <;> rfl⟩
  rw [hg] at hgc
  have hr' : Hide (Right l) := ⟨hr⟩
  have hz' : Hide (sizesS l x) := ⟨hz⟩
  have hck' : Hide (∀ k ∈ x.course.xs, 0 ≤ k ∧ k ≤ 2) := ⟨hck⟩
  have h9 := hr.nine
  have h20 := hr.notes
  obtain ⟨z1, z2, z3⟩ := hz
  clear hP hck hr
  (repeat' first | simp [*, initEnv, c20] | (refine wpIf_two (fun _ h => ?_) (fun _ h => ?_) <;> try simp [-Nat.le_zero_eq] at h))
  refine wp_loopF [(4, 6), (9, 10), (45, 98)] (fun (i : Nat) env H => env 45 = .pure (.int .i64 i) ∧ i ≤ l.sights.xs.length ∧ Hide (badSee l x = ((List.range l.sights.xs.length).drop i).find? fun k => !seeS l x k) ∧ Hide (∀ j, j < i → seeS l x j = true)) (fun i => l.sights.xs.length - i) 0 ?_ ?_ ?_ ?_
  · decide
  · exact ⟨by simp, by omega, ⟨rfl⟩, ⟨fun j hj => by omega⟩⟩
  · simp only [loopFuel]; omega
  rintro i env H ⟨h5, hi, hf, hsee⟩
  have hfit : i < 9223372036854775807 := by omega
  by_cases hlt : i < l.sights.xs.length
  · have hp1 : i < x.points.xs.length := by omega
    have hp2 : i < x.letters.xs.length := by omega
    have hp3 : i < x.heights.xs.length := by omega
    have bad : seeS l x i = false → Hide (P = trueP (l.sights.xs[i].id, false, 0)) := fun h => ⟨by
      rw [hP2.h, hf.h, find_range hlt, h]
      show trueP (l.sights.xs[i]!.id, false, 0) = _
      rw [getElem!_pos l.sights.xs i hlt]⟩
    have good : seeS l x i = true → Hide (badSee l x = ((List.range l.sights.xs.length).drop (i + 1)).find? fun k => !seeS l x k) ∧ Hide (∀ j, j < i + 1 → seeS l x j = true) := fun h => ⟨⟨by
      rw [hf.h, find_range hlt, h]; rfl⟩, ⟨fun j hj => by
        rcases Nat.lt_or_ge j i with h1 | h1
        · exact hsee.h j h1
        · have : j = i := by omega
          subst this; exact h⟩⟩
    have hat := seeS_at (l := l) (x := x) hlt hp1 hp2 hp3
    have hled : seeA l.sights.xs[i] x.points.xs[i] x.letters.xs[i] x.heights.xs[i] = true → 0 < i → Hide (∀ H, doCall (calleeOf G (n + 6)) H (.pure (.func 52 [])) [.pure (.agg l.cells), .pure (.agg x.cells), .pure (.int .i64 (i : Int))] = some (.val (.pure (.bool (gapS l x i))))) := fun h h0 => ⟨fun H => by
      simp only [seeA, Bool.and_eq_true, decide_eq_true_eq] at h
      exact d52 (n + 3) H l.habit.step l.habit.place l.habit.sink l.sights l.notes x.points x.letters x.heights x.course i hr'.h ⟨z1, z2, z3, hcl, hck'.h⟩ h0 hlt (okR_of hr'.h hz'.h (by omega) (hsee.h _ (by omega))) (okR_of' hr'.h hz'.h hlt h.1 h.2.2.1 h.2.2.2)⟩
    have a1 := addrV_sl (f := Pt.cells) (sz := 2) (k := .i64) (s := x.points) (n := i) hp1
    have a2 := addrV_sl (f := strF) (sz := 1) (k := .i64) (s := x.letters) (n := i) hp2
    have a3 := addrV_sl (f := intF) (sz := 1) (k := .i64) (s := x.heights) (n := i) hp3
    have a4 := addrV_sl (f := Sight.cells) (sz := 9) (k := .i64) (s := l.sights) (n := i) hlt
    generalize l.sights.xs[i] = s at *
    generalize x.points.xs[i] = p at *
    generalize x.letters.xs[i] = t at *
    generalize x.heights.xs[i] = y at *
    have c1 : ∀ H, doCall (calleeOf G (n + 6)) H (.pure (.func 28 [])) [.pure (.agg s.box.cells), .pure (.agg p.cells)] = some (.val (.pure (.bool (inBox s.box p)))) := fun H => d28 (n + 2) H _ _ _ _ _ _
    have c2 : ∀ H, doCall (calleeOf G (n + 6)) H (.pure (.func 29 [])) [.pure (.str ⟨t.toArray⟩), .pure (.str ⟨s.letters.toArray⟩)] = some (.val (.pure (.bool (noDot t && agreeR t s.letters)))) := fun H => by rw [← reads_same]; exact d29 (n + 1) H t s.letters
    have hbb : (seeA s p t y = false ∧ Hide (P = trueP (s.id, false, 0))) ∨ (seeA s p t y = true ∧ 0 < i ∧ gapS l x i = false ∧ Hide (P = trueP (s.id, false, 0))) ∨ (seeA s p t y = true ∧ (i = 0 ∨ 0 < i ∧ gapS l x i = true) ∧ Hide (badSee l x = ((List.range l.sights.xs.length).drop (i + 1)).find? fun k => !seeS l x k) ∧ Hide (∀ j, j < i + 1 → seeS l x j = true)) := by
      cases hA : seeA s p t y with
      | false => exact .inl ⟨rfl, bad (by rw [hat, hA]; rfl)⟩
      | true =>
        rcases Nat.eq_zero_or_pos i with h0 | h0
        · exact .inr (.inr ⟨rfl, .inl h0, good (by rw [hat, hA, h0]; rfl)⟩)
        · cases hB : gapS l x i with
          | false => exact .inr (.inl ⟨rfl, h0, rfl, bad (by rw [hat, hA, hB]; simp; omega)⟩)
          | true => exact .inr (.inr ⟨rfl, .inr ⟨h0, rfl⟩, good (by rw [hat, hA, hB]; simp)⟩)
    simp only [Box.cells] at c1
    simp only [Pt.cells] at c1 a1
    simp only [Sight.cells] at a4
    simp only [Life.cells, Lived.cells] at hled
    clear bad good hat hf
    rcases hbb with ⟨hA, hB⟩ | ⟨hA, h0, hD, hB⟩ | ⟨hA, h0, hB, hC⟩
    · clear hled
      have hA' : Hide (seeA s p t y = false) := ⟨hA⟩
      clear hA
      (repeat' first | simp [*, initEnv] | (refine wpIf_two (fun _ h => ?_) (fun _ h => ?_) <;> try simp [-Nat.le_zero_eq] at h))
      all_goals first
        | exact hB.h.symm
        | exact hB.h
        | (exfalso; have hA2 := hA'.h; simp [seeA, *] at hA2; done)
        | skip
    · have hl1 := (hled hA h0).h
      clear hled
      simp only [seeA, Bool.and_eq_true, decide_eq_true_eq] at hA
      (repeat' first | simp [*, initEnv] | (refine wpIf_two (fun _ h => ?_) (fun _ h => ?_) <;> try simp [-Nat.le_zero_eq] at h))
      all_goals first
        | exact hB.h.symm
        | exact hB.h
        | omega
        | skip
    · simp only [seeA, Bool.and_eq_true, decide_eq_true_eq] at hA
      rcases h0 with h0 | ⟨h0, hD⟩
      · clear hled
        have h0' : Hide (i = 0) := ⟨h0⟩
        clear h0
        (repeat' first | simp [*, initEnv] | (refine wpIf_two (fun _ h => ?_) (fun _ h => ?_) <;> try simp [-Nat.le_zero_eq] at h))
        all_goals first
          | (exfalso; have := h0'.h; omega)
          | exact ⟨i + 1, by omega, by omega, by omega, hB, hC⟩
      · have hl1 := (hled (by simp [seeA, hA]) h0).h
        clear hled
        (repeat' first | simp [*, initEnv] | (refine wpIf_two (fun _ h => ?_) (fun _ h => ?_) <;> try simp [-Nat.le_zero_eq] at h))
        exact ⟨i + 1, by omega, by omega, by omega, hB, hC⟩
  · have hn : i = l.sights.xs.length := by omega
    subst hn
    have hns : badSee l x = none := by rw [hf.h, find_end (by simp)]
    have hP3 : Hide (P = match badNote l x with
      | some m => trueP (m.id, false, 0)
      | none => trueP (0, true, 0)) := ⟨by rw [hP2.h, hns]⟩
    clear hP2 hsee hf hns hlt hi
    (repeat' first | simp [*, initEnv] | (refine wpIf_two (fun _ h => ?_) (fun _ h => ?_) <;> try simp [-Nat.le_zero_eq] at h))
    refine wp_loopF [(4, 6), (12, 12), (102, 114)] (fun (i : Nat) env H => env 102 = .pure (.int .i64 i) ∧ i ≤ l.notes.xs.length ∧ Hide (badNote l x = (l.notes.xs.drop i).find? fun m => !notedS l.sights.xs m x.course.xs)) (fun i => l.notes.xs.length - i) 0 ?_ ?_ ?_ ?_
    · decide
    · exact ⟨by simp, by omega, ⟨rfl⟩⟩
    · simp only [loopFuel]; omega
    rintro i env H ⟨h5, hi, hf⟩
    have hfit : i < 9223372036854775807 := by omega
    have hl3 : l.sights.xs.length < 1000 := by omega
    have hcl2 : x.course.xs.length + 1 ≤ l.sights.xs.length := by omega
    by_cases hlt : i < l.notes.xs.length
    · cases hm : notedS l.sights.xs l.notes.xs[i] x.course.xs with
      | false =>
        have hB : Hide (P = trueP (l.notes.xs[i].id, false, 0)) := ⟨by rw [hP3.h, hf.h, find_drop hlt, hm]; rfl⟩
        (repeat' first | simp [*, initEnv] | (refine wpIf_two (fun _ h => ?_) (fun _ h => ?_) <;> try simp [-Nat.le_zero_eq] at h))
        exact hB.h.symm
      | true =>
        have hB : Hide (badNote l x = (l.notes.xs.drop (i + 1)).find? fun m => !notedS l.sights.xs m x.course.xs) := ⟨by rw [hf.h, find_drop hlt, hm]; rfl⟩
        (repeat' first | simp [*, initEnv] | (refine wpIf_two (fun _ h => ?_) (fun _ h => ?_) <;> try simp [-Nat.le_zero_eq] at h))
        exact ⟨i + 1, by omega, by omega, by omega, hB⟩
    · have hn : i = l.notes.xs.length := by omega
      subst hn
      have hB : Hide (P = trueP (0, true, 0)) := ⟨by rw [hP3.h, hf.h, find_end (Nat.le_refl _)]⟩
      clear hf hP3
      (repeat' first | simp [*, initEnv] | (refine wpIf_two (fun _ h => ?_) (fun _ h => ?_) <;> try simp [-Nat.le_zero_eq] at h))
      exact hB.h.symm
@[simp] theorem d20 (n : Nat) (H : Heap) (l_habit_step : Int) (l_habit_place : Int) (l_habit_sink : Int) (l_sights : Sl Sight) (l_notes : Sl Note) (x_points : Sl Pt) (x_letters : Sl (List UInt8)) (x_heights : Sl Int) (x_course : Sl Int) (hs : (fun (l : Life) => shortS l) (⟨⟨l_habit_step, l_habit_place, l_habit_sink⟩, l_sights, l_notes⟩ : Life)) (hc : (fun (x : Lived) => x.course.xs.length < 1000) (⟨x_points, x_letters, x_heights, x_course⟩ : Lived)) : doCall (calleeOf G (n + 7)) H (.pure (.func 20 [])) [.pure (.agg [.int .i64 l_habit_step, .int .i64 l_habit_place, .int .i64 l_habit_sink, (l_sights).pv Sight.cells 9, (l_notes).pv Note.cells 4]), .pure (.agg [(x_points).pv Pt.cells 2, (x_letters).pv strF 1, (x_heights).pv intF 1, (x_course).pv intF 1])] = some (.val (.pure ((fun (l : Life) => (fun (x : Lived) => trueP (trueR l x)) (⟨x_points, x_letters, x_heights, x_course⟩ : Lived)) (⟨⟨l_habit_step, l_habit_place, l_habit_sink⟩, l_sights, l_notes⟩ : Life)))) :=
  call_pureC (ps := [_, _]) (caps := []) sh20 (e20 n (⟨⟨l_habit_step, l_habit_place, l_habit_sink⟩, l_sights, l_notes⟩ : Life) (⟨x_points, x_letters, x_heights, x_course⟩ : Lived) hs hc)
theorem sh21 : G.shared 21 = false := by decide
theorem e21 (n : Nat) (l : Life) (x : Lived) (hs : shortS l) (hc : x.course.xs.length < 1000) (hx : ∀ t ∈ x.letters.xs, t.length ≤ 20) : callP G (n + 7) 21 [.agg l.cells, .agg x.cells] = some (trueA (trueR l x)) := by
  refine callP_of (ext_none _) rfl g21 rfl ?_
  obtain ⟨P, hPe⟩ : ∃ P, P = trueA (trueR l x) := ⟨_, rfl⟩
  rw [← hPe]
  have hP : Hide _ := ⟨hPe⟩
  clear hPe
  have hgc : ∀ H, doCall (calleeOf G (n + 6)) H (.pure (.func 54 [])) [.pure (.agg l.cells), .pure (x.course.pv intF 1)] = some (.val (.pure (.int .i64 (givenS l x.course.xs)))) := fun H => d54 n H l.habit.step l.habit.place l.habit.sink l.sights l.notes x.course hs hc
  simp only [Life.cells] at hgc
  by_cases hg : givenS l x.course.xs = 0
  case neg =>
    have hP2 : P = .agg [.int .i64 0, .bool false, .int .i64 (givenS l x.course.xs)] := by rw [hP.h]; unfold trueR; rw [if_pos hg]; rfl
    clear hP
    (repeat' first | simp [*, initEnv, c21] | (refine wpIf_two (fun _ h => ?_) (fun _ h => ?_) <;> try simp [-Nat.le_zero_eq] at h))
  obtain ⟨hr, hcl, hck⟩ := given_zero hg
  by_cases hz : sizesS l x
  case neg =>
    have hP2 : P = .agg [.int .i64 0, .bool false, .int .i64 1] := by rw [hP.h]; unfold trueR; rw [if_neg (by simpa using hg), if_neg hz]; rfl
    clear hP
    rw [hg] at hgc
    have hz' : Hide (¬ sizesS l x) := ⟨hz⟩
    clear hz
    (repeat' first | simp [*, initEnv, c21] | (refine wpIf_two (fun _ h => ?_) (fun _ h => ?_) <;> try simp [-Nat.le_zero_eq] at h))
    all_goals
      exfalso
      exact hz'.h ⟨by omega, by omega, by omega⟩
  have hP2 : Hide (P = match badSee l x with
    | some k => trueA (l.sights.xs[k]!.id, false, 0)
    | none => match badNote l x with
      | some m => trueA (m.id, false, 0)
      | none => trueA (0, true, 0)) := ⟨by
        rw [hP.h]; unfold trueR; rw [if_neg (by simpa using hg), if_pos hz]
        cases badSee l x with
        | some k => rfl
        | none => cases badNote l x <;> rfl⟩
  rw [hg] at hgc
  have hr' : Hide (Right l) := ⟨hr⟩
  have hz' : Hide (sizesS l x) := ⟨hz⟩
  have hck' : Hide (∀ k ∈ x.course.xs, 0 ≤ k ∧ k ≤ 2) := ⟨hck⟩
  have hx' : Hide (∀ t ∈ x.letters.xs, t.length ≤ 20) := ⟨hx⟩
  clear hx
  have h9 := hr.nine
  have h20 := hr.notes
  obtain ⟨z1, z2, z3⟩ := hz
  clear hP hck hr
  (repeat' first | simp [*, initEnv, c21] | (refine wpIf_two (fun _ h => ?_) (fun _ h => ?_) <;> try simp [-Nat.le_zero_eq] at h))
  refine wp_loopF [(7, 11), (45, 107)] (fun (i : Nat) env H => env 7 = .pure (.int .i64 i) ∧ H.get 0 = .cells true [.pure (.int .i64 0), .pure (.bool false), .pure (.int .i64 0)] ∧ i ≤ l.sights.xs.length ∧ Hide (badSee l x = ((List.range l.sights.xs.length).drop i).find? fun k => !seeS l x k) ∧ Hide (∀ j, j < i → seeS l x j = true)) (fun i => l.sights.xs.length - i) 0 ?_ ?_ ?_ ?_
  · decide
  · exact ⟨by simp, by simp, by omega, ⟨rfl⟩, ⟨fun j hj => by omega⟩⟩
  · simp only [loopFuel]; omega
  rintro i env H ⟨h5, hget, hi, hf, hsee⟩
  have hfit : i < 9223372036854775807 := by omega
  have hl0 := nx_of_get hget
  have hn0 : ¬ 0 = H.nx := by omega
  have hget' : ∀ o, (H.alloc o).get 0 = .cells true [.pure (.int .i64 0), .pure (.bool false), .pure (.int .i64 0)] := fun o => by rw [get_alloc_lt hl0]; exact hget
  by_cases hlt : i < l.sights.xs.length
  · have hp1 : i < x.points.xs.length := by omega
    have hp2 : i < x.letters.xs.length := by omega
    have hp3 : i < x.heights.xs.length := by omega
    have bad : seeS l x i = false → Hide (P = trueA (l.sights.xs[i].id, false, 0)) := fun h => ⟨by
      rw [hP2.h, hf.h, find_range hlt, h]
      show trueA (l.sights.xs[i]!.id, false, 0) = _
      rw [getElem!_pos l.sights.xs i hlt]⟩
    have good : seeS l x i = true → Hide (badSee l x = ((List.range l.sights.xs.length).drop (i + 1)).find? fun k => !seeS l x k) ∧ Hide (∀ j, j < i + 1 → seeS l x j = true) := fun h => ⟨⟨by
      rw [hf.h, find_range hlt, h]; rfl⟩, ⟨fun j hj => by
        rcases Nat.lt_or_ge j i with h1 | h1
        · exact hsee.h j h1
        · have : j = i := by omega
          subst this; exact h⟩⟩
    have hat := seeS_at (l := l) (x := x) hlt hp1 hp2 hp3
    have hled : seeA l.sights.xs[i] x.points.xs[i] x.letters.xs[i] x.heights.xs[i] = true → 0 < i → Hide (∀ H, doCall (calleeOf G (n + 6)) H (.pure (.func 58 [])) [.pure (.agg l.cells), .pure (.agg x.cells), .pure (.int .i64 (i : Int))] = some (.val (.pure (.bool (gapS l x i))))) := fun h h0 => ⟨fun H => by
      simp only [seeA, Bool.and_eq_true, decide_eq_true_eq] at h
      exact d58 (n + 3) H l.habit.step l.habit.place l.habit.sink l.sights l.notes x.points x.letters x.heights x.course i hr'.h ⟨z1, z2, z3, hcl, hck'.h⟩ h0 hlt (okR_of hr'.h hz'.h (by omega) (hsee.h _ (by omega))) (okR_of' hr'.h hz'.h hlt h.1 h.2.2.1 h.2.2.2)⟩
    have a1 := addrV_sl (f := Pt.cells) (sz := 2) (k := .i64) (s := x.points) (n := i) hp1
    have a2 := addrV_sl (f := strF) (sz := 1) (k := .i64) (s := x.letters) (n := i) hp2
    have a3 := addrV_sl (f := intF) (sz := 1) (k := .i64) (s := x.heights) (n := i) hp3
    have a4 := addrV_sl (f := Sight.cells) (sz := 9) (k := .i64) (s := l.sights) (n := i) hlt
    have hlx := hx'.h _ (List.getElem_mem hp2)
    have hls := (hr'.h.sp (List.getElem_mem hlt)).2.2.2.2.2.2.2.2.2.2
    generalize l.sights.xs[i] = s at *
    generalize x.points.xs[i] = p at *
    generalize x.letters.xs[i] = t at *
    generalize x.heights.xs[i] = y at *
    have c1 : ∀ H, doCall (calleeOf G (n + 6)) H (.pure (.func 55 [])) [.pure (.agg s.box.cells), .pure (.agg p.cells)] = some (.val (.pure (.bool (inBox s.box p)))) := fun H => d55 (n + 2) H _ _ _ _ _ _
    have c2 : ∀ H, doCall (calleeOf G (n + 6)) H (.pure (.func 56 [])) [.pure (.str ⟨t.toArray⟩), .pure (.str ⟨s.letters.toArray⟩)] = some (.val (.pure (.bool (noDot t && agreeR t s.letters)))) := fun H => d56 (n + 3) H t s.letters (by omega) (by omega)
    have hbb : (seeA s p t y = false ∧ Hide (P = trueA (s.id, false, 0))) ∨ (seeA s p t y = true ∧ 0 < i ∧ gapS l x i = false ∧ Hide (P = trueA (s.id, false, 0))) ∨ (seeA s p t y = true ∧ (i = 0 ∨ 0 < i ∧ gapS l x i = true) ∧ Hide (badSee l x = ((List.range l.sights.xs.length).drop (i + 1)).find? fun k => !seeS l x k) ∧ Hide (∀ j, j < i + 1 → seeS l x j = true)) := by
      cases hA : seeA s p t y with
      | false => exact .inl ⟨rfl, bad (by rw [hat, hA]; rfl)⟩
      | true =>
        rcases Nat.eq_zero_or_pos i with h0 | h0
        · exact .inr (.inr ⟨rfl, .inl h0, good (by rw [hat, hA, h0]; rfl)⟩)
        · cases hB : gapS l x i with
          | false => exact .inr (.inl ⟨rfl, h0, rfl, bad (by rw [hat, hA, hB]; simp; omega)⟩)
          | true => exact .inr (.inr ⟨rfl, .inr ⟨h0, rfl⟩, good (by rw [hat, hA, hB]; simp)⟩)
    simp only [Box.cells] at c1
    simp only [Pt.cells] at c1 a1
    simp only [Sight.cells] at a4
    simp only [Life.cells, Lived.cells] at hled
    clear bad good hat hf
    rcases hbb with ⟨hA, hB⟩ | ⟨hA, h0, hD, hB⟩ | ⟨hA, h0, hB, hC⟩
    · clear hled
      have hA' : Hide (seeA s p t y = false) := ⟨hA⟩
      clear hA
      (repeat' first | simp [*, initEnv] | (refine wpIf_two (fun _ h => ?_) (fun _ h => ?_) <;> try simp [-Nat.le_zero_eq] at h))
      all_goals first
        | exact hB.h.symm
        | exact hB.h
        | (exfalso; have hA2 := hA'.h; simp [seeA, *] at hA2; done)
        | skip
    · have hl1 := (hled hA h0).h
      clear hled
      simp only [seeA, Bool.and_eq_true, decide_eq_true_eq] at hA
      (repeat' first | simp [*, initEnv] | (refine wpIf_two (fun _ h => ?_) (fun _ h => ?_) <;> try simp [-Nat.le_zero_eq] at h))
      all_goals first
        | exact hB.h.symm
        | exact hB.h
        | omega
        | skip
    · simp only [seeA, Bool.and_eq_true, decide_eq_true_eq] at hA
      rcases h0 with h0 | ⟨h0, hD⟩
      · clear hled
        have h0' : Hide (i = 0) := ⟨h0⟩
        clear h0
        (repeat' first | simp [*, initEnv] | (refine wpIf_two (fun _ h => ?_) (fun _ h => ?_) <;> try simp [-Nat.le_zero_eq] at h))
        all_goals first
          | (exfalso; have := h0'.h; omega)
          | exact ⟨i + 1, by omega, by omega, by omega, hB, hC⟩
      · have hl1 := (hled (by simp [seeA, hA]) h0).h
        clear hled
        (repeat' first | simp [*, initEnv] | (refine wpIf_two (fun _ h => ?_) (fun _ h => ?_) <;> try simp [-Nat.le_zero_eq] at h))
        exact ⟨i + 1, by omega, by omega, by omega, hB, hC⟩
  · have hn : i = l.sights.xs.length := by omega
    subst hn
    have hns : badSee l x = none := by rw [hf.h, find_end (by simp)]
    have hP3 : Hide (P = match badNote l x with
      | some m => trueA (m.id, false, 0)
      | none => trueA (0, true, 0)) := ⟨by rw [hP2.h, hns]⟩
    clear hP2 hsee hf hns hlt hi
    (repeat' first | simp [*, initEnv] | (refine wpIf_two (fun _ h => ?_) (fun _ h => ?_) <;> try simp [-Nat.le_zero_eq] at h))
    refine wp_loopF [(12, 13), (108, 132)] (fun (i : Nat) env H => env 12 = .pure (.int .i64 i) ∧ H.get 0 = .cells true [.pure (.int .i64 0), .pure (.bool false), .pure (.int .i64 0)] ∧ i ≤ l.notes.xs.length ∧ Hide (badNote l x = (l.notes.xs.drop i).find? fun m => !notedS l.sights.xs m x.course.xs)) (fun i => l.notes.xs.length - i) 0 ?_ ?_ ?_ ?_
    · decide
    · exact ⟨by simp, by simp [*], by omega, ⟨rfl⟩⟩
    · simp only [loopFuel]; omega
    rintro i env H ⟨h5, hget, hi, hf⟩
    have hfit : i < 9223372036854775807 := by omega
    have hl0 := nx_of_get hget
    have hn0 : ¬ 0 = H.nx := by omega
    have hget' : ∀ o, (H.alloc o).get 0 = .cells true [.pure (.int .i64 0), .pure (.bool false), .pure (.int .i64 0)] := fun o => by rw [get_alloc_lt hl0]; exact hget
    have hl3 : l.sights.xs.length < 1000 := by omega
    have hcl2 : x.course.xs.length + 1 ≤ l.sights.xs.length := by omega
    by_cases hlt : i < l.notes.xs.length
    · cases hm : notedS l.sights.xs l.notes.xs[i] x.course.xs with
      | false =>
        have hB : Hide (P = trueA (l.notes.xs[i].id, false, 0)) := ⟨by rw [hP3.h, hf.h, find_drop hlt, hm]; rfl⟩
        (repeat' first | simp [*, initEnv] | (refine wpIf_two (fun _ h => ?_) (fun _ h => ?_) <;> try simp [-Nat.le_zero_eq] at h))
        exact hB.h.symm
      | true =>
        have hB : Hide (badNote l x = (l.notes.xs.drop (i + 1)).find? fun m => !notedS l.sights.xs m x.course.xs) := ⟨by rw [hf.h, find_drop hlt, hm]; rfl⟩
        (repeat' first | simp [*, initEnv] | (refine wpIf_two (fun _ h => ?_) (fun _ h => ?_) <;> try simp [-Nat.le_zero_eq] at h))
        exact ⟨i + 1, by omega, by omega, by omega, hB⟩
    · have hn : i = l.notes.xs.length := by omega
      subst hn
      have hB : Hide (P = trueA (0, true, 0)) := ⟨by rw [hP3.h, hf.h, find_end (Nat.le_refl _)]⟩
      clear hf hP3
      (repeat' first | simp [*, initEnv] | (refine wpIf_two (fun _ h => ?_) (fun _ h => ?_) <;> try simp [-Nat.le_zero_eq] at h))
      exact hB.h.symm
@[simp] theorem d21 (n : Nat) (H : Heap) (l_habit_step : Int) (l_habit_place : Int) (l_habit_sink : Int) (l_sights : Sl Sight) (l_notes : Sl Note) (x_points : Sl Pt) (x_letters : Sl (List UInt8)) (x_heights : Sl Int) (x_course : Sl Int) (hs : (fun (l : Life) => shortS l) (⟨⟨l_habit_step, l_habit_place, l_habit_sink⟩, l_sights, l_notes⟩ : Life)) (hc : (fun (x : Lived) => x.course.xs.length < 1000) (⟨x_points, x_letters, x_heights, x_course⟩ : Lived)) (hx : (fun (x : Lived) => ∀ t ∈ x.letters.xs, t.length ≤ 20) (⟨x_points, x_letters, x_heights, x_course⟩ : Lived)) : doCall (calleeOf G (n + 7)) H (.pure (.func 21 [])) [.pure (.agg [.int .i64 l_habit_step, .int .i64 l_habit_place, .int .i64 l_habit_sink, (l_sights).pv Sight.cells 9, (l_notes).pv Note.cells 4]), .pure (.agg [(x_points).pv Pt.cells 2, (x_letters).pv strF 1, (x_heights).pv intF 1, (x_course).pv intF 1])] = some (.val (.pure ((fun (l : Life) => (fun (x : Lived) => trueA (trueR l x)) (⟨x_points, x_letters, x_heights, x_course⟩ : Lived)) (⟨⟨l_habit_step, l_habit_place, l_habit_sink⟩, l_sights, l_notes⟩ : Life)))) :=
  call_pureC (ps := [_, _]) (caps := []) sh21 (e21 n (⟨⟨l_habit_step, l_habit_place, l_habit_sink⟩, l_sights, l_notes⟩ : Life) (⟨x_points, x_letters, x_heights, x_course⟩ : Lived) hs hc hx)
end Go.Proofs.YtnomliioadjdgaaGreat.Vm
