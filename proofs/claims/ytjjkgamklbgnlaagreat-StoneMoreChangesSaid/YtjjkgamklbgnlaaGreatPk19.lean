/- The chapter's examples: sanity() returns true, by the machine's own run in the kernel. StoneMoreChanges answers true on all data, for the machine of values. -/
import Derived.Test.YtjjkgamklbgnlaaGreatPk13
import Derived.KernelRfl
import Derived.Test.YtjjkgamklbgnlaaGreatPk18
namespace Go.Proofs.YtjjkgamklbgnlaaGreat.Vm
open Go
theorem sanity_run : callP G 60 8 [] = some (.bool true) := by kernel_rfl
end Go.Proofs.YtjjkgamklbgnlaaGreat.Vm

namespace Go.Proofs.YtjjkgamklbgnlaaGreat.Vm
open Go
set_option linter.unusedSimpArgs false
set_option linter.unusedVariables false
set_option maxHeartbeats 4000000
theorem sh_sanity : G.shared 8 = false := by decide
@[simp] theorem d_sanity (H : Heap) : doCall (calleeOf G 60) H (.pure (.func 8 [])) [] = some (.val (.pure (.bool true))) := call_pure (ps := []) sh_sanity sanity_run

@[simp] theorem sliceV_sl_loS {α : Type} {f : α → List PV} {sz i : Nat} {k : IntKind} {H : Heap} {s : Sl α} (hi : i + 1 ≤ s.xs.length) : sliceV H sz (.pure (s.pv f sz)) (some (.pure (.int k ((i : Int) + 1)))) none = some (.val (.pure ((s.sub (i + 1) s.xs.length).pv f sz))) := by
  have := sliceV_sl_lo (f := f) (sz := sz) (k := k) (H := H) hi
  simpa using this
@[simp] theorem sliceV_sl_lo1 {α : Type} {f : α → List PV} {sz : Nat} {k : IntKind} {H : Heap} {s : Sl α} (hi : 1 ≤ s.xs.length) : sliceV H sz (.pure (s.pv f sz)) (some (.pure (.int k 1))) none = some (.val (.pure ((s.sub 1 s.xs.length).pv f sz))) := by
  have := sliceV_sl_lo (f := f) (sz := sz) (k := k) (H := H) hi
  simpa using this
theorem OwnV.sl {α : Type} {f : α → List PV} {sz n : Nat} {H : Heap} {v : AV} {l : List α} (hf : ∀ a, (f a).length = sz) (h : OwnV f sz H v l) : ∃ s : Sl α, s.xs = l ∧ FrzK H true (n + 2) v (s.pv f sz) := by
  rcases h.frz (k := true) (n := n) hf with h1 | ⟨h1, h2⟩
  · cases l with
    | nil => exact ⟨.nil, rfl, h1⟩
    | cons a l => exact ⟨.mk true (a :: l), rfl, h1⟩
  · exact ⟨.mk true [], h1.symm, h2⟩

def firstP (l : Life) : Life := ⟨l.habit, l.sights.sub 1 l.sights.xs.length, l.notes⟩
def lastP (l : Life) : Life := ⟨l.habit, l.sights.sub 0 (l.sights.xs.length - 1), l.notes⟩
theorem eraseIdx_zero' {α : Type} (l : List α) : l.eraseIdx 0 = l.drop 1 := by cases l <;> rfl
theorem eraseIdx_last {α : Type} (l : List α) : l.eraseIdx (l.length - 1) = l.take (l.length - 1) := by
  rw [List.eraseIdx_eq_take_drop_succ, List.drop_eq_nil_of_le (by omega), List.append_nil]
theorem firstP_xs (l : Life) : (firstP l).sights.xs = l.sights.xs.drop 1 := by
  show (l.sights.sub 1 l.sights.xs.length).xs = _
  rw [Sl.xs_sub, List.take_length]
theorem lastP_xs (l : Life) : (lastP l).sights.xs = l.sights.xs.take (l.sights.xs.length - 1) := by
  show (l.sights.sub 0 (l.sights.xs.length - 1)).xs = _
  rw [Sl.xs_sub, List.drop_zero]
theorem right_first {l : Life} (hr : Right l) (h : 1 < l.sights.xs.length) : Right (firstP l) := hr.wo rfl (i := 0) (.inr ⟨h, by omega, by rw [eraseIdx_zero', firstP_xs]⟩) (List.Sublist.refl _)
theorem right_last {l : Life} (hr : Right l) (h : 1 < l.sights.xs.length) : Right (lastP l) := hr.wo rfl (i := l.sights.xs.length - 1) (.inr ⟨h, by omega, by rw [eraseIdx_last, lastP_xs]⟩) (List.Sublist.refl _)
theorem first_le {l : Life} (hr : Right l) (hn : l.notes.xs = []) (h : 1 < l.sights.xs.length) : fewestV (firstP l) ≤ fewestV l :=
  fewest_le hr (right_first hr h) fun c hc hf => ⟨c.drop 1, by rw [firstP_xs]; simp; omega, List.drop_sublist _ _, fit_first (m := firstP l) hr rfl (firstP_xs l) hn h hc hf⟩
theorem last_le {l : Life} (hr : Right l) (hn : l.notes.xs = []) (h : 1 < l.sights.xs.length) : fewestV (lastP l) ≤ fewestV l :=
  fewest_le hr (right_last hr h) fun c hc hf => ⟨c.take (c.length - 1), by rw [lastP_xs]; simp; omega, List.take_sublist _ _, fit_last (l := l) (m := lastP l) rfl (lastP_xs l) hn h hc hf⟩
theorem note_le {l m : Life} (hr : Right l) (h1 : m.habit = l.habit) (h2 : m.sights = l.sights) (h3 : m.notes.xs.Sublist l.notes.xs) : Right m ∧ fewestV m ≤ fewestV l := by
  have hm : Right m := hr.wo h1 (i := 0) (.inl (by rw [h2])) h3
  exact ⟨hm, fewest_le hr hm fun c hc hf => ⟨c, by rw [h2]; exact hc, List.Sublist.refl _, fit_notes h1 (by rw [h2]) (fun x hx => h3.subset hx) hf⟩⟩
theorem given_more {l : Life} {c : List Int} {k : Nat} (hk : k < c.length) (h : givenS l c = 0) : givenS l (c.set k 1) = 0 := by
  unfold givenS at h ⊢
  split at h
  · rename_i hc
    rw [if_pos hc]
    split at h
    · rename_i hkk
      rw [if_pos]
      unfold kindsS at hkk ⊢
      simp only [Bool.and_eq_true, decide_eq_true_eq, Bool.not_eq_true', List.any_eq_false, List.length_set] at hkk ⊢
      refine ⟨hkk.1, fun x hx => ?_⟩
      rcases List.mem_or_eq_of_mem_set hx with h | h
      · exact hkk.2 x h
      · subst h; simp [gapB]
    · simp at h
  · exact absurd h (by assumption)

theorem more_law (l : Life) (c : Sl Int) (k : Nat) (hk : k < 256) : callP G 61 5 [.agg l.cells, c.pv intF 1, .int .u8 k] = some (.bool true) := by
  refine callP_of (n := 60) (ext_none _) rfl g5 rfl ?_
  have hfew : ∀ H, doCall (calleeOf G 60) H (.pure (.func 7 [])) [.pure (.agg l.cells)] = some (.val (.pure (.bool (fewS l)))) := fun H => d7 59 H l.habit.step l.habit.place l.habit.sink l.sights l.notes
  simp only [Life.cells] at hfew
  by_cases hf : fewS l = true
  case neg =>
    simp only [Bool.not_eq_true] at hf
    rw [hf] at hfew
    (repeat' first | simp [*, initEnv, c5] | (refine wpIf_two (fun _ h => ?_) (fun _ h => ?_) <;> try simp [-Nat.le_zero_eq] at h) | (apply wpE_appendV; (focus (first | assumption | (repeat' first | assumption | with_reducible apply GrowV.setNew | with_reducible apply GrowV.alloc | with_reducible apply GrowV.set | (with_reducible show ¬ Names _ _; simp [*]; done)))); (focus (exact fun _ => rfl)); (focus decide); (focus (intro a; first | rfl | simp)); (focus (simp [maxCells] <;> omega))) | (refine after_intro fun v2 H2 hv2 hnx2 hget2 hnew2 hone2 hcel2 => ?_))
  have hs := few_short hf
  rw [hf] at hfew
  clear hf
  have hcc : ∀ H, doCall (calleeOf G 60) H (.pure (.func 15 [])) [.pure (.agg l.cells)] = some (.val (.pure (.int .i64 (checkS l)))) := fun H => d15 55 H l.habit.step l.habit.place l.habit.sink l.sights l.notes hs
  simp only [Life.cells] at hcc
  by_cases hc20 : (20 : Int) < c.xs.length
  · (repeat' first | simp [*, initEnv, c5] | (refine wpIf_two (fun _ h => ?_) (fun _ h => ?_) <;> try simp [-Nat.le_zero_eq] at h) | (apply wpE_appendV; (focus (first | assumption | (repeat' first | assumption | with_reducible apply GrowV.setNew | with_reducible apply GrowV.alloc | with_reducible apply GrowV.set | (with_reducible show ¬ Names _ _; simp [*]; done)))); (focus (exact fun _ => rfl)); (focus decide); (focus (intro a; first | rfl | simp)); (focus (simp [maxCells] <;> omega))) | (refine after_intro fun v2 H2 hv2 hnx2 hget2 hnew2 hone2 hcel2 => ?_))
  by_cases hck : checkS l = 0
  case neg => (repeat' first | simp [*, initEnv, c5] | (refine wpIf_two (fun _ h => ?_) (fun _ h => ?_) <;> try simp [-Nat.le_zero_eq] at h) | (apply wpE_appendV; (focus (first | assumption | (repeat' first | assumption | with_reducible apply GrowV.setNew | with_reducible apply GrowV.alloc | with_reducible apply GrowV.set | (with_reducible show ¬ Names _ _; simp [*]; done)))); (focus (exact fun _ => rfl)); (focus decide); (focus (intro a; first | rfl | simp)); (focus (simp [maxCells] <;> omega))) | (refine after_intro fun v2 H2 hv2 hnx2 hget2 hnew2 hone2 hcel2 => ?_))
  have hr := (right_iff l).1 hck
  have hns := hr.notes
  have h9 := hr.nine
  have h1 := hr.one
  rw [hck] at hcc
  have hfl : ∀ H, doCall (calleeOf G 60) H (.pure (.func 27 [])) [.pure (.agg l.cells)] = some (.val (.pure (.int .i64 (fewestV l)))) := fun H => d27 48 H l.habit.step l.habit.place l.habit.sink l.sights l.notes hs
  simp only [Life.cells] at hfl
  have hrS : Hide (Right l) := ⟨hr⟩
  clear hck hs
  by_cases hn : 0 < l.notes.xs.length
  · -- a note less
    obtain ⟨j, hj0, hj⟩ : ∃ j : Nat, (k : Int).tmod (l.notes.xs.length : Int) = (j : Int) ∧ j < l.notes.xs.length := ⟨k % l.notes.xs.length, (Int.ofNat_tmod _ _).symm, Nat.mod_lt _ hn⟩
    have hkw : IntKind.i64.wrap (k : Int) = (k : Int) := wrap_i64 (by omega) (by omega)
    have hfit : j < 9223372036854775807 := by omega
    have hj1 : j ≤ l.notes.xs.length := by omega
    have hj2 : j + 1 ≤ l.notes.xs.length := by omega
    have hrem : ∀ d, vbin .rem d (.pure (.int .i64 (k : Int))) (.pure (.int .i64 (l.notes.xs.length : Int))) = some (.pure (.int .i64 (j : Int))) := fun d => by rw [vbin_rem (by omega), hj0]
    have hs1 : ∀ H', sliceCells H' 4 (.pure ((l.notes.sub 0 j).pv Note.cells 4)) = some (rowOf Note.cells (l.notes.xs.take j), (l.notes.xs.take j).length) := fun H' => by
      have := sliceCells_sl' (H := H') (f := Note.cells) (sz := 4) (fun _ => rfl) (l.notes.sub 0 j)
      simpa using this
    have hs2 : ∀ H', sliceCells H' 4 (.pure ((l.notes.sub (j + 1) l.notes.xs.length).pv Note.cells 4)) = some (rowOf Note.cells (l.notes.xs.drop (j + 1)), (l.notes.xs.drop (j + 1)).length) := fun H' => by
      have := sliceCells_sl' (H := H') (f := Note.cells) (sz := 4) (fun _ => rfl) (l.notes.sub (j + 1) l.notes.xs.length)
      simpa using this
    have hs1' : Hide _ := ⟨hs1⟩
    have hs2' : Hide _ := ⟨hs2⟩
    clear hs1 hs2 hr
    (repeat' first | simp [*, initEnv, c5] | (refine wpIf_two (fun _ h => ?_) (fun _ h => ?_) <;> try simp [-Nat.le_zero_eq] at h) | (apply wpE_appendV; (focus (first | assumption | (repeat' first | assumption | with_reducible apply GrowV.setNew | with_reducible apply GrowV.alloc | with_reducible apply GrowV.set | (with_reducible show ¬ Names _ _; simp [*]; done)))); (focus (exact fun _ => rfl)); (focus decide); (focus (intro a; first | rfl | simp)); (focus (simp [maxCells] <;> omega))) | (refine after_intro fun v2 H2 hv2 hnx2 hget2 hnew2 hone2 hcel2 => ?_))
    refine wpE_appendE (l := l.notes.xs.take j) (hs1'.h _) (by simp) (fun _ => rfl) (by simp only [List.length_take, maxCells]; omega) ?_
    rintro v1 H1 o1 hx1 hsame1 hnames1
    have g1 : H1.get 0 = .cells true (l.cells.map AV.pure) := by
      rw [hsame1 0 (by simp)]
      simp [Life.cells]
    have hn1 : ¬ Names v1 0 := fun h => by
      have := hnames1 0 h
      simp at this
    simp only [Life.cells, List.map] at g1
    clear hsame1 hnames1 hx1
    (repeat' first | simp [*, initEnv] | (refine wpIf_two (fun _ h => ?_) (fun _ h => ?_) <;> try simp [-Nat.le_zero_eq] at h) | (apply wpE_appendV; (focus (first | assumption | (repeat' first | assumption | with_reducible apply GrowV.setNew | with_reducible apply GrowV.alloc | with_reducible apply GrowV.set | (with_reducible show ¬ Names _ _; simp [*]; done)))); (focus (exact fun _ => rfl)); (focus decide); (focus (intro a; first | rfl | simp)); (focus (simp [maxCells] <;> omega))) | (refine after_intro fun v2 H2 hv2 hnx2 hget2 hnew2 hone2 hcel2 => ?_))
    refine wpE_appendL (f := Note.cells) (l := l.notes.xs.take j) (m := l.notes.xs.drop (j + 1)) o1 (fun _ => rfl) (by decide) (fun _ => rfl) (hs2'.h _) (by simp only [List.length_take, List.length_drop, maxCells]; omega) ?_
    rintro v2 H2 o2 hx2 hsame2 hnames2
    have g2 := hsame2 0 (nx_of_get g1) hn1
    rw [g1] at g2
    have hn2 : ¬ Names v2 0 := fun h => by
      rcases hnames2 0 h with h | h
      · exact hn1 h
      · have := nx_of_get g1; omega
    have hone := o2.one.1
    have hcel := o2.one.2
    have hl0 := nx_of_get g2
    have o3 : ∀ o, OwnV Note.cells 4 (H2.set 0 o) v2 (l.notes.xs.take j ++ l.notes.xs.drop (j + 1)) := fun o => o2.keep fun i hi => get_set_ne fun e => hn2 (by obtain ⟨n, hn⟩ := hi; exact ⟨_, _, _, by rw [← e]; exact hn⟩)
    have o3' : Hide _ := ⟨o3⟩
    clear o3 g1 hsame2 hnames2 hx2 o1 hs1' hs2' hn1 hn2
    (repeat' first | simp [*, initEnv] | (refine wpIf_two (fun _ h => ?_) (fun _ h => ?_) <;> try simp [-Nat.le_zero_eq] at h) | (apply wpE_appendV; (focus (first | assumption | (repeat' first | assumption | with_reducible apply GrowV.setNew | with_reducible apply GrowV.alloc | with_reducible apply GrowV.set | (with_reducible show ¬ Names _ _; simp [*]; done)))); (focus (exact fun _ => rfl)); (focus decide); (focus (intro a; first | rfl | simp)); (focus (simp [maxCells] <;> omega))) | (refine after_intro fun v2 H2 hv2 hnx2 hget2 hnew2 hone2 hcel2 => ?_))
    have hx := o3'.h (.cells true [.pure (.int .i64 l.habit.step), .pure (.int .i64 l.habit.place), .pure (.int .i64 l.habit.sink), .pure (l.sights.pv Sight.cells 9), v2])
    obtain ⟨s, hsx, hfr⟩ := OwnV.sl (f := Note.cells) (sz := 4) (n := 9) (fun _ => rfl) hx
    obtain ⟨hm, hle⟩ := note_le (m := ⟨l.habit, l.sights, s⟩) hrS.h rfl rfl (by
      show s.xs.Sublist _
      rw [hsx, ← List.eraseIdx_eq_take_drop_succ]
      exact List.eraseIdx_sublist ..)
    have hcall : callP G 60 27 [.agg (⟨l.habit, l.sights, s⟩ : Life).cells] = some (.int .i64 (fewestV ⟨l.habit, l.sights, s⟩)) := e27 48 _ (shortR hm)
    have hfz : FrzL (H2.set 0 (.cells true [.pure (.int .i64 l.habit.step), .pure (.int .i64 l.habit.place), .pure (.int .i64 l.habit.sink), .pure (l.sights.pv Sight.cells 9), v2])) true depthF [aggV [.pure (.int .i64 l.habit.step), .pure (.int .i64 l.habit.place), .pure (.int .i64 l.habit.sink), .pure (l.sights.pv Sight.cells 9), v2]] [.agg (⟨l.habit, l.sights, s⟩ : Life).cells] :=
      .cons (FrzK.aggV (n := 11) (.cons (.pure (n := 10) _) (.cons (.pure (n := 10) _) (.cons (.pure (n := 10) _) (.cons (.pure (n := 10) _) (.cons hfr .nil)))))) .nil
    refine wpE_own (ps := [.agg (⟨l.habit, l.sights, s⟩ : Life).cells]) (caps := []) (by decide) hfz hcall rfl ?_
    generalize fewestV ⟨l.habit, l.sights, s⟩ = W at *
    clear hfz hcall hx hfr o3' hm hsx
    (repeat' first | simp [*, initEnv] | (refine wpIf_two (fun _ h => ?_) (fun _ h => ?_) <;> try simp [-Nat.le_zero_eq] at h) | (apply wpE_appendV; (focus (first | assumption | (repeat' first | assumption | with_reducible apply GrowV.setNew | with_reducible apply GrowV.alloc | with_reducible apply GrowV.set | (with_reducible show ¬ Names _ _; simp [*]; done)))); (focus (exact fun _ => rfl)); (focus decide); (focus (intro a; first | rfl | simp)); (focus (simp [maxCells] <;> omega))) | (refine after_intro fun v2 H2 hv2 hnx2 hget2 hnew2 hone2 hcel2 => ?_))
  · have hn0 : l.notes.xs = [] := List.eq_nil_of_length_eq_zero (by omega)
    have hn1 : ¬ (0 : Int) < l.notes.xs.length := by omega
    have hfits : ∀ H, doCall (calleeOf G 60) H (.pure (.func 9 [])) [.pure (.agg l.cells), .pure (c.pv intF 1)] = some (.val (.pure (if givenS l c.xs = 0 then .tup [.bool (tellS l c.xs).isSome, .int .i64 0] else .tup [.bool false, .int .i64 (givenS l c.xs)]))) := fun H => d9 52 H l.habit.step l.habit.place l.habit.sink l.sights l.notes c (shortR hr) (by omega)
    have hcase : (1 < l.sights.xs.length ∧ (∀ H, doCall (calleeOf G 60) H (.pure (.func 27 [])) [.pure (.agg (firstP l).cells)] = some (.val (.pure (.int .i64 (fewestV (firstP l)))))) ∧ (∀ H, doCall (calleeOf G 60) H (.pure (.func 27 [])) [.pure (.agg (lastP l).cells)] = some (.val (.pure (.int .i64 (fewestV (lastP l)))))) ∧ fewestV (firstP l) ≤ fewestV l ∧ fewestV (lastP l) ≤ fewestV l) ∨ l.sights.xs.length ≤ 1 := by
      rcases Nat.lt_or_ge 1 l.sights.xs.length with h | h
      · exact .inl ⟨h, fun H => d27 48 H l.habit.step l.habit.place l.habit.sink (l.sights.sub 1 l.sights.xs.length) l.notes (shortR (right_first hr h)), fun H => d27 48 H l.habit.step l.habit.place l.habit.sink (l.sights.sub 0 (l.sights.xs.length - 1)) l.notes (shortR (right_last hr h)), first_le hr hn0 h, last_le hr hn0 h⟩
      · exact .inr h
    have hrN : Hide (l.notes.xs = []) := ⟨hn0⟩
    simp only [Life.cells] at hfits
    by_cases hg : givenS l c.xs = 0
    case neg =>
      simp only [if_neg hg] at hfits
      clear hr hn0
      rcases hcase with ⟨hs1, hF, hL, le1, le2⟩ | hs1
      · generalize fewestV (firstP l) = F1 at *
        generalize fewestV (lastP l) = L1 at *
        simp only [Life.cells, firstP, lastP] at hF hL
        have h0 : 0 < l.sights.xs.length := by omega
        have hfl9 : l.sights.xs.length < 9223372036854775807 := by omega
        have hpr : l.sights.xs.length - 1 ≤ l.sights.xs.length := by omega
        (repeat' first | simp [*, initEnv, c5] | (refine wpIf_two (fun _ h => ?_) (fun _ h => ?_) <;> try simp [-Nat.le_zero_eq] at h) | (apply wpE_appendV; (focus (first | assumption | (repeat' first | assumption | with_reducible apply GrowV.setNew | with_reducible apply GrowV.alloc | with_reducible apply GrowV.set | (with_reducible show ¬ Names _ _; simp [*]; done)))); (focus (exact fun _ => rfl)); (focus decide); (focus (intro a; first | rfl | simp)); (focus (simp [maxCells] <;> omega))) | (refine after_intro fun v2 H2 hv2 hnx2 hget2 hnew2 hone2 hcel2 => ?_))
        all_goals omega
      · have hs1' : ¬ (1 : Int) < l.sights.xs.length := by omega
        clear hs1
        (repeat' first | simp [*, initEnv, c5] | (refine wpIf_two (fun _ h => ?_) (fun _ h => ?_) <;> try simp [-Nat.le_zero_eq] at h) | (apply wpE_appendV; (focus (first | assumption | (repeat' first | assumption | with_reducible apply GrowV.setNew | with_reducible apply GrowV.alloc | with_reducible apply GrowV.set | (with_reducible show ¬ Names _ _; simp [*]; done)))); (focus (exact fun _ => rfl)); (focus decide); (focus (intro a; first | rfl | simp)); (focus (simp [maxCells] <;> omega))) | (refine after_intro fun v2 H2 hv2 hnx2 hget2 hnew2 hone2 hcel2 => ?_))
    simp only [if_pos hg] at hfits
    cases hfit : (tellS l c.xs).isSome with
    | false =>
      rw [hfit] at hfits
      clear hr hn0
      rcases hcase with ⟨hs1, hF, hL, le1, le2⟩ | hs1
      · generalize fewestV (firstP l) = F1 at *
        generalize fewestV (lastP l) = L1 at *
        simp only [Life.cells, firstP, lastP] at hF hL
        have h0 : 0 < l.sights.xs.length := by omega
        have hfl9 : l.sights.xs.length < 9223372036854775807 := by omega
        have hpr : l.sights.xs.length - 1 ≤ l.sights.xs.length := by omega
        (repeat' first | simp [*, initEnv, c5] | (refine wpIf_two (fun _ h => ?_) (fun _ h => ?_) <;> try simp [-Nat.le_zero_eq] at h) | (apply wpE_appendV; (focus (first | assumption | (repeat' first | assumption | with_reducible apply GrowV.setNew | with_reducible apply GrowV.alloc | with_reducible apply GrowV.set | (with_reducible show ¬ Names _ _; simp [*]; done)))); (focus (exact fun _ => rfl)); (focus decide); (focus (intro a; first | rfl | simp)); (focus (simp [maxCells] <;> omega))) | (refine after_intro fun v2 H2 hv2 hnx2 hget2 hnew2 hone2 hcel2 => ?_))
        all_goals omega
      · have hs1' : ¬ (1 : Int) < l.sights.xs.length := by omega
        clear hs1
        (repeat' first | simp [*, initEnv, c5] | (refine wpIf_two (fun _ h => ?_) (fun _ h => ?_) <;> try simp [-Nat.le_zero_eq] at h) | (apply wpE_appendV; (focus (first | assumption | (repeat' first | assumption | with_reducible apply GrowV.setNew | with_reducible apply GrowV.alloc | with_reducible apply GrowV.set | (with_reducible show ¬ Names _ _; simp [*]; done)))); (focus (exact fun _ => rfl)); (focus decide); (focus (intro a; first | rfl | simp)); (focus (simp [maxCells] <;> omega))) | (refine after_intro fun v2 H2 hv2 hnx2 hget2 hnew2 hone2 hcel2 => ?_))
    | true =>
      rw [hfit] at hfits
      by_cases hc0 : c.xs.length = 0
      · clear hr hn0
        rcases hcase with ⟨hs1, hF, hL, le1, le2⟩ | hs1
        · generalize fewestV (firstP l) = F1 at *
          generalize fewestV (lastP l) = L1 at *
          simp only [Life.cells, firstP, lastP] at hF hL
          have h0 : 0 < l.sights.xs.length := by omega
          have hfl9 : l.sights.xs.length < 9223372036854775807 := by omega
          have hpr : l.sights.xs.length - 1 ≤ l.sights.xs.length := by omega
          (repeat' first | simp [*, initEnv, c5] | (refine wpIf_two (fun _ h => ?_) (fun _ h => ?_) <;> try simp [-Nat.le_zero_eq] at h) | (apply wpE_appendV; (focus (first | assumption | (repeat' first | assumption | with_reducible apply GrowV.setNew | with_reducible apply GrowV.alloc | with_reducible apply GrowV.set | (with_reducible show ¬ Names _ _; simp [*]; done)))); (focus (exact fun _ => rfl)); (focus decide); (focus (intro a; first | rfl | simp)); (focus (simp [maxCells] <;> omega))) | (refine after_intro fun v2 H2 hv2 hnx2 hget2 hnew2 hone2 hcel2 => ?_))
          all_goals omega
        · have hs1' : ¬ (1 : Int) < l.sights.xs.length := by omega
          clear hs1
          (repeat' first | simp [*, initEnv, c5] | (refine wpIf_two (fun _ h => ?_) (fun _ h => ?_) <;> try simp [-Nat.le_zero_eq] at h) | (apply wpE_appendV; (focus (first | assumption | (repeat' first | assumption | with_reducible apply GrowV.setNew | with_reducible apply GrowV.alloc | with_reducible apply GrowV.set | (with_reducible show ¬ Names _ _; simp [*]; done)))); (focus (exact fun _ => rfl)); (focus decide); (focus (intro a; first | rfl | simp)); (focus (simp [maxCells] <;> omega))) | (refine after_intro fun v2 H2 hv2 hnx2 hget2 hnew2 hone2 hcel2 => ?_))
      obtain ⟨j, hj0, hj⟩ : ∃ j : Nat, (k : Int).tmod (c.xs.length : Int) = (j : Int) ∧ j < c.xs.length := ⟨k % c.xs.length, (Int.ofNat_tmod _ _).symm, Nat.mod_lt _ (by omega)⟩
      have hkw : IntKind.i64.wrap (k : Int) = (k : Int) := wrap_i64 (by omega) (by omega)
      have hrem : ∀ d, vbin .rem d (.pure (.int .i64 (k : Int))) (.pure (.int .i64 (c.xs.length : Int))) = some (.pure (.int .i64 (j : Int))) := fun d => by rw [vbin_rem (by omega), hj0]
      have hsc : ∀ H', sliceCells H' 1 (.pure (c.pv intF 1)) = some (rowOf intF c.xs, c.xs.length) := fun H' => sliceCells_sl' (H := H') (f := intF) (sz := 1) (fun _ => rfl) c
      have hsc' : Hide _ := ⟨hsc⟩
      have hgg : Hide _ := ⟨hg⟩
      have hfit' : Hide _ := ⟨hfit⟩
      clear hsc hg hfit hr hn0
      rcases hcase with ⟨hs1, hF, hL, le1, le2⟩ | hs1
      case' inl =>
        generalize fewestV (firstP l) = F1 at *
        generalize fewestV (lastP l) = L1 at *
        simp only [Life.cells, firstP, lastP] at hF hL
        have h0 : 0 < l.sights.xs.length := by omega
        have hfl9 : l.sights.xs.length < 9223372036854775807 := by omega
        have hpr : l.sights.xs.length - 1 ≤ l.sights.xs.length := by omega
        (repeat' first | simp [*, initEnv, c5] | (refine wpIf_two (fun _ h => ?_) (fun _ h => ?_) <;> try simp [-Nat.le_zero_eq] at h) | (apply wpE_appendV; (focus (first | assumption | (repeat' first | assumption | with_reducible apply GrowV.setNew | with_reducible apply GrowV.alloc | with_reducible apply GrowV.set | (with_reducible show ¬ Names _ _; simp [*]; done)))); (focus (exact fun _ => rfl)); (focus decide); (focus (intro a; first | rfl | simp)); (focus (simp [maxCells] <;> omega))) | (refine after_intro fun v2 H2 hv2 hnx2 hget2 hnew2 hone2 hcel2 => ?_))
        all_goals try (exfalso; omega)
      case' inr =>
        have hs1' : ¬ (1 : Int) < l.sights.xs.length := by omega
        clear hs1
        (repeat' first | simp [*, initEnv, c5] | (refine wpIf_two (fun _ h => ?_) (fun _ h => ?_) <;> try simp [-Nat.le_zero_eq] at h) | (apply wpE_appendV; (focus (first | assumption | (repeat' first | assumption | with_reducible apply GrowV.setNew | with_reducible apply GrowV.alloc | with_reducible apply GrowV.set | (with_reducible show ¬ Names _ _; simp [*]; done)))); (focus (exact fun _ => rfl)); (focus decide); (focus (intro a; first | rfl | simp)); (focus (simp [maxCells] <;> omega))) | (refine after_intro fun v2 H2 hv2 hnx2 hget2 hnew2 hone2 hcel2 => ?_))
      all_goals
        refine wpE_appendL (f := intF) (l := []) (m := c.xs) (.inr ⟨_, rfl, by simp [rowOf]⟩) (fun _ => rfl) (by decide) (fun _ => rfl) (hsc'.h _) (by simp only [List.length_nil, maxCells]; omega) ?_
        rintro v1 H1 o1 hx1 hsame1 hnames1
        rw [List.nil_append] at o1
        obtain ⟨id, rfl, g1⟩ := o1.row (by intro e; rw [e] at hj; simp at hj)
        have hl1 := nx_of_get g1
        have hcall : ∀ (s : Sl Int), givenS l s.xs = 0 → fitP l s.xs = true → s.xs.length < 1000 → callP G 60 9 [.agg l.cells, s.pv intF 1] = some (.tup [.bool true, .int .i64 0]) := fun s h1 h2 h3 => by
          have := e9 52 l s (shortR hrS.h) h3
          rw [if_pos h1, show (tellS l s.xs).isSome = true from h2] at this
          exact this
        have hcall' : Hide _ := ⟨hcall⟩
        clear hsame1 hnames1 hx1 o1 hsc' hcall
        (repeat' first | simp [*, initEnv] | (refine wpIf_two (fun _ h => ?_) (fun _ h => ?_) <;> try simp [-Nat.le_zero_eq] at h) | (apply wpE_appendV; (focus (first | assumption | (repeat' first | assumption | with_reducible apply GrowV.setNew | with_reducible apply GrowV.alloc | with_reducible apply GrowV.set | (with_reducible show ¬ Names _ _; simp [*]; done)))); (focus (exact fun _ => rfl)); (focus decide); (focus (intro a; first | rfl | simp)); (focus (simp [maxCells] <;> omega))) | (refine after_intro fun v2 H2 hv2 hnx2 hget2 hnew2 hone2 hcel2 => ?_))
        · obtain ⟨s, hsx, hfr⟩ := row_sl (f := intF) (sz := 1) (n := 10) (H := H1.set id (.cells true (rowOf intF (c.xs.set j 1)))) (fun _ => rfl) (get_set_same hl1) (show (c.xs.set j 1).length = c.xs.length by simp)
          have hz : c.xs[j]! = 0 := by rw [getElem!_pos c.xs j hj]; assumption
          refine wpE_own (ps := [.agg l.cells, s.pv intF 1]) (caps := []) (by decide) (.cons (.pure (n := 11) _) (.cons hfr .nil)) (hcall'.h s (by rw [hsx]; exact given_more hj hgg.h) (by rw [hsx]; exact fit_more hrS.h hrN.h (given_zero hgg.h).2.1 hj hz hfit'.h) (by rw [hsx]; simp; omega)) rfl ?_
          clear hfr hsx
          (repeat' first | simp [*, initEnv] | (refine wpIf_two (fun _ h => ?_) (fun _ h => ?_) <;> try simp [-Nat.le_zero_eq] at h) | (apply wpE_appendV; (focus (first | assumption | (repeat' first | assumption | with_reducible apply GrowV.setNew | with_reducible apply GrowV.alloc | with_reducible apply GrowV.set | (with_reducible show ¬ Names _ _; simp [*]; done)))); (focus (exact fun _ => rfl)); (focus decide); (focus (intro a; first | rfl | simp)); (focus (simp [maxCells] <;> omega))) | (refine after_intro fun v2 H2 hv2 hnx2 hget2 hnew2 hone2 hcel2 => ?_))
        · obtain ⟨s, hsx, hfr⟩ := row_sl (f := intF) (sz := 1) (n := 10) (H := H1) (fun _ => rfl) g1 rfl
          refine wpE_own (ps := [.agg l.cells, s.pv intF 1]) (caps := []) (by decide) (.cons (.pure (n := 11) _) (.cons hfr .nil)) (hcall'.h s (by rw [hsx]; exact hgg.h) (by rw [hsx]; exact hfit'.h) (by rw [hsx]; omega)) rfl ?_
          clear hfr hsx
          (repeat' first | simp [*, initEnv] | (refine wpIf_two (fun _ h => ?_) (fun _ h => ?_) <;> try simp [-Nat.le_zero_eq] at h) | (apply wpE_appendV; (focus (first | assumption | (repeat' first | assumption | with_reducible apply GrowV.setNew | with_reducible apply GrowV.alloc | with_reducible apply GrowV.set | (with_reducible show ¬ Names _ _; simp [*]; done)))); (focus (exact fun _ => rfl)); (focus decide); (focus (intro a; first | rfl | simp)); (focus (simp [maxCells] <;> omega))) | (refine after_intro fun v2 H2 hv2 hnx2 hget2 hnew2 hone2 hcel2 => ?_))
end Go.Proofs.YtjjkgamklbgnlaaGreat.Vm
