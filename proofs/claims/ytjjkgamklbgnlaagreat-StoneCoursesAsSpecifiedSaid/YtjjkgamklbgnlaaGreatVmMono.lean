/- An operation looks at its operands alone, and goes on to do so when more memory is there. -/
import Derived.Test.YtjjkgamklbgnlaaGreatVmStep
namespace Go.Proofs.YtjjkgamklbgnlaaGreat.Vm
open Go Go.RowKit
set_option linter.unusedVariables false
set_option linter.unusedSimpArgs false

section
variable {env env' : Env} {H H' : Heap} {cl : Callee}
theorem eval_congr {x : Opnd} (h : ∀ t ∈ opndTmp x, env t = env' t) : x.eval env = x.eval env' := by
  cases x with
  | tmp t => exact h t (by simp [opndTmp])
  | const p => rfl
theorem evals_congr {xs : List Opnd} (h : ∀ t ∈ xs.flatMap opndTmp, env t = env' t) : xs.map (fun x => x.eval env) = xs.map (fun x => x.eval env') :=
  List.map_congr_left fun x hx => eval_congr fun t ht => h t (List.mem_flatMap.2 ⟨x, hx, ht⟩)
theorem parts_congr {ps : List (Nat × Nat × Opnd)} (h : ∀ t ∈ ps.flatMap (fun p => opndTmp p.2.2), env t = env' t) : evalParts env ps = evalParts env' ps :=
  List.map_congr_left fun p hp => by
    obtain ⟨o, s, x⟩ := p
    simp only
    rw [eval_congr (x := x) fun t ht => h t (List.mem_flatMap.2 ⟨_, hp, ht⟩)]
theorem bound_congr {n d : Nat} {x : Option Opnd} (h : ∀ t ∈ (x.map opndTmp).getD [], env t = env' t) : bound env n d x = bound env' n d x := by
  cases x with
  | none => rfl
  | some x =>
    unfold bound
    simp only
    rw [eval_congr (x := x) fun t ht => h t (by simpa using ht)]

theorem step_congr {op : VOp} (h : ∀ t ∈ op.reads, env t = env' t) : step cl env H op = step cl env' H op := by
  cases op <;> simp only [VOp.reads] at h <;> simp only [step]
  case mov x => rw [eval_congr h]
  case pick c a b =>
    rw [eval_congr (x := c) fun t ht => h t (by simp [ht]), eval_congr (x := a) fun t ht => h t (by simp [ht]), eval_congr (x := b) fun t ht => h t (by simp [ht])]
  case box x => rw [eval_congr h]
  case build z ps => rw [parts_congr h]
  case buildSlice sz z ps => rw [parts_congr h]
  case load g s x => rw [eval_congr h]
  case store s a x => rw [eval_congr (x := a) fun t ht => h t (by simp [ht]), eval_congr (x := x) fun t ht => h t (by simp [ht])]
  case nilCheck x => rw [eval_congr h]
  case bin op d a x => rw [eval_congr (x := a) fun t ht => h t (by simp [ht]), eval_congr (x := x) fun t ht => h t (by simp [ht])]
  case aggEq n s o a x => rw [eval_congr (x := a) fun t ht => h t (by simp [ht]), eval_congr (x := x) fun t ht => h t (by simp [ht])]
  case un op x => rw [eval_congr h]
  case toInt k x => rw [eval_congr h]
  case strSame x => rw [eval_congr h]
  case toBytes x => rw [eval_congr h]
  case toStr x => rw [eval_congr h]
  case makeFunc f xs => rw [evals_congr h]
  case makeSlice s b z a x => rw [eval_congr (x := a) fun t ht => h t (by simp [ht]), eval_congr (x := x) fun t ht => h t (by simp [ht])]
  case slice sz x lo hi =>
    have e1 := eval_congr (x := x) (env := env) (env' := env') fun t ht => h t (by simp [ht])
    have e2 : ∀ n d, bound env n d lo = bound env' n d lo := fun n d => bound_congr fun t ht => h t (by simp [ht])
    have e3 : ∀ n d, bound env n d hi = bound env' n d hi := fun n d => bound_congr fun t ht => h t (by simp [ht])
    simp only [e1, e2, e3]
  case substr x lo hi =>
    have e1 := eval_congr (x := x) (env := env) (env' := env') fun t ht => h t (by simp [ht])
    have e2 : ∀ n d, bound env n d lo = bound env' n d lo := fun n d => bound_congr fun t ht => h t (by simp [ht])
    have e3 : ∀ n d, bound env n d hi = bound env' n d hi := fun n d => bound_congr fun t ht => h t (by simp [ht])
    simp only [e1, e2, e3]
  case slice3 sz x lo hi mx =>
    have e1 := eval_congr (x := x) (env := env) (env' := env') fun t ht => h t (by simp [ht])
    have e2 : ∀ n d, bound env n d lo = bound env' n d lo := fun n d => bound_congr fun t ht => h t (by simp [ht])
    have e3 : ∀ n d, bound env n d (some hi) = bound env' n d (some hi) := fun n d => bound_congr fun t ht => h t (by simp at ht; simp [ht])
    have e4 : ∀ n d, bound env n d (some mx) = bound env' n d (some mx) := fun n d => bound_congr fun t ht => h t (by simp at ht; simp [ht])
    simp only [e1, e2, e3, e4]
  case capSl x => rw [eval_congr h]
  case boxF x => rw [eval_congr h]
  case appendZ s b z a x => rw [eval_congr (x := a) fun t ht => h t (by simp [ht]), eval_congr (x := x) fun t ht => h t (by simp [ht])]
  case idle i x => rw [eval_congr h]
  case fieldAddr off x => rw [eval_congr h]
  case field off s g x => rw [eval_congr h]
  case indexAddr sz arr x i => rw [eval_congr (x := x) fun t ht => h t (by simp [ht]), eval_congr (x := i) fun t ht => h t (by simp [ht])]
  case index sz l g x i => rw [eval_congr (x := x) fun t ht => h t (by simp [ht]), eval_congr (x := i) fun t ht => h t (by simp [ht])]
  case byteAt x i => rw [eval_congr (x := x) fun t ht => h t (by simp [ht]), eval_congr (x := i) fun t ht => h t (by simp [ht])]
  case extract i x => rw [eval_congr h]
  case call f xs => rw [eval_congr (x := f) fun t ht => h t (by simp [ht]), evals_congr (xs := xs) fun t ht => h t (by simp only [List.mem_append]; exact .inr ht)]
  case lenStr x => rw [eval_congr h]
  case lenSl x => rw [eval_congr h]
  case append s b a x => rw [eval_congr (x := a) fun t ht => h t (by simp [ht]), eval_congr (x := x) fun t ht => h t (by simp [ht])]
  case minmax m xs => rw [evals_congr h]
  case clear z x => rw [eval_congr h]

def HExt (H H' : Heap) : Prop := ∀ id, H.get id ≠ .dead → H'.get id = H.get id

theorem HExt.cells (h : HExt H H') {id : Nat} {b : Bool} {cs : List AV} (hg : H.get id = .cells b cs) : H'.get id = .cells b cs := (h id (by rw [hg]; simp)).trans hg

theorem freezeL_mono {fr fr' : AV → Option (PV × List Nat)} (hfr : ∀ v r, fr v = some r → fr' v = some r) : ∀ {cs : List AV} {r : List PV × List Nat}, freezeL fr cs = some r → freezeL fr' cs = some r
  | [], r, h => h
  | c :: cs, r, h => by
    unfold freezeL at h ⊢
    split at h
    · simp at h
    · rename_i p is hp
      rw [hfr _ _ hp]
      simp only
      split at h
      · simp at h
      · rename_i qs js hq
        rw [freezeL_mono hfr hq]
        exact h

theorem freeze_mono {k : Bool} (h : HExt H H') : ∀ (n : Nat) (v : AV) (r : PV × List Nat), freeze H k n v = some r → freeze H' k n v = some r := by
  intro n
  induction n with
  | zero => intro v r h; simp [freeze] at h
  | succ n ih =>
    intro v r hf
    unfold freeze at hf ⊢
    split at hf
    · exact hf
    · split at hf
      · rename_i e; rw [freezeL_mono ih e]; exact hf
      · simp at hf
    · split at hf
      · rename_i e; rw [freezeL_mono ih e]; exact hf
      · simp at hf
    · split at hf
      · rename_i e; rw [freezeL_mono ih e]; exact hf
      · simp at hf
    · split at hf
      · rename_i hg
        rw [h.cells hg]
        simp only
        split at hf
        · rename_i e; rw [freezeL_mono ih e]; exact hf
        · simp at hf
      · simp at hf
    · split at hf
      · rename_i hg
        rw [h.cells hg]
        simp only
        split at hf
        · rename_i e; rw [freezeL_mono ih e]; exact hf
        · simp at hf
      · simp at hf
    · simp at hf

theorem loadCells_mono (h : HExt H H') {s : Nat} {v : AV} {cs : List AV} (hl : loadCells H s v = some cs) : loadCells H' s v = some cs := by
  unfold loadCells at hl ⊢
  split at hl
  · exact hl
  · split at hl
    · rename_i hg; rw [h.cells hg]; exact hl
    · simp at hl
  · simp at hl

theorem sliceCells_mono (h : HExt H H') {s : Nat} {v : AV} {r : List AV × Nat} (hl : sliceCells H s v = some r) : sliceCells H' s v = some r := by
  unfold sliceCells at hl ⊢
  split at hl
  · exact hl
  · exact hl
  · split at hl
    · rename_i hs
      rw [if_pos hs]
      split at hl
      · rename_i hg; rw [h.cells hg]; exact hl
      · simp at hl
    · simp at hl
  · simp at hl

theorem step_mono (h : HExt H H') {op : VOp} {e : Eff} (he : isUpd e = false) (hs : step cl env H op = some e) : step cl env H' op = some e := by
  cases op <;> simp only [step] at hs ⊢
  case load g s x =>
    split at hs
    · rename_i cs hl; rw [loadCells_mono h hl]; exact hs
    · simp at hs
  case store s a x =>
    split at hs
    · split at hs
      · split at hs
        · simp at hs; subst hs; simp [isUpd] at he
        · simp at hs
      · simp at hs
    · simp at hs
  case slice sz x lo hi =>
    split at hs
    · exact hs
    · exact hs
    · rename_i id s off len hx
      split at hs
      · rename_i hss
        rw [if_pos hss]
        split at hs
        · rename_i N hN
          have : rowCap H' id sz off len = some N := by
            unfold rowCap at hN ⊢
            split at hN
            · rename_i own cs hg; rw [h.cells hg]; exact hN
            · simp at hN
          rw [this]
          exact hs
        · simp at hs
      · simp at hs
    · simp at hs
  case toStr x =>
    split at hs
    · rename_i cs m hl; rw [sliceCells_mono h hl]; exact hs
    · simp at hs
  case call f xs =>
    unfold doCall at hs ⊢
    have go : ∀ (g : Nat) (ys : List AV), (if cl.shared g then
        match cl.run g ys H with
        | some (v, H') => some (.upd v H')
        | none => none
      else
        match freezeL (freeze H true depthF) ys with
        | none => none
        | some (ps, ids) =>
          match cl.pure g ps with
          | none => none
          | some r => if ids.isEmpty || r.cold then some (.val (.pure r)) else some (.upd (.pure r) (H.freeze ids)) : Option Eff) = some e →
        (if cl.shared g then
        match cl.run g ys H' with
        | some (v, H') => some (.upd v H')
        | none => none
      else
        match freezeL (freeze H' true depthF) ys with
        | none => none
        | some (ps, ids) =>
          match cl.pure g ps with
          | none => none
          | some r => if ids.isEmpty || r.cold then some (.val (.pure r)) else some (.upd (.pure r) (H'.freeze ids)) : Option Eff) = some e := by
      intro g ys hg
      split at hg
      · split at hg
        · simp at hg; subst hg; simp [isUpd] at he
        · simp at hg
      · rename_i hsh
        rw [if_neg hsh]
        split at hg
        · simp at hg
        · rename_i ps ids hf
          rw [freezeL_mono (freeze_mono h depthF) hf]
          simp only
          split at hg
          · simp at hg
          · rename_i r hr
            split at hg
            · rename_i hc; rw [if_pos hc]; exact hg
            · simp at hg; subst hg; simp [isUpd] at he
    split at hs
    · exact go _ _ hs
    · exact go _ _ hs
    · split at hs
      · simp at hs; subst hs; simp [isUpd] at he
      · simp at hs
    · simp at hs
  case append s b a x =>
    unfold doAppend at hs ⊢
    split at hs
    · simp at hs
    · rename_i new m hl
      rw [sliceCells_mono h hl]
      simp only
      split at hs
      · simp at hs
      · rename_i hone
        rw [if_neg hone]
        split at hs
        · exact hs
        · split at hs
          · split at hs
            · split at hs
              · simp at hs; subst hs; simp [isUpd] at he
              · split at hs
                · simp at hs; subst hs; simp [isUpd] at he
                · simp at hs
            · simp at hs
          · simp at hs
        · simp at hs
  case clear z x =>
    split at hs
    · exact hs
    · split at hs
      · split at hs
        · split at hs
          · simp at hs; subst hs; simp [isUpd] at he
          · simp at hs
        · simp at hs
      · simp at hs
    · simp at hs
  all_goals exact hs
end
end Go.Proofs.YtjjkgamklbgnlaaGreat.Vm
