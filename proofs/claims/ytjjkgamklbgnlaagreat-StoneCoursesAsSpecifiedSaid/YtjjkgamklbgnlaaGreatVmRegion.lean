/- A region of operations, in the order of its text, or in whatever order it may be drawn. -/
import Derived.Test.YtjjkgamklbgnlaaGreatVmMono
namespace Go.Proofs.YtjjkgamklbgnlaaGreat.Vm
open Go Go.RowKit
set_option linter.unusedVariables false
set_option linter.unusedSimpArgs false

abbrev markOf (r : Nat) : Deferred := { target := .collected r, args := #[] }

/-- The machine's state stands for the model's. 'lo': from which block on the marks of loops lie. -/
structure R (C : Comp) (S : Bool → Nat → Prop) (base lo nt : Nat) (φ : Phi) (H : Heap) (env : Env) (a : Act) (w : World) : Prop where
  heap : HRel C S base φ H w
  env : ERel (Imm S base φ H w) φ w env a
  size : a.tmps.size = nt
  lole : lo ≤ w.heap.size
  defs : ∃ marks : List Nat, a.defers = marks.map markOf ∧ marks.Nodup ∧ ∀ r ∈ marks, lo ≤ r ∧ w.heap[r]? = some (.deferred (some []))

section
variable {C : Comp} {P : Program} {Z : List Nat} {S : Bool → Nat → Prop} {base lo nt : Nat} {φ φ' : Phi} {H H' : Heap} {w w' : World} {env env' : Env} {a : Act} {e : Eff} {o : Oper}
variable {ro : Option Nat} {n : Nat} {K : Act → World → Prop} {Q : Exit → Act → World → Prop}

/-- What is neither cells nor a loop of one's own is not written to. -/
theorem not_mut_deferred (hH : HRel C S base φ H w) {r : Nat} {x : Option (List Deferred)} (h : w.heap[r]? = some (.deferred x)) : ¬ Mut φ H r := by
  rintro ⟨id, m, hid, hl⟩
  have ho := hH.obj _ _ _ hid
  cases hg : H.get id with
  | dead => rw [hg] at hl; simp [AObj.live] at hl
  | cells own cs =>
    rw [hg] at ho
    obtain ⟨c, t, fz, h1, _⟩ := ho
    rw [h] at h1
    simp at h1
  | loop l =>
    rw [hg] at ho
    obtain ⟨l', h1, _⟩ := ho
    rw [h] at h1
    simp at h1

theorem defs_evo (hH : HRel C S base φ H w) (hev : Evo φ H w φ' H' w') {ds : List Deferred} (h : ∃ marks : List Nat, ds = marks.map markOf ∧ marks.Nodup ∧ ∀ r ∈ marks, lo ≤ r ∧ w.heap[r]? = some (.deferred (some []))) :
    ∃ marks : List Nat, ds = marks.map markOf ∧ marks.Nodup ∧ ∀ r ∈ marks, lo ≤ r ∧ w'.heap[r]? = some (.deferred (some [])) := by
  obtain ⟨marks, h1, h2, h3⟩ := h
  refine ⟨marks, h1, h2, fun r hr => ?_⟩
  obtain ⟨h4, h5⟩ := h3 r hr
  have hlt : r < w.heap.size := by
    rcases Nat.lt_or_ge r w.heap.size with h | h
    · exact h
    · rw [Array.getElem?_eq_none h] at h5; simp at h5
  exact ⟨h4, (hev.same r hlt (not_mut_deferred hH h5)).trans h5⟩

theorem put_getD {d : Option Nat} {v : Value} (hd : ∀ i, d = some i → i < a.tmps.size) (t : Nat) : (a.put d v).tmps.getD t undef = if d = some t then v else a.tmps.getD t undef := by
  cases d with
  | none => simp [Act.put]
  | some i =>
    have hi := hd i rfl
    simp only [Act.put]
    by_cases h : i = t
    · subst h; simp [hi]
    · simp [h]
theorem put_size {d : Option Nat} {v : Value} : (a.put d v).tmps.size = a.tmps.size := by cases d <;> simp [Act.put]
theorem put_defers' {d : Option Nat} {v : Value} : (a.put d v).defers = a.defers := by cases d <;> rfl

theorem R.put (h : R C S base lo nt φ H env a w) (hev : Evo φ H w φ' H' w') (hH : HRel C S base φ' H' w') {d : Option Nat} {av : AV} {v : Value} (hd : ∀ i, d = some i → i < nt) (hv : VRel (Imm S base φ' H' w') φ' w' av v) :
    R C S base lo nt φ' H' (putAt env d av) (a.put d v) w' := by
  refine ⟨hH, fun t => ?_, by rw [put_size]; exact h.size, Nat.le_trans h.lole hev.size, ?_⟩
  · rw [put_getD (by rw [h.size]; exact hd)]
    by_cases ht : d = some t
    · subst ht
      simp [putAt, upd]
      exact hv
    · rw [if_neg ht]
      have e : putAt env d av t = env t := by
        cases d with
        | none => rfl
        | some i => simp only [putAt, upd]; rw [if_neg (fun e => ht (by rw [e]))]
      rw [e]
      exact hev.vrel (h.env t)
  · rw [put_defers']
    exact defs_evo h.heap hev h.defs

/-- After an operation, in the order of the text. -/
theorem R.after (h : R C S base lo nt φ H env a w) {d : Option Nat} {v : Value} (hd : ∀ i, d = some i → i < nt) (hp : EPost C S base φ H w e v w') :
    ∃ φ', Evo φ H w φ' (apply H e).2 w' ∧ R C S base lo nt φ' (apply H e).2 (putAt env d (apply H e).1) (a.put d v) w' := by
  cases e with
  | val av =>
    obtain ⟨h1, h2⟩ := hp
    exact ⟨φ, Evo.of_below h1, h.put (Evo.of_below h1) (h.heap.below h1) hd h2⟩
  | new ob f =>
    obtain ⟨b, m, h1, h2, h3, h4, h5⟩ := hp
    have := h.heap.new (H' := H.alloc ob) (id := H.nx) h1 (phi_fresh h.heap) get_alloc_new (fun i hi _ => get_alloc_ne hi) (Nat.lt_succ_self _) (Nat.le_succ _) h2 h3 h4
    exact ⟨_, this.1, h.put this.1 this.2 hd (h5 _ _ _ (phiSet_same _ _))⟩
  | upd av H1 =>
    obtain ⟨φ', h1, h2, h3⟩ := hp
    exact ⟨φ', h1, h.put h1 h2 hd h3⟩

theorem undef_rel {I : Bool → Nat → Prop} : VRel I φ w (.tup []) undef := .tup [] #[] rfl fun i p v h => by simp at h

theorem wanted_rel {I : Bool → Nat → Prop} (hE : ERel I φ w env a) {ops : Array Oper} {g : Option (Nat × Bool)} {g' : Option (Option Nat × Bool)} (hg : compileGuard ops g = some g') {b : Bool} (hw : wanted env g' = some b) (hgo : o.guard = g) :
    Region.wanted o (yielded ops a.tmps) = b := by
  unfold compileGuard at hg
  split at hg
  · simp at hg; subst hg
    simp [wanted] at hw; subst hw
    simp [Region.wanted, hgo]
  · rename_i j want
    split at hg
    · rename_i oj hj
      split at hg
      · rename_i d hd
        simp at hg; subst hg
        simp only [wanted] at hw
        have hv := hE d
        simp only [Region.wanted, hgo, yielded, hj, Option.bind_some, hd]
        split at hw
        · rename_i x e1
          rw [e1] at hv
          simp at hw; subst hw
          have := hv.bool_inv
          have hlt : d < a.tmps.size := by
            rcases Nat.lt_or_ge d a.tmps.size with h | h
            · exact h
            · simp [Array.getElem?_eq_none h, undef] at this
          have : a.tmps[d]? = some (.bool x) := by simpa [hlt] using this
          rw [this]
          rfl
        · rename_i e1
          rw [e1] at hv
          simp at hw; subst hw
          obtain ⟨vs, e2, e3, _⟩ := hv.tup_inv
          have hemp : vs = #[] := Array.eq_empty_of_size_eq_zero (by simpa using e3.symm)
          subst hemp
          rcases Nat.lt_or_ge d a.tmps.size with h | h
          · have : a.tmps[d]? = some (.tuple #[]) := by simpa [h] using e2
            rw [this]
            rfl
          · simp [Array.getElem?_eq_none h]
        · simp at hw
      · simp at hg
    · simp at hg

theorem compileOper_parts {ops : Array Oper} {v : VOper} (h : compileOper P Z nt ops o = some v) : v.op = (compileOp P Z o).getD .stuck ∧ compileGuard ops o.guard = some v.guard ∧ v.dst = o.dst ∧ ∀ i, o.dst = some i → i < nt := by
  unfold compileOper at h
  split at h
  · rename_i g' h2
    split at h
    · rename_i d hd
      split at h
      · rename_i hlt
        simp at h; subst h
        exact ⟨rfl, h2, hd.symm, fun i hi => by rw [hd] at hi; simp at hi; rw [← hi]; exact hlt⟩
      · simp at h
    · rename_i hd
      simp at h; subst h
      exact ⟨rfl, h2, hd.symm, fun i hi => by rw [hd] at hi; simp at hi⟩
  · simp at h

/-- In the order of the text. -/
theorem runOps_seq {cl : Callee} (hcl : CalleeOk C P cl) {ops : Array Oper} : ∀ (l : List Oper) (vs : List VOper) (k : Nat) (env : Env) (H : Heap) (φ : Phi) (a : Act) (w : World) (env' : Env) (H' : Heap),
    (∀ j, l[j]? = ops[k + j]?) → compileOpers P Z nt ops l = some vs → runOps cl 0 vs env H = some (env', H') → R C S base lo nt φ H env a w →
    (∀ φ' a' w', Evo φ H w φ' H' w' → R C S base lo nt φ' H' env' a' w' → Q .normal a' w') → wpOpsIn (Fw ro) n P ops Q (List.range' k l.length) a w := by
  intro l
  induction l with
  | nil =>
    intro vs k env H φ a w env' H' hl hc hr hR hQ
    simp [compileOpers] at hc
    subst hc
    simp [runOps] at hr
    obtain ⟨rfl, rfl⟩ := hr
    simp only [List.length_nil, List.range'_zero, wpOpsIn]
    exact hQ φ a w Evo.refl hR
  | cons o l ih =>
    intro vs k env H φ a w env' H' hl hc hr hR hQ
    unfold compileOpers at hc
    split at hc
    · simp at hc
    · rename_i v hv
      split at hc
      · simp at hc
      · rename_i vs' hvs
        simp at hc
        subst hc
        obtain ⟨p1, p2, p3, p4⟩ := compileOper_parts hv
        have h0 : ops[k]? = some o := by simpa using (hl 0).symm
        have hl' : ∀ j, l[j]? = ops[k + 1 + j]? := fun j => by have := hl (j + 1); simpa [Nat.add_assoc, Nat.add_comm 1 j] using this
        unfold runOps at hr
        split at hr
        · simp at hr
        · rename_i hw
          have hw' := wanted_rel hR.env p2 hw rfl
          simp only [List.length_cons, List.range'_succ, wpOpsIn, h0, hw', Bool.false_eq_true, if_false]
          refine ⟨fun _ _ => trivial, ?_⟩
          have hR' := hR.put Evo.refl hR.heap (d := o.dst) p4 (undef_rel (φ := φ) (w := w))
          rw [p3] at hr
          exact ih _ _ _ _ _ _ _ _ _ hl' hvs hr hR' hQ
        · rename_i hw
          have hw' := wanted_rel hR.env p2 hw rfl
          simp only [List.length_cons, List.range'_succ, wpOpsIn, h0, hw', if_true]
          split at hr
          · simp at hr
          · rename_i e he
            split at hr
            · rename_i hc; exact absurd rfl hc.1
            · refine op_wp hcl hR.heap hR.env p1 he fun v w' hp => ?_
              obtain ⟨φ', h1, h2⟩ := hR.after (d := o.dst) p4 hp
              rw [p3] at hr
              exact ih _ _ _ _ _ _ _ _ _ hl' hvs hr h2 fun φ'' a' w'' h3 h4 => hQ φ'' a' w'' (h1.trans h3) h4

/-! ### A drawn order -/

/-- What the first operations of a region come to, each seen from the end. -/
structure Sol (cl : Callee) (vs : List VOper) (pre : Nat) (env : Env) (H : Heap) (envp : Env) (Hp : Heap) (ids : Nat → Nat) : Prop where
  ext : HExt H Hp
  nx : H.nx ≤ Hp.nx
  keep : ∀ id, id < H.nx → Hp.get id = H.get id
  old : ∀ t, (∀ (i : Nat) (v : VOper), i < pre → vs[i]? = some v → v.dst ≠ some t) → envp t = env t
  idlo : ∀ i, i < pre → H.nx ≤ ids i
  idinj : ∀ i j, i < pre → j < pre → (∃ v o f, vs[i]? = some v ∧ step cl envp Hp v.op = some (.new o f) ∧ wanted envp v.guard = some true) → (∃ v o f, vs[j]? = some v ∧ step cl envp Hp v.op = some (.new o f) ∧ wanted envp v.guard = some true) → ids i = ids j → i = j
  each : ∀ (i : Nat) (v : VOper), i < pre → vs[i]? = some v → (wanted envp v.guard = some false ∧ (∀ d, v.dst = some d → envp d = .tup [])) ∨
    (wanted envp v.guard = some true ∧ ∃ e, step cl envp Hp v.op = some e ∧ isUpd e = false ∧
      (match e with
       | .val av => ∀ d, v.dst = some d → envp d = av
       | .new o f => ids i < Hp.nx ∧ Hp.get (ids i) = o ∧ ∀ d, v.dst = some d → envp d = f (ids i)
       | .upd _ _ => False))

theorem hext_refl : HExt H H := fun _ _ => rfl
theorem hext_trans {H1 H2 H3 : Heap} (h : HExt H1 H2) (k : HExt H2 H3) : HExt H1 H3 := fun id hid => (k id (by rw [h id hid]; exact hid)).trans (h id hid)
theorem hext_alloc (o : AObj) : HExt H (H.alloc o) := fun id hid => get_alloc_ne (fun e => by
  subst e
  exact absurd (lt_of_get hid) (Nat.lt_irrefl _))

theorem runOps_cons (cl : Callee) (pre : Nat) (v : VOper) (vs : List VOper) (env : Env) (H : Heap) : runOps cl pre (v :: vs) env H = match wanted env v.guard with
    | none => none
    | some false => runOps cl (pre - 1) vs (putAt env v.dst (.tup [])) H
    | some true => match step cl env H v.op with
      | none => none
      | some e => if pre ≠ 0 ∧ isUpd e then none else runOps cl (pre - 1) vs (putAt env v.dst (apply H e).1) (apply H e).2 := rfl

theorem runOps_split (cl : Callee) : ∀ (pre : Nat) (vs : List VOper) (env : Env) (H : Heap) (r : Env × Heap), pre ≤ vs.length → runOps cl pre vs env H = some r →
    ∃ envp Hp, runOps cl pre (vs.take pre) env H = some (envp, Hp) ∧ runOps cl 0 (vs.drop pre) envp Hp = some r
  | 0, vs, env, H, r, hl, h => ⟨env, H, by simp [runOps], by simpa using h⟩
  | pre + 1, [], env, H, r, hl, h => by simp at hl
  | pre + 1, v :: vs, env, H, r, hl, h => by
    simp only [List.take_succ_cons, List.drop_succ_cons, runOps_cons] at h ⊢
    split at h
    · simp at h
    · exact runOps_split cl pre vs _ _ r (by simpa using hl) h
    · split at h
      · simp at h
      · split at h
        · simp at h
        · rename_i hc
          rw [if_neg hc]
          exact runOps_split cl pre vs _ _ r (by simpa using hl) h

theorem step_new_ne {cl : Callee} {op : VOp} {ob : AObj} {f : Nat → AV} (h : step cl env H op = some (.new ob f)) : ob ≠ .dead := by
  cases op <;> simp only [step] at h
  case call g xs =>
    exfalso
    revert h
    simp only [doCall]
    (repeat' split) <;> simp
  case append sz b x y =>
    revert h
    simp only [doAppend]
    (repeat' split) <;> simp <;> (intro h; subst h; simp)
  all_goals
    revert h
    (repeat' split) <;> simp <;> (try (intro h _; rw [← h]; simp)) <;> (try (intro _ h; subst h; simp))

/-- The reads of an operation are not written behind it, and each slot is written once. -/
def Once (vs : List VOper) : Prop := ∀ (i j : Nat) (a b : VOper), vs[i]? = some a → vs[j]? = some b → ∀ d, b.dst = some d → (i ≠ j → a.dst ≠ some d) ∧ (d ∈ a.reads → j < i)

theorem Once.tail {v : VOper} {vs : List VOper} (h : Once (v :: vs)) : Once vs := fun i j a b ha hb d hd => by
  have := h (i + 1) (j + 1) a b (by simpa using ha) (by simpa using hb) d hd
  exact ⟨fun hij => this.1 (fun e => hij (Nat.succ.inj e)), fun hm => by have := this.2 hm; omega⟩

theorem reads_wanted {v : VOper} {env env' : Env} (h : ∀ t ∈ v.reads, env t = env' t) : wanted env v.guard = wanted env' v.guard := by
  obtain ⟨dst, op, g⟩ := v
  cases g with
  | none => rfl
  | some g =>
    obtain ⟨d, want⟩ := g
    cases d with
    | none => rfl
    | some d =>
      simp only [wanted]
      rw [h d (by simp [VOper.reads])]

theorem sol_of_run (cl : Callee) : ∀ (vs : List VOper) (env : Env) (H : Heap) (envp : Env) (Hp : Heap) (pre : Nat), vs.length ≤ pre → Once vs → runOps cl pre vs env H = some (envp, Hp) → ∃ ids, Sol cl vs vs.length env H envp Hp ids
  | [], env, H, envp, Hp, pre, hl, ho, h => by
    simp [runOps] at h
    obtain ⟨rfl, rfl⟩ := h
    exact ⟨fun _ => H.nx, ⟨hext_refl, Nat.le_refl _, fun _ _ => rfl, fun _ _ => rfl, fun i hi => by simp at hi, fun i j hi => by simp at hi, fun i v hi => by simp at hi⟩⟩
  | v :: vs, env, H, envp, Hp, pre, hl, ho, h => by
    simp only [List.length_cons] at hl
    have hpre : pre ≠ 0 := by omega
    -- slots: what this one reads and writes is not written any more
    have hread : ∀ t ∈ v.reads, ∀ (j : Nat) b, vs[j]? = some b → b.dst ≠ some t := fun t ht j b hb hd => by
      have := (ho 0 (j + 1) v b rfl (by simpa using hb) t hd).2 ht
      omega
    have hdst : ∀ d, v.dst = some d → ∀ (j : Nat) b, vs[j]? = some b → b.dst ≠ some d := fun d hd j b hb hd' => by
      have := (ho 0 (j + 1) v b rfl (by simpa using hb) d hd').1 (by omega)
      exact this hd
    have hself : ∀ d, v.dst = some d → d ∉ v.reads := fun d hd hm => by
      have := (ho 0 0 v v rfl rfl d hd).2 hm
      omega
    rw [runOps_cons] at h
    split at h
    · simp at h
    · rename_i hw
      obtain ⟨ids, hs⟩ := sol_of_run cl vs _ _ _ _ (pre - 1) (by omega) ho.tail h
      have hold : ∀ t ∈ v.reads, envp t = env t := fun t ht => by
        rw [hs.old t fun i b hi hb => hread t ht i b hb]
        cases hd : v.dst with
        | none => rfl
        | some d => simp only [putAt, upd]; rw [if_neg (fun (e : t = d) => hself d hd (e ▸ ht))]
      have hw' : wanted envp v.guard = some false := by rw [reads_wanted hold]; exact hw
      refine ⟨fun i => match i with | 0 => H.nx | i + 1 => ids i, ⟨hs.ext, hs.nx, hs.keep, fun t ht => ?_, fun i hi => ?_, fun i j hi hj hvi hvj hij => ?_, fun i b hi hb => ?_⟩⟩
      · rw [hs.old t fun i b hi hb => ht (i + 1) b (by simp; omega) (by simpa using hb)]
        have := ht 0 v (by simp) rfl
        cases hd : v.dst with
        | none => rfl
        | some d => simp only [putAt, upd]; rw [if_neg (fun e => this (by rw [hd, e]))]
      · cases i with
        | zero => exact Nat.le_refl _
        | succ i => exact hs.idlo i (by simpa using hi)
      · cases i with
        | zero => obtain ⟨b, o, f, e1, _, e3⟩ := hvi; simp at e1; subst e1; rw [hw'] at e3; simp at e3
        | succ i =>
          cases j with
          | zero => obtain ⟨b, o, f, e1, _, e3⟩ := hvj; simp at e1; subst e1; rw [hw'] at e3; simp at e3
          | succ j => rw [hs.idinj i j (by simpa using hi) (by simpa using hj) (by simpa using hvi) (by simpa using hvj) hij]
      · cases i with
        | zero =>
          simp at hb
          subst hb
          refine .inl ⟨hw', fun d hd => ?_⟩
          rw [hs.old d fun i b hi hb => hdst d hd i b hb, hd]
          simp [putAt, upd]
        | succ i =>
          simp only [List.length_cons] at hi
          exact hs.each i b (by omega) (by simpa using hb)
    · rename_i hw
      split at h
      · simp at h
      · rename_i e he
        split at h
        · simp at h
        · rename_i hcond
          have hup : isUpd e = false := by
            cases hb : isUpd e with
            | false => rfl
            | true => exact absurd ⟨hpre, hb⟩ hcond
          obtain ⟨ids, hs⟩ := sol_of_run cl vs _ _ _ _ (pre - 1) (by omega) ho.tail h
          have hold : ∀ t ∈ v.reads, envp t = env t := fun t ht => by
            rw [hs.old t fun i b hi hb => hread t ht i b hb]
            cases hd : v.dst with
            | none => rfl
            | some d => simp only [putAt, upd]; rw [if_neg (fun (e : t = d) => hself d hd (e ▸ ht))]
          have hw' : wanted envp v.guard = some true := by rw [reads_wanted hold]; exact hw
          have hext : HExt H (apply H e).2 ∧ H.nx ≤ (apply H e).2.nx := by
            cases e with
            | val av => exact ⟨hext_refl, Nat.le_refl _⟩
            | new o f => exact ⟨hext_alloc o, Nat.le_succ _⟩
            | upd av H' => simp [isUpd] at hup
          have hext' := hext_trans hext.1 hs.ext
          have hkeep : ∀ id, id < H.nx → (apply H e).2.get id = H.get id := fun id hid => by
            cases e with
            | val av => rfl
            | new o f => exact get_alloc_ne (by omega)
            | upd av H' => simp [isUpd] at hup
          have he' : step cl envp Hp v.op = some e := by
            refine step_mono hext' hup ?_
            rw [step_congr (env' := env) fun t ht => hold t (by simp [VOper.reads, ht])]
            exact he
          have hput : ∀ d, v.dst = some d → envp d = (apply H e).1 := fun d hd => by
            rw [hs.old d fun i b hi hb => hdst d hd i b hb, hd]
            simp [putAt, upd]
          refine ⟨fun i => match i with | 0 => H.nx | i + 1 => ids i, ⟨hext', Nat.le_trans hext.2 hs.nx, fun id hid => (hs.keep id (Nat.lt_of_lt_of_le hid hext.2)).trans (hkeep id hid), fun t ht => ?_, fun i hi => ?_, fun i j hi hj hvi hvj hij => ?_, fun i b hi hb => ?_⟩⟩
          · rw [hs.old t fun i b hi hb => ht (i + 1) b (by simp; omega) (by simpa using hb)]
            have := ht 0 v (by simp) rfl
            cases hd : v.dst with
            | none => rfl
            | some d => simp only [putAt, upd]; rw [if_neg (fun e => this (by rw [hd, e]))]
          · cases i with
            | zero => exact Nat.le_refl _
            | succ i => exact Nat.le_trans hext.2 (hs.idlo i (by simpa using hi))
          · -- a fresh name is not given again
            have first : ∀ j, j < vs.length → (∃ b o f, (v :: vs)[0]? = some b ∧ step cl envp Hp b.op = some (.new o f) ∧ wanted envp b.guard = some true) → H.nx ≠ ids j := by
              rintro j hj ⟨b, o, f, e1, e2, _⟩
              simp at e1
              subst e1
              rw [he'] at e2
              simp at e2
              subst e2
              have h1 := hs.idlo j hj
              have h2 : (apply H (.new o f)).2.nx = H.nx + 1 := rfl
              omega
            cases i with
            | zero =>
              cases j with
              | zero => rfl
              | succ j => exact absurd hij (first j (by simpa using hj) hvi)
            | succ i =>
              cases j with
              | zero => exact absurd hij.symm (first i (by simpa using hi) hvj)
              | succ j => rw [hs.idinj i j (by simpa using hi) (by simpa using hj) (by simpa using hvi) (by simpa using hvj) hij]
          · cases i with
            | zero =>
              simp at hb
              subst hb
              refine .inr ⟨hw', e, he', hup, ?_⟩
              cases e with
              | val av => exact hput
              | new o f =>
                refine ⟨Nat.lt_of_lt_of_le (Nat.lt_succ_self _) hs.nx, ?_, hput⟩
                have h1 : (H.alloc o).get H.nx = o := get_alloc_new
                have h2 := hs.ext H.nx (by show (H.alloc o).get H.nx ≠ _; rw [h1]; exact step_new_ne he)
                exact h2.trans h1
              | upd av H' => simp [isUpd] at hup
            | succ i =>
              simp only [List.length_cons] at hi
              exact hs.each i b (by omega) (by simpa using hb)
end
end Go.Proofs.YtjjkgamklbgnlaaGreat.Vm
