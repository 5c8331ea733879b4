/- Reasoning about runs of the machine of values: what must hold ahead of a piece of code. -/
import Derived.Test.YtjjkgamklbgnlaaGreatVmSound
namespace Go.Proofs.YtjjkgamklbgnlaaGreat.Vm
open Go

def calleeOf (G : Prog) (n : Nat) : Callee where
  pure := callP G n
  shared := G.shared
  run := fun f xs H => call G n (.fn f) xs H
  yield := fun id xs H => call G n (.yield id) xs H

theorem call_fn (G : Prog) (n f : Nat) (args : List AV) (H : Heap) : Vm.call G (n + 1) (.fn f) args H = match G.extRun f args H with
      | some r => some r
      | none => match G.func f with
        | none => none
        | some fn =>
          if args.length = fn.nargs then
            match exec (calleeOf G n) fn.body (initEnv args) H with
            | some (.normal, env, H') | some (.ret, env, H') => match Vm.results env H' fn.results with
              | some v => some (v, H')
              | none => none
            | _ => none
          else none := rfl

/-- A mark that keeps simp out of the term that it marks (the term is fixed, for a type depends on it). -/
inductive Tag {α : Type} (a : α) : Type
  | mk
section
variable {cl : Callee} {env : Env} {H : Heap}

/-! ### Operations -/
def wpE (pre : Nat) (r : Option Eff) (H : Heap) (k : AV → Heap → Prop) (_ : Tag (H, k)) : Prop := ∃ e, r = some e ∧ ¬ (pre ≠ 0 ∧ isUpd e = true) ∧ k (apply H e).1 (apply H e).2
theorem wpE_val {pre : Nat} {v : AV} {k : AV → Heap → Prop} {u} : wpE pre (some (.val v)) H k u ↔ k v H := by
  constructor
  · rintro ⟨e, he, _, h⟩; simp at he; subst he; exact h
  · intro h; exact ⟨_, rfl, by simp [isUpd], h⟩
theorem wpE_new {pre : Nat} {o : AObj} {f : Nat → AV} {k : AV → Heap → Prop} {u} : wpE pre (some (.new o f)) H k u ↔ k (f H.nx) (H.alloc o) := by
  constructor
  · rintro ⟨e, he, _, h⟩; simp at he; subst he; exact h
  · intro h; exact ⟨_, rfl, by simp [isUpd], h⟩
theorem wpE_upd {v : AV} {H' : Heap} {k : AV → Heap → Prop} {u} : wpE 0 (some (.upd v H')) H k u ↔ k v H' := by
  constructor
  · rintro ⟨e, he, _, h⟩; simp at he; subst he; exact h
  · intro h; exact ⟨_, rfl, by simp, h⟩

/-- A branch that waits for its condition. -/
def wpIf (c : Bool) (A B : Prop) (_ : Tag (A, B)) : Prop := if c = true then A else B
/-- A guard's bit. -/
def wpG (b : Bool) (v : AV) (A B : Prop) (_ : Tag (A, B)) : Prop :=
  match v with
  | .pure (.bool c) => if c = b then A else B
  | .tup [] => B
  | _ => False

def wpO (cl : Callee) (pre : Nat) (ops : List VOper) (env : Env) (H : Heap) (K : Env → Heap → Prop) (_ : Tag (ops, env, H, K)) : Prop := ∃ r, runOps cl pre ops env H = some r ∧ K r.1 r.2
theorem wpO_nil {pre : Nat} {K : Env → Heap → Prop} {u} : wpO cl pre [] env H K u ↔ K env H := by
  constructor
  · rintro ⟨r, hr, h⟩; simp [runOps] at hr; subst hr; exact h
  · intro h; exact ⟨(env, H), rfl, h⟩
theorem wpO_cons {pre : Nat} {d : Option Nat} {op : VOp} {os : List VOper} {K : Env → Heap → Prop} {u} :
    wpO cl pre (⟨d, op, none⟩ :: os) env H K u ↔ wpE pre (step cl env H op) H (fun v H' => wpO cl (pre - 1) os (putAt env d v) H' K .mk) .mk := by
  constructor
  · rintro ⟨r, hr, h⟩
    simp only [runOps, wanted] at hr
    split at hr
    · simp at hr
    · rename_i e he
      split at hr
      · simp at hr
      · rename_i hc
        exact ⟨e, he, hc, r, hr, h⟩
  · rintro ⟨e, he, hc, r, hr, h⟩
    refine ⟨r, ?_, h⟩
    simp only [runOps, wanted, he]
    rw [if_neg hc]
    exact hr
theorem wpO_guard {pre : Nat} {d : Option Nat} {op : VOp} {g : Nat} {b : Bool} {os : List VOper} {K : Env → Heap → Prop} {u} :
    wpO cl pre (⟨d, op, some (some g, b)⟩ :: os) env H K u ↔ wpG b (env g) (wpE pre (step cl env H op) H (fun v H' => wpO cl (pre - 1) os (putAt env d v) H' K .mk) .mk) (wpO cl (pre - 1) os (putAt env d (.tup [])) H K .mk) .mk := by
  have main : ∀ c, wanted env (some (some g, b)) = some c → (wpO cl pre (⟨d, op, some (some g, b)⟩ :: os) env H K u ↔
      if c = true then (wpE pre (step cl env H op) H (fun v H' => wpO cl (pre - 1) os (putAt env d v) H' K .mk) .mk) else (wpO cl (pre - 1) os (putAt env d (.tup [])) H K .mk)) := by
    intro c hc
    cases c with
    | false =>
      simp only [Bool.false_eq_true, if_false]
      constructor
      · rintro ⟨r, hr, h⟩; simp only [runOps, hc] at hr; exact ⟨r, hr, h⟩
      · rintro ⟨r, hr, h⟩; exact ⟨r, by simp only [runOps, hc]; exact hr, h⟩
    | true =>
      simp only [if_true]
      constructor
      · rintro ⟨r, hr, h⟩
        simp only [runOps, hc] at hr
        split at hr
        · simp at hr
        · rename_i e he
          split at hr
          · simp at hr
          · rename_i hc'
            exact ⟨e, he, hc', r, hr, h⟩
      · rintro ⟨e, he, hc', r, hr, h⟩
        refine ⟨r, ?_, h⟩
        simp only [runOps, hc, he]
        rw [if_neg hc']
        exact hr
  have bad : wanted env (some (some g, b)) = none → (wpO cl pre (⟨d, op, some (some g, b)⟩ :: os) env H K u ↔ False) := by
    intro hc
    constructor
    · rintro ⟨r, hr, h⟩; simp [runOps, hc] at hr
    · exact False.elim
  unfold wpG
  split
  · rename_i c hv
    rw [main (c == b) (by simp only [wanted, hv])]
    cases c <;> cases b <;> simp
  · rename_i hv
    rw [main false (by simp only [wanted, hv])]
    simp
  · rename_i h1 h2
    refine bad ?_
    simp only [wanted]

theorem upd_apply {α : Type} (f : Nat → α) (i j : Nat) (v : α) : upd f i v j = if j = i then v else f j := rfl
theorem putAt_some {α : Type} (f : Nat → α) (i : Nat) (v : α) : putAt f (some i) v = upd f i v := rfl
theorem putAt_none {α : Type} (f : Nat → α) (v : α) : putAt f none v = f := rfl
theorem eval_tmp (t : Nat) : Opnd.eval env (.tmp t) = env t := rfl
theorem eval_const (p : PV) : Opnd.eval env (.const p) = .pure p := rfl

def dsts (ops : List VOper) : List Nat := ops.filterMap (·.dst)
theorem putAt_ne {env : Env} {d : Option Nat} {v : AV} {t : Nat} (h : d ≠ some t) : putAt env d v t = env t := by
  cases d with
  | none => rfl
  | some i =>
    have : t ≠ i := fun e => h (by rw [e])
    simp [putAt, upd, this]
theorem runOps_frame : ∀ {pre : Nat} {ops : List VOper} {env : Env} {H : Heap} {r : Env × Heap}, runOps cl pre ops env H = some r → ∀ t, (dsts ops).contains t = false → r.1 t = env t
  | pre, [], env, H, r, h, t, _ => by simp [runOps] at h; subst h; rfl
  | pre, o :: os, env, H, r, h, t, ht => by
    have h1 : o.dst ≠ some t := fun e => by simp [dsts, List.filterMap_cons, e] at ht
    have h2 : (dsts os).contains t = false := by
      cases hd : o.dst with
      | none => simpa [dsts, List.filterMap_cons, hd] using ht
      | some i =>
        simp only [dsts, List.filterMap_cons, hd, List.contains_cons, Bool.or_eq_false_iff] at ht
        exact ht.2
    unfold runOps at h
    split at h
    · simp at h
    · exact (runOps_frame h t h2).trans (putAt_ne h1)
    · split at h
      · simp at h
      · split at h
        · simp at h
        · exact (runOps_frame h t h2).trans (putAt_ne h1)

/-! ### Code -/
def wp (cl : Callee) (c : VCode) (env : Env) (H : Heap) (Q : VExit → Env → Heap → Prop) (_ : Tag (c, env, H, Q)) : Prop := ∃ x env' H', exec cl c env H = some (x, env', H') ∧ Q x env' H'
variable {Q : VExit → Env → Heap → Prop}
theorem wp.mono {c : VCode} {Q' : VExit → Env → Heap → Prop} {u u'} (h : wp cl c env H Q u) (hq : ∀ x e h, Q x e h → Q' x e h) : wp cl c env H Q' u' := by
  obtain ⟨x, e, h', h1, h2⟩ := h
  exact ⟨x, e, h', h1, hq _ _ _ h2⟩
theorem wp_skip {u} : wp cl .skip env H Q u ↔ Q .normal env H := by
  constructor
  · rintro ⟨x, e, h, h1, h2⟩; simp [exec] at h1; obtain ⟨rfl, rfl, rfl⟩ := h1; exact h2
  · intro h; exact ⟨_, _, _, rfl, h⟩
theorem wp_exit {i : Nat} {u} : wp cl (.exit i) env H Q u ↔ Q (.exit i) env H := by
  constructor
  · rintro ⟨x, e, h, h1, h2⟩; simp [exec] at h1; obtain ⟨rfl, rfl, rfl⟩ := h1; exact h2
  · intro h; exact ⟨_, _, _, rfl, h⟩
theorem wp_ret {u} : wp cl .ret env H Q u ↔ Q .ret env H := by
  constructor
  · rintro ⟨x, e, h, h1, h2⟩; simp [exec] at h1; obtain ⟨rfl, rfl, rfl⟩ := h1; exact h2
  · intro h; exact ⟨_, _, _, rfl, h⟩
theorem wp_region {pre : Option Nat} {ops : List VOper} {u} : wp cl (.region pre ops) env H Q u ↔ wpO cl (pre.getD 0) ops env H (Q .normal) .mk := by
  constructor
  · rintro ⟨x, e, h, h1, h2⟩
    simp only [exec] at h1
    split at h1
    · rename_i e' h' hr
      simp at h1
      obtain ⟨rfl, rfl, rfl⟩ := h1
      exact ⟨_, hr, h2⟩
    · simp at h1
  · rintro ⟨⟨e, h⟩, hr, h2⟩
    exact ⟨_, _, _, by simp only [exec, hr], h2⟩
/-- What must hold behind the first of two pieces. -/
def seqQ (cl : Callee) (b : VCode) (Q : VExit → Env → Heap → Prop) (x : VExit) (e : Env) (h : Heap) : Prop := match x with
  | .normal => wp cl b e h Q .mk
  | x => Q x e h
theorem seqQ_normal {b : VCode} {e : Env} {h : Heap} : seqQ cl b Q .normal e h ↔ wp cl b e h Q .mk := Iff.rfl
theorem seqQ_ret {b : VCode} {e : Env} {h : Heap} : seqQ cl b Q .ret e h ↔ Q .ret e h := Iff.rfl
theorem seqQ_exit {b : VCode} {i : Nat} {e : Env} {h : Heap} : seqQ cl b Q (.exit i) e h ↔ Q (.exit i) e h := Iff.rfl
theorem wp_seq {a b : VCode} {u} : wp cl (.seq a b) env H Q u ↔ wp cl a env H (seqQ cl b Q) .mk := by
  constructor
  · rintro ⟨x, e, h, h1, h2⟩
    simp only [exec] at h1
    split at h1
    · rename_i e' h' hr
      exact ⟨_, _, _, hr, x, e, h, h1, h2⟩
    · rename_i hn
      refine ⟨x, e, h, h1, ?_⟩
      cases x with
      | normal => exact absurd h1 (by intro hh; exact hn _ _ hh)
      | exit i => exact h2
      | ret => exact h2
  · rintro ⟨x, e, h, h1, h2⟩
    cases x with
    | normal =>
      obtain ⟨x', e', h', h3, h4⟩ := h2
      exact ⟨x', e', h', by simp only [exec, h1]; exact h3, h4⟩
    | exit i => exact ⟨_, _, _, by simp only [exec, h1], h2⟩
    | ret => exact ⟨_, _, _, by simp only [exec, h1], h2⟩
def wpC (v : AV) (A B : Prop) (_ : Tag (A, B)) : Prop := match v with
  | .pure (.bool c) => wpIf c A B .mk
  | _ => False
theorem wp_cond {c : Opnd} {a b : VCode} {u} : wp cl (.cond c a b) env H Q u ↔ wpC (c.eval env) (wp cl a env H Q .mk) (wp cl b env H Q .mk) .mk := by
  unfold wpC
  constructor
  · rintro ⟨x, e, h, h1, h2⟩
    simp only [exec] at h1
    split at h1
    · rename_i t ht
      rw [ht]
      cases t with
      | true => exact ⟨x, e, h, by simpa using h1, h2⟩
      | false => exact ⟨x, e, h, by simpa using h1, h2⟩
    · simp at h1
  · intro hw
    split at hw
    · rename_i t ht
      cases t with
      | true =>
        obtain ⟨x, e, h, h1, h2⟩ := hw
        exact ⟨x, e, h, by simp only [exec, ht]; exact h1, h2⟩
      | false =>
        obtain ⟨x, e, h, h1, h2⟩ := hw
        exact ⟨x, e, h, by simp only [exec, ht]; exact h1, h2⟩
    · exact hw.elim
/-- What must hold inside of a block. -/
def blockQ (id : Nat) (Q : VExit → Env → Heap → Prop) (x : VExit) (e : Env) (h : Heap) : Prop := match x with
  | .exit i => if i = id then Q .normal e h else Q (.exit i) e h
  | x => Q x e h
theorem blockQ_normal {id : Nat} {e : Env} {h : Heap} : blockQ id Q .normal e h ↔ Q .normal e h := Iff.rfl
theorem blockQ_ret {id : Nat} {e : Env} {h : Heap} : blockQ id Q .ret e h ↔ Q .ret e h := Iff.rfl
theorem blockQ_same {id : Nat} {e : Env} {h : Heap} : blockQ id Q (.exit id) e h ↔ Q .normal e h := by simp [blockQ]
theorem blockQ_other {id i : Nat} {e : Env} {h : Heap} (hi : i ≠ id) : blockQ id Q (.exit i) e h ↔ Q (.exit i) e h := by simp [blockQ, hi]
/-- What must hold behind a round of a loop. -/
def loopQ (P : Env → Heap → Prop) (Q : VExit → Env → Heap → Prop) (x : VExit) (e : Env) (h : Heap) : Prop := match x with
  | .normal => P e h
  | x => Q x e h
theorem loopQ_normal {P : Env → Heap → Prop} {e : Env} {h : Heap} : loopQ P Q .normal e h ↔ P e h := Iff.rfl
theorem loopQ_ret {P : Env → Heap → Prop} {e : Env} {h : Heap} : loopQ P Q .ret e h ↔ Q .ret e h := Iff.rfl
theorem loopQ_exit {P : Env → Heap → Prop} {i : Nat} {e : Env} {h : Heap} : loopQ P Q (.exit i) e h ↔ Q (.exit i) e h := Iff.rfl
theorem wp_block {id : Nat} {c : VCode} {u} : wp cl (.block id c) env H Q u ↔ wp cl c env H (blockQ id Q) .mk := by
  constructor
  · rintro ⟨x, e, h, h1, h2⟩
    simp only [exec] at h1
    split at h1
    · rename_i i e' h' hr
      refine ⟨_, _, _, hr, ?_⟩
      show if i = id then _ else _
      split at h1
      · rename_i hi
        simp at h1
        obtain ⟨rfl, rfl, rfl⟩ := h1
        rw [if_pos hi]; exact h2
      · rename_i hi
        simp at h1
        obtain ⟨rfl, rfl, rfl⟩ := h1
        rw [if_neg hi]; exact h2
    · rename_i hn
      refine ⟨x, e, h, h1, ?_⟩
      cases x with
      | normal => exact h2
      | ret => exact h2
      | exit i => exact absurd h1 (by intro hh; exact hn _ _ _ hh)
  · rintro ⟨x, e, h, h1, h2⟩
    cases x with
    | normal => exact ⟨_, _, _, by simp only [exec, h1], h2⟩
    | ret => exact ⟨_, _, _, by simp only [exec, h1], h2⟩
    | exit i =>
      by_cases hi : i = id
      · subst hi
        simp only [blockQ, if_true] at h2
        exact ⟨_, _, _, by simp only [exec, h1, if_true], h2⟩
      · simp only [blockQ, if_neg hi] at h2
        exact ⟨_, _, _, by simp only [exec, h1, if_neg hi], h2⟩
theorem wp_loop {c : VCode} {σ : Type} (I : σ → Env → Heap → Prop) (m : σ → Nat) (s : σ) (h0 : I s env H) (hm : m s < loopFuel)
    (hb : ∀ s env H, I s env H → wp cl c env H (loopQ (fun e h => ∃ s', m s' < m s ∧ I s' e h) Q) .mk) {u} : wp cl (.loop c) env H Q u := by
  have main : ∀ k s env H, m s < k → I s env H → ∃ x env' H', iter (exec cl c) k env H = some (x, env', H') ∧ Q x env' H' := by
    intro k
    induction k with
    | zero => intro s env H hk; omega
    | succ k ih =>
      intro s env H hk hI
      obtain ⟨x, e, h, h1, h2⟩ := hb s env H hI
      cases x with
      | normal =>
        obtain ⟨s', hs', hI'⟩ := h2
        obtain ⟨x', e', h', h3, h4⟩ := ih s' e h (by omega) hI'
        exact ⟨x', e', h', by simp only [iter, h1]; exact h3, h4⟩
      | exit i => exact ⟨_, _, _, by simp only [iter, h1], h2⟩
      | ret => exact ⟨_, _, _, by simp only [iter, h1], h2⟩
  obtain ⟨x, e, h, h1, h2⟩ := main loopFuel s env H hm h0
  exact ⟨x, e, h, by simp only [exec]; exact h1, h2⟩

/-- What a region leaves behind, forgetting how. -/
theorem wp_mid {pre : Option Nat} {ops : List VOper} {b : VCode} (P : Env → Heap → Prop) (h1 : wpO cl (pre.getD 0) ops env H P .mk)
    (h2 : ∀ e h, (∀ t, (dsts ops).contains t = false → e t = env t) → P e h → wp cl b e h Q .mk) {u} : wp cl (.seq (.region pre ops) b) env H Q u := by
  rw [wp_seq, wp_region]
  obtain ⟨r, hr, hp⟩ := h1
  exact ⟨r, hr, h2 _ _ (runOps_frame hr) hp⟩

/-! ### Functions -/
def wpR (rs : List VRes) (r : PV) (x : VExit) (env : Env) (H : Heap) : Prop :=
  (∀ i, x ≠ .exit i) ∧ ∃ v, results env H rs = some v ∧ ∃ ids, freeze H false depthF v = some (r, ids)
theorem wpR_ret {rs : List VRes} {r : PV} : wpR rs r .ret env H ↔ ∃ v, results env H rs = some v ∧ ∃ ids, freeze H false depthF v = some (r, ids) := by
  simp [wpR]
theorem wpR_normal {rs : List VRes} {r : PV} : wpR rs r .normal env H ↔ ∃ v, results env H rs = some v ∧ ∃ ids, freeze H false depthF v = some (r, ids) := by
  simp [wpR]
theorem callP_of {G : Prog} {n f : Nat} {fn : VFunc} {args : List PV} {r : PV} (hx : G.ext f = none) (hr : G.extRun f (args.map .pure) Heap.empty = none) (hf : G.func f = some fn) (hl : args.length = fn.nargs)
    (h : wp (calleeOf G n) fn.body (initEnv (args.map .pure)) Heap.empty (wpR fn.results r) .mk) : callP G (n + 1) f args = some r := by
  obtain ⟨x, e, h', h1, h2, v, h3, ids, h4⟩ := h
  unfold callP
  rw [hx]
  simp only
  rw [call_fn, hr, hf]
  simp only [List.length_map, hl, if_true, h1]
  cases x with
  | exit i => exact absurd rfl (h2 i)
  | normal => simp only [h3, h4, Option.map_some]
  | ret => simp only [h3, h4, Option.map_some]
end
end Go.Proofs.YtjjkgamklbgnlaaGreat.Vm
