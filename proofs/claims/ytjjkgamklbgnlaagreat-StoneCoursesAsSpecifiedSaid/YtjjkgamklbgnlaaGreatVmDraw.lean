/- A region whose order is drawn. -/
import Derived.Test.YtjjkgamklbgnlaaGreatVmRegion
namespace Go.Proofs.YtjjkgamklbgnlaaGreat.Vm
open Go Go.RowKit
set_option linter.unusedVariables false
set_option linter.unusedSimpArgs false

theorem countP_set {p q : Nat → Bool} {i : Nat} (hi : p i = true) (hq : ∀ j, q j = if j = i then false else p j) : ∀ n, i < n → (List.range n).countP p = (List.range n).countP q + 1
  | 0, h => by omega
  | n + 1, h => by
    rw [List.range_succ, List.countP_append, List.countP_append]
    by_cases hn : n = i
    · subst hn
      have : (List.range n).countP p = (List.range n).countP q := by
        apply List.countP_congr
        intro j hj
        have : j ≠ n := by have := List.mem_range.1 hj; omega
        rw [hq, if_neg this]
      rw [this]
      simp [hi, hq]
    · rw [countP_set hi hq n (by omega)]
      have : q n = p n := by rw [hq, if_neg hn]
      simp only [List.countP_cons, List.countP_nil, this]
      omega

section
variable {C : Comp} {P : Program} {Z : List Nat} {S : Bool → Nat → Prop} {base lo nt : Nat} {φ φ' φ0 : Phi} {H H' : Heap} {w w' w0 : World} {env env' envp : Env} {a : Act} {e : Eff} {o : Oper} {Hp : Heap}
variable {ro : Option Nat} {n : Nat} {K : Act → World → Prop} {Q : Exit → Act → World → Prop}

theorem compileOpers_get {ops : Array Oper} : ∀ {l : List Oper} {vs : List VOper}, compileOpers P Z nt ops l = some vs → vs.length = l.length ∧ ∀ (i : Nat) v, vs[i]? = some v → ∃ o, l[i]? = some o ∧ compileOper P Z nt ops o = some v
  | [], vs, h => by simp [compileOpers] at h; subst h; exact ⟨rfl, fun i v h => by simp at h⟩
  | o :: l, vs, h => by
    unfold compileOpers at h
    split at h
    · simp at h
    · rename_i v hv
      split at h
      · simp at h
      · rename_i vs' hvs
        simp at h
        subst h
        have ih := compileOpers_get hvs
        refine ⟨by simp [ih.1], fun i u hu => ?_⟩
        cases i with
        | zero => simp at hu; subst hu; exact ⟨o, rfl, hv⟩
        | succ i => simp at hu; simpa using ih.2 i u hu

theorem compileOpers_drop {ops : Array Oper} : ∀ {l : List Oper} {vs : List VOper} (k : Nat), compileOpers P Z nt ops l = some vs → compileOpers P Z nt ops (l.drop k) = some (vs.drop k)
  | l, vs, 0, h => by simpa using h
  | [], vs, k + 1, h => by simp [compileOpers] at h; subst h; simp [compileOpers]
  | o :: l, vs, k + 1, h => by
    unfold compileOpers at h
    split at h
    · simp at h
    · split at h
      · simp at h
      · rename_i hvs
        simp at h
        subst h
        simpa using compileOpers_drop k hvs

/-- An operation waits for another one, at once or through others. -/
inductive Waits (ops : Array Oper) : Nat → Nat → Prop
  | edge (i : Nat) (o : Oper) (e : Edge) (h : ops[i]? = some o) (he : e ∈ o.after) (hb : Region.binds .any e = true) : Waits ops i e.on
  | trans (i j : Nat) (o : Oper) (e : Edge) (h : ops[i]? = some o) (he : e ∈ o.after) (hb : Region.binds .any e = true) (ht : Waits ops e.on j) : Waits ops i j

theorem Waits.done {ops : Array Oper} {L : Array Bool} (hc : ∀ i o, ops[i]? = some o → L.getD i true = true → ∀ e ∈ o.after, Region.binds .any e = true → L.getD e.on true = true)
    {i j : Nat} (h : Waits ops i j) : (∀ o, ops[i]? = some o → ∀ e ∈ o.after, Region.binds .any e = true → L.getD e.on true = true) → L.getD j true = true := by
  induction h with
  | edge i o e h he hb => intro hd; exact hd o h e he hb
  | trans i j o e h he hb ht ih => intro hd; exact ih fun o' ho' => hc _ o' ho' (hd o h e he hb)

theorem maskOf_spec {ops : Array Oper} {ms : List Nat} (hms : ∀ i j, (ms.getD i 0).testBit j = true → Waits ops i j) {i : Nat} {o : Oper} (ho : ops[i]? = some o) {j : Nat} (h : (maskOf ms o).testBit j = true) : Waits ops i j := by
  have main : ∀ (l : List Edge) (m : Nat), (∀ e ∈ l, e ∈ o.after) → (m.testBit j = true → Waits ops i j) →
      (l.foldl (fun m e => if Region.binds .any e then m ||| (2 ^ e.on) ||| ms.getD e.on 0 else m) m).testBit j = true → Waits ops i j := by
    intro l
    induction l with
    | nil => intro m _ hm h; exact hm h
    | cons e l ih =>
      intro m hl hm h
      refine ih _ (fun e' he' => hl e' (List.mem_cons_of_mem _ he')) (fun hb => ?_) h
      simp only at hb
      split at hb
      · rename_i hbi
        rw [Nat.testBit_or, Nat.testBit_or, Bool.or_eq_true, Bool.or_eq_true] at hb
        rcases hb with (hb | hb) | hb
        · exact hm hb
        · rw [Nat.testBit_two_pow] at hb
          simp at hb
          subst hb
          exact .edge i o e ho (hl e (List.mem_cons_self ..)) hbi
        · exact .trans i j o e ho (hl e (List.mem_cons_self ..)) hbi (hms _ _ hb)
      · exact hm hb
  exact main o.after.toList 0 (fun e he => by simpa using he) (fun h => by simp at h) h

theorem masks_spec {ops : Array Oper} : ∀ (os : List Oper) (ms : List Nat), (∀ k, os[k]? = ops[ms.length + k]?) → (∀ i j, (ms.getD i 0).testBit j = true → Waits ops i j) →
    ∀ i j, ((masks os ms).getD i 0).testBit j = true → Waits ops i j
  | [], ms, _, hms => hms
  | o :: os, ms, ho, hms => by
    unfold masks
    refine masks_spec os _ (fun k => ?_) fun i j h => ?_
    · have := ho (k + 1)
      simp only [List.getElem?_cons_succ] at this
      rw [this]
      simp only [List.length_append, List.length_cons, List.length_nil]
      congr 1
      omega
    · have h0 := ho 0
      simp only [List.getElem?_cons_zero, Nat.add_zero] at h0
      rcases Nat.lt_trichotomy i ms.length with hlt | heq | hgt
      · refine hms i j ?_
        simpa [List.getD_eq_getElem?_getD, List.getElem?_append_left hlt] using h
      · subst heq
        refine maskOf_spec hms h0.symm ?_
        simpa [List.getD_eq_getElem?_getD] using h
      · rw [List.getD_eq_getElem?_getD, List.getElem?_eq_none (by simp; omega)] at h
        simp at h

structure DrawOk (ops : Array Oper) (vs : List VOper) (pre : Nat) : Prop where
  back : ∀ i o, ops[i]? = some o → ∀ e ∈ o.after, Region.binds .any e = true → e.on < i
  wait : ∀ i o, ops[i]? = some o → pre ≤ i → ∀ j, j < i → idleAt vs j = false → Waits ops i j
  idle : ∀ (i : Nat) v, vs[i]? = some v → isIdle v = true → i < pre ∧ ∃ d n x, v = ⟨some d, .idle n (.tmp x), none⟩ ∧ ∀ (j : Nat) b, pre ≤ j → vs[j]? = some b → b.dst ≠ some x ∧ b.dst ≠ some d
  once : ∀ (i j : Nat) (x y : VOper) o, i < pre → j < pre → vs[i]? = some x → vs[j]? = some y → ops[i]? = some o → ∀ d, y.dst = some d → (i ≠ j → x.dst ≠ some d) ∧ (d ∈ x.reads → j < i ∧ ∃ e ∈ o.after, Region.binds .any e = true ∧ e.on = j)

theorem drawOk_spec {ops : Array Oper} {vs : List VOper} {pre : Nat} (hp : pre ≤ ops.size) (h : drawOk ops vs pre = true) : DrawOk ops vs pre := by
  unfold drawOk at h
  simp only [Bool.and_eq_true, List.all_eq_true, List.mem_range] at h
  obtain ⟨⟨⟨h1, h2⟩, h4⟩, h3⟩ := h
  have hget : ∀ i o, ops[i]? = some o → i < ops.size ∧ ops.getD i default = o := fun i o ho => by
    have hlt := (Array.getElem?_eq_some_iff.1 ho).1
    refine ⟨hlt, ?_⟩
    have := (Array.getElem?_eq_some_iff.1 ho).2
    simp [hlt, this]
  have hmf : ∀ (o : Oper) j, mustFollow o j = true → ∃ e ∈ o.after, Region.binds .any e = true ∧ e.on = j := fun o j hm => by
    unfold mustFollow at hm
    rw [Array.any_eq_true'] at hm
    obtain ⟨e, he, hb⟩ := hm
    simp at hb
    exact ⟨e, he, hb.2, hb.1⟩
  refine ⟨fun i o ho e he hb => ?_, fun i o ho hpi j hj hidle => ?_, fun i v hv hidle => ?_, fun i j x y o hi hj hx hy ho d hd => ?_⟩
  · obtain ⟨hlt, hg⟩ := hget i o ho
    have := h1 i hlt
    rw [hg, Array.all_eq_true'] at this
    have := this e he
    simp [hb] at this
    exact this
  · obtain ⟨hlt, hg⟩ := hget i o ho
    have := h2 i hlt
    simp only [Bool.or_eq_true, decide_eq_true_eq] at this
    rcases this with h | h
    · omega
    · refine masks_spec (ops := ops) ops.toList [] (fun k => by simp) (fun i j h => by simp at h) i j ?_
      unfold fullAt at h
      have := List.all_eq_true.1 h j (List.mem_range.2 hj)
      rw [hidle, Bool.or_false] at this
      exact this
  · have hlt : i < vs.length := (List.getElem?_eq_some_iff.1 hv).1
    have := h4 i hlt
    rw [hv] at this
    simp only [hidle, Bool.not_true, Bool.false_or, Bool.and_eq_true, decide_eq_true_eq] at this
    refine ⟨this.1, ?_⟩
    have h5 := this.2
    unfold idleOk at h5
    split at h5
    · rename_i d n x
      refine ⟨d, n, x, rfl, fun j b hj hb => ?_⟩
      have hmem : b ∈ vs.drop pre := by
        have : (vs.drop pre)[j - pre]? = some b := by rw [List.getElem?_drop]; rw [show pre + (j - pre) = j by omega]; exact hb
        exact List.mem_of_getElem? this
      have := List.all_eq_true.1 h5 b hmem
      simpa using this
    · simp at h5
  · obtain ⟨hlt, hg⟩ := hget i o ho
    have := h3 i hi j hj
    rw [hx, hy] at this
    simp only [hd] at this
    rw [hg] at this
    simp at this
    refine ⟨fun hij => ?_, fun hm => ?_⟩
    · rcases this.1 with h | h
      · exact absurd h hij
      · exact h
    · rcases this.2 with h | h
      · exact absurd hm h
      · exact ⟨h.1, hmf o j h.2⟩

theorem HRel.ext' (h : HRel C S base φ H w) (hk : ∀ id, id < H.nx → Hp.get id = H.get id) (hnx : H.nx ≤ Hp.nx) : Evo φ H w φ Hp w ∧ HRel C S base φ Hp w := by
  have hget : ∀ id x, φ id = some x → Hp.get id = H.get id := fun id x hx => hk id (h.nx _ _ hx)
  have hev : Evo φ H w φ Hp w := ⟨fun _ _ h => h, rfl, rfl, rfl, Nat.le_refl _, fun _ _ _ => rfl, fun b _ ⟨id, m, hid, hl⟩ => ⟨id, m, hid, by rw [← hget _ _ hid]; exact hl⟩, hnx⟩
  refine ⟨hev, h.sz, h.out, fun id x hx => Nat.lt_of_lt_of_le (h.nx _ _ hx) hnx, h.lt, fun id b m hid => ?_, fun i j b m m' hi hj di dj => h.inj _ _ _ _ _ hi hj (by rw [← hget _ _ hi]; exact di) (by rw [← hget _ _ hj]; exact dj)⟩
  rw [hget _ _ hid]
  exact (h.obj _ _ _ hid).mono (fun _ b hb => hev.imm hb) (fun _ _ h => h) rfl

def isNewAt (cl : Callee) (vs : List VOper) (envp : Env) (Hp : Heap) (i : Nat) : Prop := ∃ v o f, vs[i]? = some v ∧ step cl envp Hp v.op = some (.new o f) ∧ wanted envp v.guard = some true

/-- Some of the first operations are done. -/
structure DInv (ops : Array Oper) (C : Comp) (S : Bool → Nat → Prop) (base lo nt : Nat) (cl : Callee) (vs : List VOper) (pre : Nat) (envp : Env) (Hp : Heap) (ids : Nat → Nat) (φ0 : Phi) (H : Heap) (w0 : World) (L : Array Bool) (φ : Phi) (a : Act) (w : World) : Prop where
  heap : HRel C S base φ Hp w
  env : ∀ t, (∀ (i : Nat) v, i < pre → L.getD i true = false → vs[i]? = some v → v.dst ≠ some t) → VRel (Imm S base φ Hp w) φ w (envp t) (a.tmps.getD t undef)
  size : a.tmps.size = nt
  lole : lo ≤ w.heap.size
  defs : ∃ marks : List Nat, a.defers = marks.map markOf ∧ marks.Nodup ∧ ∀ r ∈ marks, lo ≤ r ∧ w.heap[r]? = some (.deferred (some []))
  phi : ∀ i, i < pre → L.getD i true = false → isNewAt cl vs envp Hp i → φ (ids i) = none
  closed : ∀ i o, ops[i]? = some o → L.getD i true = true → ∀ e ∈ o.after, Region.binds .any e = true → L.getD e.on true = true
  evo : Evo φ0 H w0 φ Hp w

theorem getD_set_eq {L : Array Bool} {i j : Nat} (d : Bool) : (L.setIfInBounds i true).getD j d = if i = j ∧ j < L.size then true else L.getD j d := by
  by_cases h : i = j
  · subst h
    by_cases hl : i < L.size
    · simp [hl]
    · simp [hl]
  · simp [h]

theorem ready_ne {ops : Array Oper} {L : Array Bool} (hL : L.size = ops.size) (hback : ∀ i o, ops[i]? = some o → ∀ e ∈ o.after, Region.binds .any e = true → e.on < i)
    (hex : ∃ i, i < ops.size ∧ L.getD i true = false) : Region.ready .any ops L ≠ [] := by
  have key : ∀ k, (∃ i, i < k ∧ L.getD i true = false ∧ i < ops.size) → ∃ i, L.getD i true = false ∧ i < ops.size ∧ ∀ j, j < i → L.getD j true = true := by
    intro k
    induction k with
    | zero => rintro ⟨i, hi, _⟩; omega
    | succ k ihk =>
      rintro ⟨i, hi, hl, hs⟩
      by_cases hlow : ∃ i, i < k ∧ L.getD i true = false ∧ i < ops.size
      · exact ihk hlow
      · refine ⟨i, hl, hs, fun j hj => ?_⟩
        cases hjl : L.getD j true with
        | true => rfl
        | false => exact absurd ⟨j, by omega, hjl, by omega⟩ hlow
  obtain ⟨i0, hi0, hl0⟩ := hex
  obtain ⟨i, hl, hs, hmin⟩ := key (i0 + 1) ⟨i0, by omega, hl0, by omega⟩
  intro hnil
  have hg : ops[i]? = some ops[i] := Array.getElem?_eq_getElem hs
  have : i ∈ Region.ready .any ops L := mem_ready.2 ⟨hl, _, hg, fun e he hb => by
    have hlt := hback i _ hg e he hb
    have := hmin e.on hlt
    simp [hL, show e.on < ops.size by omega] at this ⊢
    exact this⟩
  rw [hnil] at this
  cases this

abbrev Closed (ops : Array Oper) (L : Array Bool) : Prop := ∀ i o, ops[i]? = some o → L.getD i true = true → ∀ e ∈ o.after, Region.binds .any e = true → L.getD e.on true = true

theorem ready_deps {ops : Array Oper} {L : Array Bool} (hL : L.size = ops.size) (hback : ∀ i o, ops[i]? = some o → ∀ e ∈ o.after, Region.binds .any e = true → e.on < i) {i : Nat} (hi : i ∈ Region.ready .any ops L) :
    L.getD i true = false ∧ i < ops.size ∧ ∀ o, ops[i]? = some o → ∀ e ∈ o.after, Region.binds .any e = true → L.getD e.on true = true := by
  obtain ⟨hu, oi, ho, hall⟩ := mem_ready.1 hi
  have hi' : i < ops.size := (Array.getElem?_eq_some_iff.1 ho).1
  refine ⟨hu, hi', fun o ho' e he hb => ?_⟩
  rw [ho] at ho'
  simp only [Option.some.injEq] at ho'
  subst ho'
  have hlt' := hback i _ ho e he hb
  have := hall e he hb
  simp [hL, show e.on < ops.size by omega] at this ⊢
  exact this

theorem closed_set {ops : Array Oper} {L : Array Bool} (hL : L.size = ops.size) (hc : Closed ops L) {i : Nat} (hi : ∀ o, ops[i]? = some o → ∀ e ∈ o.after, Region.binds .any e = true → L.getD e.on true = true) : Closed ops (L.setIfInBounds i true) := by
  intro i1 o1 hq hd e he hb
  rw [getD_set_eq]
  split
  · rfl
  · by_cases hii : i1 = i
    · subst hii
      exact hi o1 hq e he hb
    · rw [getD_set_eq, if_neg (fun h => hii h.1.symm)] at hd
      exact hc i1 o1 hq hd e he hb

theorem count_set {ops : Array Oper} {L : Array Bool} (hL : L.size = ops.size) {i m : Nat} (hi : i < ops.size) (hu : L.getD i true = false) (hm : m + 1 = (List.range ops.size).countP (fun i => !L.getD i true)) :
    m = (List.range ops.size).countP (fun j => !(L.setIfInBounds i true).getD j true) := by
  have := countP_set (p := fun j => !L.getD j true) (q := fun j => !(L.setIfInBounds i true).getD j true) (i := i) (by simp only [hu]; rfl) (fun j => by
    simp only [getD_set_eq]
    by_cases hj : j = i
    · subst hj; simp [hL, hi]
    · rw [if_neg hj, if_neg (fun h => hj h.1.symm)]) ops.size hi
  omega

theorem idle_step {cl : Callee} {v : VOper} {d n x : Nat} (hv : v = ⟨some d, .idle n (.tmp x), none⟩) {e : Eff} (h : step cl env H v.op = some e) : e = .val .undef ∧ ∀ env2 H2, env2 x = env x → step cl env2 H2 v.op = some (.val .undef) := by
  subst hv
  simp only [step, Opnd.eval] at h
  split at h
  · rename_i vs h1
    split at h
    · rename_i u h2
      simp only [Option.some.injEq] at h
      exact ⟨h.symm, fun env2 H2 h3 => by simp only [step, Opnd.eval, h3, h1, h2]⟩
    · simp at h
  · rename_i vs h1
    split at h
    · rename_i u h2
      simp only [Option.some.injEq] at h
      exact ⟨h.symm, fun env2 H2 h3 => by simp only [step, Opnd.eval, h3, h1, h2]⟩
    · simp at h
  · simp at h

/-- The last operations, each of which waits for all before it (but for idle ones). -/
theorem draw_tail {cl : Callee} (hcl : CalleeOk C P cl) {ops : Array Oper} {vs : List VOper} {pre : Nat} (hok : DrawOk ops vs pre) (hcomp : compileOpers P Z nt ops ops.toList = some vs) : ∀ (m : Nat) (k : Nat) (L : Array Bool) (env : Env) (H : Heap) (φ : Phi) (a : Act) (w : World) (env' : Env) (H' : Heap),
    m = (List.range ops.size).countP (fun i => !L.getD i true) → pre ≤ k → k ≤ ops.size → L.size = ops.size → (∀ i, i < k → idleAt vs i = false → L.getD i true = true) → (∀ i, k ≤ i → i < ops.size → L.getD i true = false) → Closed ops L →
    (∀ (i : Nat) v, vs[i]? = some v → isIdle v = true → step cl env H v.op = some (.val .undef) ∧ ∀ d, v.dst = some d → env d = .undef) →
    runOps cl 0 (vs.drop k) env H = some (env', H') → R C S base lo nt φ H env a w →
    (∀ φ' a' w', Evo φ H w φ' H' w' → R C S base lo nt φ' H' env' a' w' → Q .normal a' w') → wpAnyIn (Fw ro) n P .any ops Q m L a w := by
  have hget := compileOpers_get hcomp
  have hvlen : vs.length = ops.size := by simpa using hget.1
  intro m
  induction m with
  | zero =>
    intro k L env H φ a w env' H' hm hpk hks hL h1 h2 hcls hid hr hR hQ
    have hall : ∀ i, i < ops.size → L.getD i true = true := fun i hi => by
      have := List.countP_eq_zero.1 hm.symm i (List.mem_range.2 hi)
      simpa using this
    have hk : k = ops.size := by
      rcases Nat.lt_or_ge k ops.size with h | h
      · have h3 := h2 k (Nat.le_refl _) h
        rw [hall k h] at h3
        simp at h3
      · omega
    have hdv : vs.drop k = [] := by rw [List.drop_eq_nil_iff]; omega
    rw [hdv] at hr
    simp [runOps] at hr
    obtain ⟨rfl, rfl⟩ := hr
    refine ⟨?_, hQ _ _ _ Evo.refl hR⟩
    rw [List.eq_nil_iff_forall_not_mem]
    intro i hi
    obtain ⟨hu, hlt, _⟩ := ready_deps hL hok.back hi
    rw [hall i hlt] at hu
    simp at hu
  | succ m ih =>
    intro k L env H φ a w env' H' hm hpk hks hL h1 h2 hcls hid hr hR hQ
    have hex : ∃ i, i < ops.size ∧ L.getD i true = false := by
      have : 0 < (List.range ops.size).countP (fun i => !L.getD i true) := by omega
      obtain ⟨i, hi, hp⟩ := List.countP_pos_iff.1 this
      exact ⟨i, List.mem_range.1 hi, by simpa using hp⟩
    refine ⟨fun h => absurd h (ready_ne hL hok.back hex), fun i hi => ?_⟩
    obtain ⟨hu, hlt, hdeps⟩ := ready_deps hL hok.back hi
    have hL' : (L.setIfInBounds i true).size = ops.size := by simpa using hL
    have hm' := count_set hL hlt hu hm
    have hcls' := closed_set hL hcls hdeps
    have hgi : ops[i]? = some ops[i] := Array.getElem?_eq_getElem hlt
    have hvi : vs[i]? = some vs[i] := List.getElem?_eq_getElem (by omega)
    obtain ⟨o', ho', hco⟩ := hget.2 i _ hvi
    rw [Array.getElem?_toList, hgi] at ho'
    simp only [Option.some.injEq] at ho'
    subst ho'
    obtain ⟨p1, p2, p3, p4⟩ := compileOper_parts hco
    cases hidle : isIdle vs[i] with
    | true =>
      obtain ⟨hip, d, q, x, hv, hdist⟩ := hok.idle i _ hvi hidle
      obtain ⟨hst, hun⟩ := hid i _ hvi hidle
      have hd : vs[i].dst = some d := by rw [hv]
      have hw' := wanted_rel hR.env p2 (b := true) (by rw [hv]; rfl) rfl
      unfold wpOpIn
      simp only [hgi]
      rw [hw']
      simp only [if_true]
      refine op_wp hcl hR.heap hR.env p1 hst fun u w' hp => ?_
      obtain ⟨φ', g1, g2⟩ := hR.after (d := ops[i].dst) p4 hp
      have henv : putAt env ops[i].dst (apply H (.val .undef)).1 = env := by
        rw [← p3, hd]
        funext t
        simp only [putAt, upd, apply]
        split
        · rename_i ht; rw [ht]; exact (hun d hd).symm
        · rfl
      rw [henv] at g2
      refine ih k _ env H φ' _ w' env' H' hm' hpk hks hL' (fun j hj hji => ?_) (fun j hj hjs => ?_) hcls' hid hr g2 fun φ'' a' w'' h3 h4 => hQ φ'' a' w'' (g1.trans h3) h4
      · rw [getD_set_eq]
        split
        · rfl
        · exact h1 j hj hji
      · rw [getD_set_eq, if_neg (by omega)]
        exact h2 j hj hjs
    | false =>
      have hik : i = k := by
        rcases Nat.lt_trichotomy i k with h | h | h
        · have := h1 i h (by unfold idleAt; rw [hvi]; exact hidle)
          rw [hu] at this; simp at this
        · exact h
        · exfalso
          have hki : idleAt vs k = false := by
            unfold idleAt
            have hvk : vs[k]? = some vs[k] := List.getElem?_eq_getElem (by omega)
            rw [hvk]
            cases hq : isIdle vs[k] with
            | false => exact hq
            | true => have := (hok.idle k _ hvk hq).1; omega
          have := (hok.wait i _ hgi (by omega) k h hki).done hcls hdeps
          rw [h2 k (Nat.le_refl _) (by omega)] at this
          simp at this
      subst hik
      have h1' : ∀ j, j < i + 1 → idleAt vs j = false → (L.setIfInBounds i true).getD j true = true := fun j hj hji => by
        rw [getD_set_eq]
        split
        · rfl
        · rename_i hne
          exact h1 j (by rw [hL] at hne; omega) hji
      have h2' : ∀ j, i + 1 ≤ j → j < ops.size → (L.setIfInBounds i true).getD j true = false := fun j hj hjs => by
        rw [getD_set_eq, if_neg (by omega)]
        exact h2 j (by omega) hjs
      have hid' : ∀ (H2 : Heap) (av : AV) (j : Nat) v, vs[j]? = some v → isIdle v = true → step cl (putAt env vs[i].dst av) H2 v.op = some (.val .undef) ∧ ∀ d, v.dst = some d → putAt env vs[i].dst av d = .undef := by
        intro H2 av j v hv hvid
        obtain ⟨_, d, q, x, hvv, hdist⟩ := hok.idle j _ hv hvid
        obtain ⟨hst, hun⟩ := hid j _ hv hvid
        have hne := hdist i _ hpk hvi
        have hput : ∀ t, vs[i].dst ≠ some t → putAt env vs[i].dst av t = env t := fun t ht => by
          cases hd : vs[i].dst with
          | none => rfl
          | some y => simp only [putAt, upd]; rw [if_neg (fun e => ht (by rw [hd, e]))]
        refine ⟨(idle_step hvv hst).2 _ _ (hput x hne.1), fun d' hd' => ?_⟩
        have : d' = d := by rw [hvv] at hd'; simpa using hd'.symm
        rw [this, hput d hne.2]
        exact hun d (by rw [hvv])
      have hdropv : vs.drop i = vs[i] :: vs.drop (i + 1) := List.drop_eq_getElem_cons (by omega)
      rw [hdropv, runOps_cons] at hr
      simp only [p3] at hid' hr
      unfold wpOpIn
      simp only [hgi]
      split at hr
      · simp at hr
      · rename_i hw
        have hw' := wanted_rel hR.env p2 hw rfl
        rw [hw']
        simp only [Bool.false_eq_true, if_false]
        refine ⟨fun _ _ => trivial, ?_⟩
        have hR' := hR.put Evo.refl hR.heap (d := ops[i].dst) p4 (undef_rel (φ := φ) (w := w))
        exact ih (i + 1) _ _ _ _ _ _ _ _ hm' (by omega) (by omega) hL' h1' h2' hcls' (hid' _ _) hr hR' hQ
      · rename_i hw
        have hw' := wanted_rel hR.env p2 hw rfl
        rw [hw']
        simp only [if_true]
        split at hr
        · simp at hr
        · rename_i e he
          split at hr
          · rename_i hcc; exact absurd rfl hcc.1
          · refine op_wp hcl hR.heap hR.env p1 he fun u w' hp => ?_
            obtain ⟨φ', g1, g2⟩ := hR.after (d := ops[i].dst) p4 hp
            exact ih (i + 1) _ _ _ _ _ _ _ _ hm' (by omega) (by omega) hL' h1' h2' hcls' (hid' _ _) hr g2 fun φ'' a' w'' h3 h4 => hQ φ'' a' w'' (g1.trans h3) h4

theorem draw_pre {cl : Callee} (hcl : CalleeOk C P cl) {ops : Array Oper} {vs : List VOper} {pre : Nat} (hok : DrawOk ops vs pre) (hpre : pre ≤ ops.size) (hcomp : compileOpers P Z nt ops ops.toList = some vs) {envp : Env} {Hp : Heap} {ids : Nat → Nat} {w0 : World}
    (hsol : Sol cl (vs.take pre) pre env H envp Hp ids) (htail : runOps cl 0 (vs.drop pre) envp Hp = some (env', H'))
    (hQ : ∀ φ' a' w', Evo φ0 H w0 φ' H' w' → R C S base lo nt φ' H' env' a' w' → Q .normal a' w') : ∀ (m : Nat) (L : Array Bool) (φ : Phi) (a : Act) (w : World),
    m = (List.range ops.size).countP (fun i => !L.getD i true) → L.size = ops.size → (∀ i, pre ≤ i → i < ops.size → L.getD i true = false) →
    DInv ops C S base lo nt cl vs pre envp Hp ids φ0 H w0 L φ a w → wpAnyIn (Fw ro) n P .any ops Q m L a w := by
  have hget := compileOpers_get hcomp
  have hvlen : vs.length = ops.size := by simpa using hget.1
  have hidp : ∀ (i : Nat) v, vs[i]? = some v → isIdle v = true → step cl envp Hp v.op = some (.val .undef) ∧ ∀ d, v.dst = some d → envp d = .undef := by
    intro i v hv hidle
    obtain ⟨hip, d, q, x, hvv, _⟩ := hok.idle i v hv hidle
    have hvt : (vs.take pre)[i]? = some v := by rw [List.getElem?_take_of_lt hip]; exact hv
    rcases hsol.each i v hip hvt with ⟨hw, _⟩ | ⟨_, e, he, _, hres⟩
    · rw [hvv] at hw; simp [wanted] at hw
    · obtain ⟨rfl, _⟩ := idle_step hvv he
      exact ⟨he, hres⟩
  have toTail : ∀ (m : Nat) (L : Array Bool) (φ : Phi) (a : Act) (w : World), m = (List.range ops.size).countP (fun i => !L.getD i true) → L.size = ops.size → (∀ i, pre ≤ i → i < ops.size → L.getD i true = false) →
      DInv ops C S base lo nt cl vs pre envp Hp ids φ0 H w0 L φ a w → (∀ i, i < pre → idleAt vs i = false → L.getD i true = true) → wpAnyIn (Fw ro) n P .any ops Q m L a w := by
    intro m L φ a w hm hL h2 hD hall
    have hR : R C S base lo nt φ Hp envp a w := ⟨hD.heap, fun t => by
      by_cases ht : ∃ i v, i < pre ∧ L.getD i true = false ∧ vs[i]? = some v ∧ v.dst = some t
      · obtain ⟨i, v, hi, hl, hv, hd⟩ := ht
        have hidle : isIdle v = true := by
          cases hq : isIdle v with
          | true => rfl
          | false =>
            have := hall i hi (by unfold idleAt; rw [hv]; exact hq)
            rw [hl] at this; simp at this
        rw [(hidp i v hv hidle).2 t hd]
        exact .undef _
      · exact hD.env t fun i v hi hl hv hd => ht ⟨i, v, hi, hl, hv, hd⟩, hD.size, hD.lole, hD.defs⟩
    exact draw_tail hcl hok hcomp m pre L envp Hp φ a w env' H' hm (Nat.le_refl _) hpre hL hall h2 hD.closed hidp htail hR fun φ' a' w' h3 h4 => hQ φ' a' w' (hD.evo.trans h3) h4
  intro m
  induction m with
  | zero =>
    intro L φ a w hm hL h2 hD
    refine toTail 0 L φ a w hm hL h2 hD fun i hi _ => ?_
    have := List.countP_eq_zero.1 hm.symm i (List.mem_range.2 (by omega))
    simpa using this
  | succ m ih =>
    intro L φ a w hm hL h2 hD
    by_cases hleft : ∀ i, i < pre → idleAt vs i = false → L.getD i true = true
    · exact toTail (m + 1) L φ a w hm hL h2 hD hleft
    have hex : ∃ i, i < pre ∧ idleAt vs i = false ∧ L.getD i true = false := by
      rcases Classical.em (∃ i, i < pre ∧ idleAt vs i = false ∧ L.getD i true = false) with h | h
      · exact h
      · refine absurd (fun i hi hidle => ?_) hleft
        cases hq : L.getD i true with
        | true => rfl
        | false => exact absurd ⟨i, hi, hidle, hq⟩ h
    have hnot : ∀ i ∈ Region.ready .any ops L, i < pre := fun i hi => by
      obtain ⟨hu, hlt, hdeps⟩ := ready_deps hL hok.back hi
      rcases Nat.lt_or_ge i pre with h | h
      · exact h
      · exfalso
        obtain ⟨j, hj, hjid, hjl⟩ := hex
        have := (hok.wait i _ (Array.getElem?_eq_getElem hlt) h j (by omega) hjid).done hD.closed hdeps
        rw [hjl] at this
        simp at this
    have hready : Region.ready .any ops L ≠ [] := by
      obtain ⟨j, hj, hjid, hjl⟩ := hex
      exact ready_ne hL hok.back ⟨j, by omega, hjl⟩
    refine ⟨fun h => absurd h hready, fun i hi => ?_⟩
    have hip := hnot i hi
    obtain ⟨hu, o, ho, hall⟩ := mem_ready.1 hi
    have hil : i < vs.length := by omega
    have hvi : vs[i]? = some vs[i] := List.getElem?_eq_getElem hil
    obtain ⟨o', ho', hco⟩ := hget.2 i _ hvi
    have hoo : o' = o := by
      rw [Array.getElem?_toList] at ho'
      rw [ho'] at ho
      simpa using ho
    subst hoo
    obtain ⟨p1, p2, p3, p4⟩ := compileOper_parts hco
    have hvt : (vs.take pre)[i]? = some vs[i] := by rw [List.getElem?_take_of_lt hip]; exact hvi
    -- what it reads is there
    have hreads : ∀ t ∈ vs[i].reads, VRel (Imm S base φ Hp w) φ w (envp t) (a.tmps.getD t undef) := fun t ht => by
      refine hD.env t fun j v hj hjl hvj hd => ?_
      obtain ⟨_, h3⟩ := hok.once i j _ v o' hip hj hvi hvj ho t hd
      obtain ⟨_, e, he, hb, hon⟩ := h3 ht
      have := hall e he hb
      rw [hon] at this
      simp [hL, show j < ops.size by omega] at this hjl
      rw [hjl] at this
      simp at this
    let envi : Env := fun t => if t ∈ vs[i].reads then envp t else .undef
    have hE : ERel (Imm S base φ Hp w) φ w envi a := fun t => by
      show VRel _ _ _ (if t ∈ vs[i].reads then envp t else .undef) _
      split
      · rename_i h; exact hreads t h
      · exact .undef _
    have henvi : ∀ t ∈ vs[i].reads, envi t = envp t := fun t ht => if_pos ht
    have hcount := count_set hL (show i < ops.size by omega) hu hm
    have hL' : (L.setIfInBounds i true).size = ops.size := by simpa using hL
    have h2' : ∀ j, pre ≤ j → j < ops.size → (L.setIfInBounds i true).getD j true = false := fun j hj hjs => by
      rw [getD_set_eq, if_neg (by omega)]
      exact h2 j hj hjs
    have hunl : ∀ j, (L.setIfInBounds i true).getD j true = false → j ≠ i ∧ L.getD j true = false := fun j hj => by
      rw [getD_set_eq] at hj
      split at hj
      · simp at hj
      · rename_i hne
        refine ⟨fun e => hne ⟨e.symm, by rw [e, hL]; omega⟩, hj⟩
    have hclosed := closed_set hL hD.closed (ready_deps hL hok.back hi).2.2
    have hset : ∀ (φ' : Phi) (v : Value) (w' : World), Evo φ Hp w φ' Hp w' → HRel C S base φ' Hp w' → (∀ d, vs[i].dst = some d → VRel (Imm S base φ' Hp w') φ' w' (envp d) v) → (∀ j, j < pre → (L.setIfInBounds i true).getD j true = false → isNewAt cl vs envp Hp j → φ' (ids j) = none) →
        DInv ops C S base lo nt cl vs pre envp Hp ids φ0 H w0 (L.setIfInBounds i true) φ' (a.put o'.dst v) w' := by
      intro φ' v w' hev hH' hdst hphi
      refine ⟨hH', fun t ht => ?_, by rw [put_size]; exact hD.size, Nat.le_trans hD.lole hev.size, by rw [put_defers']; exact defs_evo hD.heap hev hD.defs, hphi, hclosed, hD.evo.trans hev⟩
      rw [put_getD (by rw [hD.size]; exact p4)]
      by_cases hdt : o'.dst = some t
      · rw [if_pos hdt]
        exact hdst t (by rw [p3]; exact hdt)
      · rw [if_neg hdt]
        refine hev.vrel (hD.env t fun j v' hj hjl hvj => ?_)
        by_cases hji : j = i
        · subst hji
          rw [hvi] at hvj
          simp at hvj
          subst hvj
          rw [p3]
          exact hdt
        · refine ht j v' hj ?_ hvj
          rw [getD_set_eq, if_neg (fun h => hji h.1.symm)]
          exact hjl
    unfold wpOpIn
    rw [ho]
    simp only
    rcases hsol.each i _ hip hvt with ⟨hw, hd⟩ | ⟨hw, e, he, hup, hres⟩
    · have hw' : wanted envi vs[i].guard = some false := by rw [reads_wanted henvi]; exact hw
      rw [wanted_rel hE p2 hw' rfl]
      simp only [Bool.false_eq_true, if_false]
      refine ⟨fun _ _ => trivial, ih _ φ _ w hcount hL' h2' (hset φ undef w Evo.refl hD.heap (fun d hd' => by rw [hd d hd']; exact undef_rel) fun j hj hjl hn => hD.phi j hj (hunl j hjl).2 hn)⟩
    · have hw' : wanted envi vs[i].guard = some true := by rw [reads_wanted henvi]; exact hw
      rw [wanted_rel hE p2 hw' rfl]
      simp only [if_true]
      have he' : step cl envi Hp vs[i].op = some e := by
        rw [step_congr (env' := envp) fun t ht => henvi t (by simp [VOper.reads, ht])]
        exact he
      refine op_wp hcl hD.heap hE p1 he' fun v w' hp => ?_
      cases e with
      | val av =>
        obtain ⟨g1, g2⟩ := hp
        exact ih _ φ _ w' hcount hL' h2' (hset φ v w' (Evo.of_below g1) (hD.heap.below g1) (fun d hd' => by rw [hres d hd']; exact g2) fun j hj hjl hn => hD.phi j hj (hunl j hjl).2 hn)
      | new ob f =>
        obtain ⟨b, mm, g1, g2, g3, g4, g5⟩ := hp
        obtain ⟨r1, r2, r3⟩ := hres
        have hnew : isNewAt cl vs envp Hp i := ⟨_, ob, f, hvi, he, hw⟩
        have hfree := hD.phi i hip hu hnew
        have hn := hD.heap.new (H' := Hp) (id := ids i) g1 hfree r2 (fun _ _ _ => rfl) r1 (Nat.le_refl _) g2 g3 g4
        refine ih _ _ _ w' hcount hL' h2' (hset _ v w' hn.1 hn.2 (fun d hd' => by rw [r3 d hd']; exact g5 _ _ _ (phiSet_same _ _)) fun j hj hjl hnj => ?_)
        obtain ⟨hji, hjl'⟩ := hunl j hjl
        have aux : ∀ k, k < pre → isNewAt cl vs envp Hp k → ∃ v o f, (vs.take pre)[k]? = some v ∧ step cl envp Hp v.op = some (.new o f) ∧ wanted envp v.guard = some true := fun k hk ⟨v, o, f, h1, h2, h3⟩ => ⟨v, o, f, by rw [List.getElem?_take_of_lt hk]; exact h1, h2, h3⟩
        rw [phiSet_of_ne _ fun e => hji (hsol.idinj j i hj hip (aux j hj hnj) (aux i hip hnew) e)]
        exact hD.phi j hj hjl' hnj
      | upd av H1 => exact hres.elim

theorem wp_draw {cl : Callee} (hcl : CalleeOk C P cl) (hmix : P.follows .mixedOrders = true) {id : Nat} {ops : Array Oper} {vs : List VOper} {pre : Nat} (hok : drawOk ops vs pre = true) (hpre : pre ≤ ops.size) (hcomp : compileOpers P Z nt ops ops.toList = some vs)
    (hr : runOps cl pre vs env H = some (env', H')) (hR : R C S base lo nt φ H env a w) (hQ : ∀ φ' a' w', Evo φ H w φ' H' w' → R C S base lo nt φ' H' env' a' w' → Q .normal a' w') :
    (Code.region id ops true).wpIn (Fw ro) n P Q a w := by
  have hD := drawOk_spec hpre hok
  have hlen : vs.length = ops.size := by have := (compileOpers_get hcomp).1; simpa using this
  obtain ⟨envp, Hp, h1, h2⟩ := runOps_split cl pre vs env H _ (by omega) hr
  have hget := compileOpers_get hcomp
  have honce : Once (vs.take pre) := fun i j x y hx hy d hd => by
    have hi : i < pre := by have := (List.getElem?_eq_some_iff.1 hx).1; simp at this; omega
    have hj : j < pre := by have := (List.getElem?_eq_some_iff.1 hy).1; simp at this; omega
    rw [List.getElem?_take_of_lt hi] at hx
    rw [List.getElem?_take_of_lt hj] at hy
    obtain ⟨o, ho, _⟩ := hget.2 i _ hx
    rw [Array.getElem?_toList] at ho
    have := hD.once i j x y o hi hj hx hy ho d hd
    exact ⟨this.1, fun hm => (this.2 hm).1⟩
  obtain ⟨ids, hsol⟩ := sol_of_run cl (vs.take pre) env H envp Hp pre (by simp; omega) honce h1
  have hl : (vs.take pre).length = pre := by rw [List.length_take]; omega
  rw [hl] at hsol
  refine wpIn_region_any hmix ?_
  have hdrew : ({ w with drawn := w.drawn + 1 } : World) = w.drew := rfl
  rw [hdrew]
  have hbelow : Below w.heap.size w w.drew := (Below.refl _ w).drew
  have hR' : R C S base lo nt φ H env a w.drew := ⟨hR.heap.below hbelow, fun t => (Evo.of_below hbelow).vrel (hR.env t), hR.size, hR.lole, defs_evo hR.heap (Evo.of_below hbelow) hR.defs⟩
  have hext := hR'.heap.ext' hsol.keep hsol.nx
  have hcount : (List.range ops.size).countP (fun i => !(Array.replicate ops.size false).getD i true) = ops.size := by
    have : (List.range ops.size).countP (fun i => !(Array.replicate ops.size false).getD i true) = (List.range ops.size).length := List.countP_eq_length.2 fun i hi => by
      have := List.mem_range.1 hi
      simp [this]
    simpa using this
  have := draw_pre (ro := ro) (n := n) (Q := Q) hcl hD hpre hcomp hsol h2 (φ0 := φ) (w0 := w) (fun φ' a' w' h3 h4 => hQ φ' a' w' h3 h4) ops.size (Array.replicate ops.size false) φ a w.drew hcount.symm (by simp) (fun i _ hi => by simp [hi]) ⟨hext.2, fun t ht => ?_, hR'.size, hR'.lole, hR'.defs, fun i hi _ _ => ?_, fun i o ho hd => ?_, (Evo.of_below hbelow).trans hext.1⟩
  · exact this
  · have hold : envp t = env t := hsol.old t fun i v hi hv => by
      rw [List.getElem?_take_of_lt hi] at hv
      exact ht i v hi (by simp [show i < ops.size by omega]) hv
    rw [hold]
    exact hext.1.vrel (hR'.env t)
  · cases hc : φ (ids i) with
    | none => rfl
    | some x =>
      have h3 := hR.heap.nx _ _ hc
      have h4 := hsol.idlo i hi
      omega
  · have hi' : i < ops.size := (Array.getElem?_eq_some_iff.1 ho).1
    simp [hi'] at hd
end
end Go.Proofs.YtjjkgamklbgnlaaGreat.Vm
