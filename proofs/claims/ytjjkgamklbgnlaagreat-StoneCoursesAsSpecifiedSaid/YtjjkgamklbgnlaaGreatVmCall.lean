/- Data taken out of one's own memory; calls; every operation in one theorem. -/
import Derived.Test.YtjjkgamklbgnlaaGreatVmOps7
namespace Go.Proofs.YtjjkgamklbgnlaaGreat.Vm
open Go Go.RowKit
set_option linter.unusedVariables false
set_option linter.unusedSimpArgs false

theorem chunks_get {α : Type} (sz : Nat) : ∀ (n : Nat) (l : List α) (i : Nat) (e : List α), (chunks sz n l)[i]? = some e → i < n ∧ e = (l.drop (i * sz)).take sz
  | 0, l, i, e, h => by simp [chunks] at h
  | n + 1, l, i, e, h => by
    cases i with
    | zero => simp [chunks] at h; exact ⟨by omega, by simp [h]⟩
    | succ i =>
      simp [chunks] at h
      obtain ⟨h1, h2⟩ := chunks_get sz n _ i e h
      refine ⟨by omega, ?_⟩
      rw [h2, List.drop_drop]
      congr 2
      rw [Nat.add_mul]
      omega
theorem chunks_length {α : Type} (sz : Nat) : ∀ (n : Nat) (l : List α), (chunks sz n l).length = n
  | 0, l => rfl
  | n + 1, l => by simp [chunks, chunks_length sz n]

section
variable {C : Comp} {P : Program} {S : Bool → Nat → Prop} {base : Nat} {φ : Phi} {H : Heap} {w : World} {env : Env} {a : Act} {e : Eff} {o : Oper} {I : Bool → Nat → Prop}

theorem freezeL_rel {J : Bool → Nat → Prop} {k : Bool} {fr : AV → Option (PV × List Nat)} (hfr : ∀ av p ids v, fr av = some (p, ids) → VRel I φ w av v → (∀ id ∈ ids, ∀ b n, φ id = some (b, n) → J k b) → Rep J w p v) :
    ∀ {cs : List AV} {ps : List PV} {ids : List Nat} {vs : List Value}, freezeL fr cs = some (ps, ids) → VRels I φ w cs vs → (∀ id ∈ ids, ∀ b n, φ id = some (b, n) → J k b) →
      ps.length = vs.length ∧ ∀ (i : Nat) p v, ps[i]? = some p → vs[i]? = some v → Rep J w p v
  | [], ps, ids, vs, h, hr, hJ => by
    simp [freezeL] at h
    obtain ⟨rfl, rfl⟩ := h
    rw [hr.nil_inv]
    exact ⟨rfl, fun i p v h => by simp at h⟩
  | c :: cs, ps, ids, vs, h, hr, hJ => by
    obtain ⟨v, vs', rfl, h1, h2⟩ := hr.cons_inv
    unfold freezeL at h
    split at h
    · simp at h
    · rename_i p is hp
      split at h
      · simp at h
      · rename_i qs js hq
        simp at h
        obtain ⟨rfl, rfl⟩ := h
        have ih := freezeL_rel hfr hq h2 fun id hid => hJ id (List.mem_append_right _ hid)
        refine ⟨by simp [ih.1], fun i q u hq' hu => ?_⟩
        cases i with
        | zero =>
          simp at hq' hu
          subst hq'; subst hu
          exact hfr c _ is _ hp h1 fun id hid => hJ id (List.mem_append_left _ hid)
        | succ i => simp at hq' hu; exact ih.2 i q u hq' hu

theorem freeze_rel (hH : HRel C S base φ H w) {k : Bool} {J : Bool → Nat → Prop} (hJ0 : ∀ k b, Imm S base φ H w k b → J k b) : ∀ (n : Nat) (av : AV) (p : PV) (ids : List Nat) (v : Value), freeze H k n av = some (p, ids) → VRel (Imm S base φ H w) φ w av v →
    (∀ id ∈ ids, ∀ b n, φ id = some (b, n) → J k b) → Rep J w p v := by
  intro n
  induction n with
  | zero => intro av p ids v h; simp [freeze] at h
  | succ n ih =>
    intro av p ids v h hv hJ
    unfold freeze at h
    split at h
    · simp at h
      obtain ⟨rfl, rfl⟩ := h
      exact hv.pure_inv.mono fun k b hb => ⟨hJ0 k b hb, rfl⟩
    · split at h
      · rename_i cs ps is hf
        simp at h
        obtain ⟨rfl, rfl⟩ := h
        cases hv with
        | agg _ vs hl hr =>
          have := freezeL_rel ih hf (VRels.of_agg hl hr) hJ
          exact .agg _ vs (by simpa using this.1) fun i p v hp hv => this.2 i p v hp (by simpa using hv)
      · simp at h
    · split at h
      · rename_i cs ps is hf
        simp at h
        obtain ⟨rfl, rfl⟩ := h
        cases hv with
        | tup _ vs hl hr =>
          have := freezeL_rel ih hf (VRels.of_agg hl hr) hJ
          exact .tup _ vs (by simpa using this.1) fun i p v hp hv => this.2 i p v hp (by simpa using hv)
      · simp at h
    · split at h
      · rename_i f cs ps is hf
        simp at h
        obtain ⟨rfl, rfl⟩ := h
        cases hv with
        | func _ _ vs hl hr =>
          have := freezeL_rel ih hf (VRels.of_agg hl hr) hJ
          exact .func _ _ vs (by simpa using this.1) fun i p v hp hv => this.2 i p v hp (by simpa using hv)
      · simp at h
    · rename_i id off
      split at h
      · rename_i own cs hg
        split at h
        · rename_i ps is hf
          simp at h
          obtain ⟨rfl, rfl⟩ := h
          obtain ⟨b, m, hid, rfl⟩ := hv.box_inv
          have ho := hH.obj _ _ _ hid
          rw [hg] at ho
          obtain ⟨c, t, fz, h1, h2, h3, h4, h5⟩ := ho
          have hr : VRels (Imm S base φ H w) φ w cs (c.toList.take cs.length) := ⟨by simp; omega, fun i p u hp hu => by
            have hi : i < cs.length := (List.getElem?_eq_some_iff.1 hp).1
            rw [List.getElem?_take_of_lt hi] at hu
            exact h5 i p u hp (by simpa using hu)⟩
          have := freezeL_rel ih hf hr fun id hid => hJ id (List.mem_cons_of_mem _ hid)
          have hlen : ps.length = cs.length := by have := this.1; simp at this; omega
          have hget : ∀ (j : Nat) p, ps[j]? = some p → ∃ hj : j < c.size, (c.toList.take cs.length)[j]? = some c[j] := fun j p hp => by
            have hj : j < ps.length := (List.getElem?_eq_some_iff.1 hp).1
            refine ⟨by omega, ?_⟩
            rw [List.getElem?_take_of_lt (by omega), Array.getElem?_toList, Array.getElem?_eq_getElem]
          refine .ptr k ps off b 0 off (fun j => c.getD j undef) (by omega) (fun j p hp => ⟨hJ id (List.mem_cons_self ..) b m hid, ?_⟩) fun j p hp => ?_
          · obtain ⟨hj, _⟩ := hget j p hp
            simp [World.cell?, h1, hj]
          · obtain ⟨hj, hu⟩ := hget j p hp
            have := this.2 j p _ hp hu
            simpa [hj] using this
        · simp at h
      · simp at h
    · rename_i id sz off len
      split at h
      · rename_i own cs hg
        split at h
        · rename_i ps is hf
          split at h
          · rename_i hlen
            simp at h
            obtain ⟨rfl, rfl⟩ := h
            obtain ⟨b, m, cap, hid, rfl, hcap, hfull⟩ := hv.row_inv
            have ho := hH.obj _ _ _ hid
            rw [hg] at ho
            obtain ⟨c, t, fz, h1, h2, h3, h4, h5⟩ := ho
            have hr : VRels (Imm S base φ H w) φ w ((cs.drop (off * sz)).take (len * sz)) (((c.toList.take cs.length).drop (off * sz)).take (len * sz)) := by
              refine (VRels.drop ?_ _).take _
              exact ⟨by simp; omega, fun i p u hp hu => by
                have hi : i < cs.length := (List.getElem?_eq_some_iff.1 hp).1
                rw [List.getElem?_take_of_lt hi] at hu
                exact h5 i p u hp (by simpa using hu)⟩
            have := freezeL_rel ih hf hr fun id hid => hJ id (List.mem_cons_of_mem _ hid)
            have hl2 : off * sz + len * sz ≤ cs.length ∨ len * sz = 0 := by
              have h7 := this.1
              simp at h7
              omega
            have hget : ∀ (i : Nat) e (j : Nat) p, (chunks sz len ps)[i]? = some e → e[j]? = some p → ps[i * sz + j]? = some p ∧ i * sz + j < len * sz := fun i e j p he hp => by
              obtain ⟨hi, rfl⟩ := chunks_get sz len ps i e he
              have hj : j < sz := by have := (List.getElem?_eq_some_iff.1 hp).1; simp at this; omega
              rw [List.getElem?_take_of_lt hj, List.getElem?_drop] at hp
              refine ⟨hp, ?_⟩
              have := (List.getElem?_eq_some_iff.1 hp).1
              omega
            have hval : ∀ k, k < len * sz → ∃ hk : off * sz + k < c.size, (((c.toList.take cs.length).drop (off * sz)).take (len * sz))[k]? = some c[off * sz + k] := fun k hk => by
              refine ⟨by omega, ?_⟩
              rw [List.getElem?_take_of_lt hk, List.getElem?_drop, List.getElem?_take_of_lt (by omega), Array.getElem?_toList, Array.getElem?_eq_getElem]
            refine .slice k sz _ b (off * sz) len cap (fun i j => c.getD (off * sz + (i * sz + j)) undef) (chunks_length _ _ _) hcap (fun i e he => ?_) (fun i e j p he hp => ⟨hJ id (List.mem_cons_self ..) b m hid, ?_⟩) fun i e j p he hp => ?_
            · obtain ⟨hi, rfl⟩ := chunks_get sz len ps i e he
              have : (i + 1) * sz ≤ len * sz := Nat.mul_le_mul_right _ hi
              rw [Nat.add_mul] at this
              simp
              omega
            · obtain ⟨hk1, hk2⟩ := hget i e j p he hp
              obtain ⟨hk, _⟩ := hval _ hk2
              simp [World.cell?, h1, Nat.add_assoc, hk]
            · obtain ⟨hk1, hk2⟩ := hget i e j p he hp
              obtain ⟨hk, hu⟩ := hval _ hk2
              have := this.2 _ p _ hk1 hu
              simpa [hk] using this
          · simp at h
        · simp at h
      · simp at h
    · simp at h

theorem cold_repN {I' : Bool → Nat → Prop} {w' : World} (hI : ∀ b, I false b → I' false b ∧ w'.heap[b]? = w.heap[b]?) : ∀ (n : Nat) {p : PV} {v : Value}, p.coldN n = true → Rep I w p v → Rep I' w' p v := by
  intro n
  induction n with
  | zero => intro p v hf; simp [PV.coldN] at hf
  | succ n ih =>
    intro p v hf h
    cases h with
    | int => exact .int ..
    | bool => exact .bool ..
    | str => exact .str ..
    | nils => exact .nils
    | nilp => exact .nilp
    | nilf => exact .nilf
    | agg cs vs hl h => exact .agg cs vs hl fun i p v hp hv => ih (List.all_eq_true.1 hf p (List.mem_of_getElem? hp)) (h i p v hp hv)
    | tup cs vs hl h => exact .tup cs vs hl fun i p v hp hv => ih (List.all_eq_true.1 hf p (List.mem_of_getElem? hp)) (h i p v hp hv)
    | func f cs vs hl h => exact .func f cs vs hl fun i p v hp hv => ih (List.all_eq_true.1 hf p (List.mem_of_getElem? hp)) (h i p v hp hv)
    | slice k sz es b o len cap val hlen hc hz hm h =>
      simp only [PV.coldN, Bool.or_eq_true, Bool.and_eq_true, Bool.not_eq_true'] at hf
      rcases hf with hf | ⟨rfl, hf⟩
      · have : es = [] := by simpa using hf
        subst this
        exact .slice k sz [] b o len cap val hlen hc (fun i e he => by simp at he) (fun i e j p he => by simp at he) (fun i e j p he => by simp at he)
      · refine .slice false sz es b o len cap val hlen hc hz (fun i e j p he hp => ?_) fun i e j p he hp => ?_
        · obtain ⟨h1, h2⟩ := hm i e j p he hp
          exact ⟨(hI _ h1).1, (World.cell?_of_block (a := ⟨b, o + i * sz + j, none⟩) (hI _ h1).2).trans h2⟩
        · exact ih (List.all_eq_true.1 (List.all_eq_true.1 hf e (List.mem_of_getElem? he)) p (List.mem_of_getElem? hp)) (h i e j p he hp)
    | ptr k cs off b o o' val ho hm h =>
      simp only [PV.coldN, Bool.and_eq_true, Bool.not_eq_true'] at hf
      obtain ⟨rfl, hf⟩ := hf
      refine .ptr false cs off b o o' val ho (fun j p hp => ?_) fun j p hp => ?_
      · obtain ⟨h1, h2⟩ := hm j p hp
        exact ⟨(hI _ h1).1, (World.cell?_of_block (a := ⟨b, o + j, none⟩) (hI _ h1).2).trans h2⟩
      · exact ih (List.all_eq_true.1 hf p (List.mem_of_getElem? hp)) (h j p hp)
theorem cold_rep {I' : Bool → Nat → Prop} {w' : World} (hI : ∀ b, I false b → I' false b ∧ w'.heap[b]? = w.heap[b]?) {p : PV} {v : Value} (hf : p.cold = true) (h : Rep I w p v) : Rep I' w' p v :=
  cold_repN hI _ hf h

/-! ### Callees -/
def Fw (ro : Option Nat) : Fence := { Fence.wide with round := ro }

def FnOk (P : Program) (f : FuncId) : Prop := ∃ fn, P.funcs[f]? = some fn ∧ fn.body.isNone = false ∧ (fn.name == "runtime.NumGoroutine") = false

def PReps (I : Bool → Nat → Prop) (w : World) (ps : List PV) (vs : List Value) : Prop := ps.length = vs.length ∧ ∀ (i : Nat) p v, ps[i]? = some p → vs[i]? = some v → Rep I w p v

/-- A function of data, as the model runs it. -/
def PureOk (P : Program) (f : FuncId) (ps : List PV) (r : PV) : Prop :=
  FnOk P f ∧ ∀ (n : Nat) (S' : Bool → Nat → Prop) (w : World) (vals : List Value), (∀ k b, S' k b → b < w.heap.size) → PReps S' w ps vals →
    CallsIn Fence.wide n P f vals.toArray w fun e w' => ∃ v, e = .returned v ∧ Below w.heap.size w w' ∧ Rep (fun k b => (S' k b ∨ w.heap.size ≤ b) ∧ b < w'.heap.size) w' r v

def RunOk (C : Comp) (P : Program) (f : FuncId) (xs : List AV) (H : Heap) (r : AV) (H' : Heap) : Prop :=
  FnOk P f ∧ ∀ (n : Nat) (S : Bool → Nat → Prop) (base : Nat) (φ : Phi) (w : World) (vals : List Value), HRel C S base φ H w → VRels (Imm S base φ H w) φ w xs vals →
    CallsIn Fence.wide n P f vals.toArray w fun e w' => ∃ v φ', e = .returned v ∧ Evo φ H w φ' H' w' ∧ HRel C S base φ' H' w' ∧ VRel (Imm S base φ' H' w') φ' w' r v

def YieldOk (C : Comp) (P : Program) (id : Nat) (xs : List AV) (H : Heap) (r : AV) (H' : Heap) : Prop :=
  ∀ (n : Nat) (S : Bool → Nat → Prop) (base : Nat) (φ : Phi) (w : World) (b m : Nat) (vals : List Value), φ id = some (b, m) → HRel C S base φ H w → VRels (Imm S base φ H w) φ w xs vals →
    ∃ l : Loop, w.heap[b]? = some (.loop l) ∧ vals.length = l.params.size ∧
      RoundIn Fence.wide n P b l.fn ((l.params.zip vals.toArray).foldl (fun tmps (x : Tmp × Value) => tmps.setIfInBounds x.1 x.2) l.tmps) l.assign l.body w
        fun e w' => ∃ v φ', e = .returned v ∧ Evo φ H w φ' H' w' ∧ HRel C S base φ' H' w' ∧ VRel (Imm S base φ' H' w') φ' w' r v

structure CalleeOk (C : Comp) (P : Program) (cl : Callee) : Prop where
  pure : ∀ f ps r, cl.pure f ps = some r → PureOk P f ps r
  run : ∀ f xs H r H', cl.run f xs H = some (r, H') → RunOk C P f xs H r H'
  yield : ∀ id xs H r H', cl.yield id xs H = some (r, H') → YieldOk C P id xs H r H'

theorem callFunc_run {f : FuncId} (hf : FnOk P f) (args : Array Value) : (callFunc f args).run P w = .ok (.enter f args) w := by
  obtain ⟨fn, h1, h2, h3⟩ := hf
  simp only [callFunc, Sem.run_bind, run_program, Result.andThen_ok, h1, h2, h3, Bool.false_eq_true, if_false, Sem.run_pure]

theorem call_run {c : Call} {g : Operand} {f : FuncId} {caps : Array Value} (hop : o.op = .call c) (hc : c.callee = .value g) (hg : a.eval g = .func (.func f) #[] caps) (hf : FnOk P f) :
    (execOp a.eval o).run P w = .ok (.enter f (c.args.map a.eval ++ caps)) w := by
  simp only [execOp, hop, resolve, hc, hg, Deferred.ofValue, Sem.run_bind, Sem.run_pure, Result.andThen_ok, invoke]
  rw [callFunc_run hf]
  simp

variable {ro : Option Nat} {n : Nat} {K : Act → World → Prop} {Q : Exit → Act → World → Prop}

theorem wp_enter {f : FuncId} {args : Array Value} (hnd : ∀ c, o.op ≠ .defer c) (hr : (execOp a.eval o).run P w = .ok (.enter f args) w)
    (h : CallsIn Fence.wide (n - 1) P f args w fun e w' => ∃ v, e = .returned v ∧ K (a.put o.dst v) w') : o.wpIn (Fw ro) n P a w K Q := by
  refine ⟨fun _ _ => trivial, ?_⟩
  rw [Oper.semAt_eq _ _ _ hnd, hr, Oper.uponIn_enter]
  refine ⟨fun hd => by simp [Fw, Fence.wide] at hd, ?_⟩
  have := CallsIn.mono h (R' := fun
    | .returned v, w'' => K (a.put o.dst v) w''
    | .panicked chain, w'' => Q (.panic chain) a w''
    | .outgrown, _ => LetsOut Q) fun e w' ⟨v, he, hk⟩ => by subst he; exact hk
  exact this

theorem wp_ran (hnd : ∀ c, o.op ≠ .defer c) (hr : Ran C S base φ H w e ((execOp a.eval o).run P w)) (h : ∀ v w', EPost C S base φ H w e v w' → K (a.put o.dst v) w') : o.wpIn (Fw ro) n P a w K Q := by
  refine ⟨fun _ _ => trivial, ?_⟩
  rw [Oper.semAt_eq _ _ _ hnd]
  rcases hr with ⟨v, w', hr, hp⟩ | ⟨w', hr, hp⟩
  · rw [hr, Oper.uponIn_value]; exact h v w' hp
  · rw [hr, Oper.uponIn_skip]; exact h _ w' hp

theorem Imm.of_below {w' : World} (hH : HRel C S base φ H w) (hb : Below w.heap.size w w') {k : Bool} {b : Nat} (h : (Imm S base φ H w k b ∨ w.heap.size ≤ b) ∧ b < w'.heap.size) : Imm S base φ H w' k b := by
  obtain ⟨h1 | h1, h2⟩ := h
  · exact ⟨h1.1, h2, h1.2.2⟩
  · refine ⟨.inr (Nat.le_trans hH.sz h1), h2, ?_⟩
    rintro ⟨id, m, hid, _⟩
    have := (hH.lt _ _ _ hid).2
    omega

theorem frozen_imm (hH : HRel C S base φ H w) {ids : List Nat} {k : Bool} {id b m : Nat} (hmem : id ∈ ids) (hid : φ id = some (b, m)) (hc : ∃ own cs, H.get id = .cells own cs) : Imm S base φ (H.freeze ids) w k b := by
  obtain ⟨own, cs, hg⟩ := hc
  refine ⟨.inr (hH.lt _ _ _ hid).1, (hH.lt _ _ _ hid).2, ?_⟩
  rintro ⟨id', m', hid', hl⟩
  have hget : ∀ i, (H.freeze ids).get i = if ids.contains i then (H.get i).freeze else H.get i := fun i => get_freeze ids
  have hd : (H.get id).isDead = false := by rw [hg]; rfl
  have hd' : (H.get id').isDead = false := by
    rw [hget] at hl
    cases hq : H.get id' <;> rw [hq] at hl
    · exfalso
      split at hl <;> simp [AObj.freeze, AObj.live] at hl
    · rfl
    · rfl
  have := hH.inj _ _ _ _ _ hid' hid hd' hd
  subst this
  rw [hget, if_pos (by simpa using hmem), hg] at hl
  simp [AObj.freeze, AObj.live] at hl

/-- What is looked at when data is taken out is cells. -/
theorem freezeL_ids {fr : AV → Option (PV × List Nat)} (hfr : ∀ av p ids, fr av = some (p, ids) → ∀ id ∈ ids, ∃ own cs, H.get id = .cells own cs) : ∀ {cs : List AV} {ps : List PV} {ids : List Nat}, freezeL fr cs = some (ps, ids) → ∀ id ∈ ids, ∃ own cs, H.get id = .cells own cs
  | [], ps, ids, h => by simp [freezeL] at h; obtain ⟨_, rfl⟩ := h; simp
  | c :: cs, ps, ids, h => by
    unfold freezeL at h
    split at h
    · simp at h
    · rename_i p is hp
      split at h
      · simp at h
      · rename_i qs js hq
        simp at h
        obtain ⟨_, rfl⟩ := h
        intro id hid
        rcases List.mem_append.1 hid with h1 | h1
        · exact hfr _ _ _ hp id h1
        · exact freezeL_ids hfr hq id h1
theorem freeze_ids {k : Bool} : ∀ (n : Nat) (av : AV) (p : PV) (ids : List Nat), freeze H k n av = some (p, ids) → ∀ id ∈ ids, ∃ own cs, H.get id = .cells own cs := by
  intro n
  induction n with
  | zero => intro av p ids h; simp [freeze] at h
  | succ n ih =>
    intro av p ids h
    unfold freeze at h
    split at h
    · simp at h; obtain ⟨_, rfl⟩ := h; simp
    · split at h
      · rename_i hf; simp at h; obtain ⟨_, rfl⟩ := h; exact freezeL_ids ih hf
      · simp at h
    · split at h
      · rename_i hf; simp at h; obtain ⟨_, rfl⟩ := h; exact freezeL_ids ih hf
      · simp at h
    · split at h
      · rename_i hf; simp at h; obtain ⟨_, rfl⟩ := h; exact freezeL_ids ih hf
      · simp at h
    · split at h
      · rename_i own cs hg
        split at h
        · rename_i hf
          simp at h
          obtain ⟨_, rfl⟩ := h
          intro id hid
          rcases List.mem_cons.1 hid with rfl | h1
          · exact ⟨_, _, hg⟩
          · exact freezeL_ids ih hf id h1
        · simp at h
      · simp at h
    · split at h
      · rename_i own cs hg
        split at h
        · rename_i hf
          split at h
          · simp at h
            obtain ⟨_, rfl⟩ := h
            intro id hid
            rcases List.mem_cons.1 hid with rfl | h1
            · exact ⟨_, _, hg⟩
            · exact freezeL_ids ih hf id h1
          · simp at h
        · simp at h
      · simp at h
    · simp at h

/-- What a callee on data may look at: own memory of the caller is hot. -/
def callI (S : Bool → Nat → Prop) (base : Nat) (φ : Phi) (H : Heap) (ids : List Nat) (w : World) : Bool → Nat → Prop
  | true => Imm S base φ (H.freeze ids) w true
  | false => Imm S base φ H w false
theorem callI_lt {S : Bool → Nat → Prop} {ids : List Nat} {k : Bool} {b : Nat} (h : callI S base φ H ids w k b) : b < w.heap.size := by
  cases k <;> exact h.2.1

/-- A call, when the function's value is known. -/
theorem wp_doCall {cl : Callee} (hcl : CalleeOk C P cl) (hH : HRel C S base φ H w) {c : Call} {g : Operand} {f : FuncId} {caps : List AV} {vcaps : Array Value} {args : List AV} (hop : o.op = .call c) (hc : c.callee = .value g)
    (hg : a.eval g = .func (.func f) #[] vcaps) (hcaps : VRels (Imm S base φ H w) φ w caps vcaps.toList) (hargs : VRels (Imm S base φ H w) φ w args (c.args.toList.map a.eval))
    (h : (if cl.shared f then
        match cl.run f (args ++ caps) H with
        | some (v, H') => some (.upd v H')
        | none => none
      else
        match freezeL (freeze H true depthF) (args ++ caps) with
        | none => none
        | some (ps, ids) =>
          match cl.pure f ps with
          | none => none
          | some r => if ids.isEmpty || r.cold then some (.val (.pure r)) else some (.upd (.pure r) (H.freeze ids)) : Option Eff) = some e)
    (hK : ∀ v w', EPost C S base φ H w e v w' → K (a.put o.dst v) w') : o.wpIn (Fw ro) n P a w K Q := by
  have hnd : ∀ c, o.op ≠ .defer c := fun c' h => by rw [hop] at h; cases h
  have hall := hargs.append hcaps
  have hvals : (c.args.toList.map a.eval ++ vcaps.toList).toArray = c.args.map a.eval ++ vcaps := by
    apply Array.ext'
    simp
  split at h
  · -- with the caller's memory
    split at h
    · rename_i v H' hr
      simp at h
      subst h
      obtain ⟨hf, hrun⟩ := hcl.run _ _ _ _ _ hr
      refine wp_enter hnd (call_run hop hc hg hf) ?_
      rw [← hvals]
      refine (hrun (n - 1) S base φ w _ hH hall).mono ?_
      rintro e w' ⟨v, φ', rfl, h1, h2, h3⟩
      exact ⟨v, rfl, hK v w' ⟨φ', h1, h2, h3⟩⟩
    · simp at h
  · -- on data
    split at h
    · simp at h
    · rename_i ps ids hfz
      split at h
      · simp at h
      · rename_i r hr
        obtain ⟨hf, hrun⟩ := hcl.pure _ _ _ hr
        have hfrozen := hH.freeze ids
        have hJ : ∀ id ∈ ids, ∀ b n, φ id = some (b, n) → callI S base φ H ids w true b := fun id hid b m hb =>
          frozen_imm hH hid hb (freezeL_ids (freeze_ids depthF) hfz id hid)
        have hJ0 : ∀ k b, Imm S base φ H w k b → callI S base φ H ids w k b := fun k b hb => by
          cases k with
          | true => exact (hfrozen.1.imm hb).1
          | false => exact hb
        have hps := freezeL_rel (J := callI S base φ H ids w) (fun av p ids' v h1 h2 h3 => freeze_rel hH hJ0 depthF av p ids' v h1 h2 h3) hfz hall hJ
        refine wp_enter hnd (call_run hop hc hg hf) ?_
        rw [← hvals]
        refine (hrun (n - 1) (callI S base φ H ids w) w _ (fun k b hb => callI_lt hb) hps).mono ?_
        rintro e' w' ⟨v, rfl, hb, hrep⟩
        refine ⟨v, rfl, hK v w' ?_⟩
        split at h
        · rename_i hcond
          simp at h
          subst h
          refine ⟨hb, .pure _ _ ?_⟩
          simp only [Bool.or_eq_true] at hcond
          rcases hcond with hemp | hcold
          · have hids : ids = [] := by simpa using hemp
            subst hids
            have hHe : H.freeze [] = H := by cases H; rfl
            refine hrep.mono fun k b hb' => ⟨Imm.of_below hH hb ⟨?_, hb'.2⟩, rfl⟩
            rcases hb'.1 with h1 | h1
            · refine .inl ?_
              cases k with
              | true => rw [← hHe]; exact h1
              | false => exact h1
            · exact .inr h1
          · exact cold_rep (fun b hb' => ⟨Imm.of_below hH hb hb', rfl⟩) hcold hrep
        · simp at h
          subst h
          have hev := Evo.of_below (φ := φ) (H := H.freeze ids) hb
          refine ⟨φ, hfrozen.1.trans hev, hfrozen.2.below hb, .pure _ _ (hrep.mono fun k b hb' => ⟨Imm.of_below hfrozen.2 hb ⟨?_, hb'.2⟩, rfl⟩)⟩
          rcases hb'.1 with h1 | h1
          · refine .inl ?_
            cases k with
            | true => exact h1
            | false => exact (hfrozen.1.imm h1).1
          · exact .inr h1
end
end Go.Proofs.YtjjkgamklbgnlaaGreat.Vm
