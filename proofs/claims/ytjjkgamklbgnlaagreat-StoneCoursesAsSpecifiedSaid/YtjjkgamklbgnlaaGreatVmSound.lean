/- Calls: the machine's call stands for the model's. -/
import Derived.Test.YtjjkgamklbgnlaaGreatVmExec
namespace Go.Proofs.YtjjkgamklbgnlaaGreat.Vm
open Go Go.RowKit
set_option linter.unusedVariables false
set_option linter.unusedSimpArgs false

/-- Is a block a row of cells? -/
def IsCells (w : World) (b : Nat) : Prop := ∃ c t fz, w.heap[b]? = some (.cells c t fz)
theorem isCells_of_cell {w : World} {b k : Nat} {v : Value} (h : w.cell? ⟨b, k, none⟩ = some v) : IsCells w b := by
  simp only [World.cell?] at h
  split at h
  · rename_i c t fz hb; exact ⟨c, t, fz, hb⟩
  · simp at h

theorem Rep.touch {I I' : Bool → Nat → Prop} {w w' : World} (hI : ∀ k b, I k b → IsCells w b → I' k b ∧ w'.heap[b]? = w.heap[b]?) {p : PV} {v : Value} (h : Rep I w p v) : Rep I' w' p v := by
  induction h with
  | int k n => exact .int k n
  | bool b => exact .bool b
  | str s => exact .str s
  | agg cs vs hl _ ih => exact .agg cs vs hl ih
  | tup cs vs hl _ ih => exact .tup cs vs hl ih
  | nils => exact .nils
  | slice k sz es b o len cap val hlen hc hz hm _ ih =>
    refine .slice k sz es b o len cap val hlen hc hz (fun i e j p he hp => ?_) ih
    obtain ⟨h1, h2⟩ := hm i e j p he hp
    have h3 := hI _ _ h1 (isCells_of_cell h2)
    exact ⟨h3.1, (World.cell?_of_block (a := ⟨b, o + i * sz + j, none⟩) h3.2).trans h2⟩
  | nilp => exact .nilp
  | ptr k cs off b o o' val ho hm _ ih =>
    refine .ptr k cs off b o o' val ho (fun j p hp => ?_) ih
    obtain ⟨h1, h2⟩ := hm j p hp
    have h3 := hI _ _ h1 (isCells_of_cell h2)
    exact ⟨h3.1, (World.cell?_of_block (a := ⟨b, o + j, none⟩) h3.2).trans h2⟩
  | func f cs vs hl _ ih => exact .func f cs vs hl ih
  | nilf => exact .nilf

theorem VRel.touch {I I' : Bool → Nat → Prop} {φ : Phi} {w w' : World} (hI : ∀ k b, I k b → IsCells w b → I' k b ∧ w'.heap[b]? = w.heap[b]?) {a : AV} {v : Value} (h : VRel I φ w a v) : VRel I' φ w' a v := by
  induction h with
  | undef v => exact .undef v
  | pure p v h => exact .pure p v (h.touch hI)
  | box id off b n h => exact .box id off b n h
  | row id sz off len b n o cap h ho hc hn => exact .row id sz off len b n o cap h ho hc hn
  | agg cs vs hl _ ih => exact .agg cs vs hl ih
  | tup cs vs hl _ ih => exact .tup cs vs hl ih
  | func f cs vs hl _ ih => exact .func f cs vs hl ih
  | yield id b n h => exact .yield id b n h

section
variable {P : Program} {Z : List Nat} {C : Comp} {S : Bool → Nat → Prop} {base lo nt : Nat} {n : Nat} {φ φ' : Phi} {H H' : Heap} {w w' : World} {env : Env} {a : Act}

theorem HRel.touch (h : HRel C S base φ H w) {r : Nat} {x : Option (List Deferred)} (hr : w.heap[r]? = some (.deferred x)) (o : Obj) : HRel C S base φ H (laid w r o) := by
  have hsz : (laid w r o).heap.size = w.heap.size := by simp [laid]
  have hne : ∀ id b n, φ id = some (b, n) → (H.get id).isDead = false → b ≠ r := fun id b n hid hd e => by
    subst e
    have ho := h.obj _ _ _ hid
    cases hg : H.get id with
    | dead => rw [hg] at hd; simp [AObj.isDead] at hd
    | cells own cs => rw [hg] at ho; obtain ⟨c, t, fz, h1, _⟩ := ho; rw [hr] at h1; simp at h1
    | loop l => rw [hg] at ho; obtain ⟨l', h1, _⟩ := ho; rw [hr] at h1; simp at h1
  have himm : ∀ k b, Imm S base φ H w k b → IsCells w b → Imm S base φ H (laid w r o) k b ∧ (laid w r o).heap[b]? = w.heap[b]? := fun k b hb hc => by
    refine ⟨⟨hb.1, by rw [hsz]; exact hb.2.1, hb.2.2⟩, laid_ne fun e => ?_⟩
    subst e
    obtain ⟨c, t, fz, h1⟩ := hc
    rw [hr] at h1; simp at h1
  refine ⟨by rw [hsz]; exact h.sz, h.out, h.nx, fun id b n hid => by rw [hsz]; exact h.lt _ _ _ hid, fun id b n hid => ?_, h.inj⟩
  have ho := h.obj _ _ _ hid
  cases hg : H.get id with
  | dead => trivial
  | cells own cs =>
    rw [hg] at ho
    obtain ⟨c, e, fz, h1, h2, h3, h4, h5⟩ := ho
    exact ⟨c, e, fz, (laid_ne (hne _ _ _ hid (by rw [hg]; rfl))).trans h1, h2, h3, h4, fun j a v ha hv => (h5 j a v ha hv).touch himm⟩
  | loop l =>
    rw [hg] at ho
    obtain ⟨l', h1, h2, h3, h4, h5, h6, h7, h8⟩ := ho
    exact ⟨l', (laid_ne (hne _ _ _ hid (by rw [hg]; rfl))).trans h1, h2, h3, h4, h5, h6, fun t => (h7 t).touch himm, h8⟩

theorem touch_vrel {r : Nat} {x : Option (List Deferred)} (hr : w.heap[r]? = some (.deferred x)) (o : Obj) {av : AV} {v : Value} (h : VRel (Imm S base φ H w) φ w av v) : VRel (Imm S base φ H (laid w r o)) φ (laid w r o) av v :=
  h.touch fun k b hb hc => by
    refine ⟨⟨hb.1, by simpa [laid] using hb.2.1, hb.2.2⟩, laid_ne fun e => ?_⟩
    subst e
    obtain ⟨c, t, fz, h1⟩ := hc
    rw [hr] at h1; simp at h1

/-! ### What a function hands back -/
theorem loadRes_rel (hH : HRel C S base φ H w) (hE : ERel (Imm S base φ H w) φ w env a) {r : ResultVar} {vr : VRes} {av : AV} (hc : compileRes P r = some vr) (hl : loadRes env H vr = some av) :
    ∃ u, ((match r with | .tmp t => pure (a.tmps.getD t undef) | .cell b t => do loadVar t (← asAddr (a.tmps.getD b undef)) : Sem Value)).run P w = .ok u w ∧ VRel (Imm S base φ H w) φ w av u := by
  cases r with
  | tmp t =>
    simp [compileRes] at hc; subst hc
    simp [loadRes] at hl; subst hl
    exact ⟨_, rfl, hE t⟩
  | cell t ty =>
    simp only [compileRes] at hc
    split at hc
    · rename_i g s hg hs
      split at hc
      · simp at hc
      · rename_i h1
        simp at hc; subst hc
        simp only [loadRes] at hl
        split at hl
        · rename_i cs hcs
          obtain ⟨ad, vs, e1, e2, e3, e4⟩ := loadCells_rel hH (hE t) hcs
          have hlen : vs.length = s := by have := e2.1; omega
          refine ⟨_, ?_, ofCells_rel e2 hl⟩
          show (do loadVar ty (← asAddr (a.tmps.getD t undef)) : Sem Value).run P w = _
          rw [e1]
          exact run_loadVar' hg hs (aggOne h1) hlen e4
        · simp at hl
    · simp at hc

theorem loadAll_rel (hH : HRel C S base φ H w) (hE : ERel (Imm S base φ H w) φ w env a) : ∀ {rs : List ResultVar} {vrs : List VRes} {avs : List AV}, compileResL P rs = some vrs → loadAll env H vrs = some avs →
    ∃ us, (rs.mapM fun r => (match r with | .tmp t => pure (a.tmps.getD t undef) | .cell b t => do loadVar t (← asAddr (a.tmps.getD b undef)) : Sem Value)).run P w = .ok us w ∧ VRels (Imm S base φ H w) φ w avs us
  | [], vrs, avs, hc, hl => by
    simp [compileResL] at hc; subst hc
    simp [loadAll] at hl; subst hl
    exact ⟨[], rfl, .nil⟩
  | r :: rs, vrs, avs, hc, hl => by
    simp only [compileResL] at hc
    split at hc
    · simp at hc
    · rename_i v hv
      split at hc
      · simp at hc
      · rename_i vs hvs
        simp at hc; subst hc
        simp only [loadAll] at hl
        split at hl
        · simp at hl
        · rename_i x hx
          split at hl
          · simp at hl
          · rename_i xs hxs
            simp at hl; subst hl
            obtain ⟨u, h1, h2⟩ := loadRes_rel hH hE hv hx
            obtain ⟨us, h3, h4⟩ := loadAll_rel hH hE hvs hxs
            refine ⟨u :: us, ?_, .cons h2 h4⟩
            rw [List.mapM_cons]
            simp only [Sem.run_bind, h1, Result.andThen_ok, h3, Sem.run_pure]

theorem results_rel (hH : HRel C S base φ H w) (hE : ERel (Imm S base φ H w) φ w env a) {fn : Func} {vrs : List VRes} {av : AV} (hc : compileResL P fn.results.toList = some vrs) (hl : Vm.results env H vrs = some av) :
    ∃ u, (Go.results fn a.tmps).run P w = .ok u w ∧ VRel (Imm S base φ H w) φ w av u := by
  unfold Vm.results at hl
  cases hla : loadAll env H vrs with
  | none => rw [hla] at hl; simp at hl
  | some avs =>
    rw [hla] at hl
    obtain ⟨us, h1, h2⟩ := loadAll_rel hH hE hc hla
    have h3 : (fn.results.mapM fun r => (match r with | .tmp t => pure (a.tmps.getD t undef) | .cell b t => do loadVar t (← asAddr (a.tmps.getD b undef)) : Sem Value)).run P w = .ok us.toArray w := by
      rw [Array.mapM_eq_mapM_toList]
      simp only [Sem.run_map, h1, Result.andThen_ok]
    refine ⟨if h : us.toArray.size = 1 then us.toArray[0] else .tuple us.toArray, ?_, ?_⟩
    · unfold Go.results
      rw [Sem.run_bind]
      erw [h3]
      rfl
    · match avs, us, h2, hl with
      | [v], us, h2, hl =>
        obtain ⟨u, us', rfl, h4, h5⟩ := h2.cons_inv
        have := h5.nil_inv
        subst this
        simp at hl; subst hl
        simpa using h4
      | [], us, h2, hl =>
        have := h2.nil_inv
        subst this
        simp at hl; subst hl
        exact undef_rel
      | v1 :: v2 :: vs, us, h2, hl =>
        obtain ⟨u, us', rfl, h4, h5⟩ := h2.cons_inv
        obtain ⟨u2, us2, rfl, h6, h7⟩ := h5.cons_inv
        simp at hl; subst hl
        rw [dif_neg (by simp)]
        exact .tup _ _ (by simpa using h2.1) fun i p v hp hv => h2.2 i p v hp (by simpa using hv)

/-! ### A whole program -/
structure GOk (P : Program) (G : Prog) : Prop where
  mix : P.follows .mixedOrders = true
  func : ∀ f vf, G.func f = some vf → ∃ fn Z, P.funcs[f]? = some fn ∧ compileFn P Z fn = some vf
  ext : ∀ f g ps r, G.ext f = some g → g ps = some r → PureOk P f ps r
  extRun : ∀ f xs H r H', G.extRun f xs H = some (r, H') → RunOk (CC P) P f xs H r H'

/-- Marks are taken; nothing that matters changes. -/
theorem leaves_marks {fn : Func} {tmps : Array Value} {Rr : Ending → World → Prop} {φ0 : Phi} {H0 : Heap} {w0 : World} (hK : ∀ w', Evo φ0 H0 w0 φ H w' → HRel C S base φ H w' → (ERel (Imm S base φ H w') φ w' env a) → ∃ v, (Go.results fn tmps).run P w' = .ok v w' ∧ Rr (.returned v) w') :
    ∀ (marks : List Nat) (w : World), marks.Nodup → (∀ r ∈ marks, w0.heap.size ≤ r ∧ w.heap[r]? = some (.deferred (some []))) → Evo φ0 H0 w0 φ H w → HRel C S base φ H w → ERel (Imm S base φ H w) φ w env a →
      LeavesInM Fence.wide n P fn tmps Rr (marks.map markOf) .returning w := by
  intro marks
  induction marks with
  | nil =>
    intro w _ _ hev hH hE
    exact hK w hev hH hE
  | cons r marks ih =>
    intro w hnd hm hev hH hE
    have hr := hm r (List.mem_cons_self ..)
    have hlt := lt_of_some hr.2
    refine ⟨by simp, .inl ⟨r, laid w r (.deferred none), rfl, ?_, ?_⟩⟩
    · simp only [Instr.takeDeferred, Sem.run_bind]
      have h1 : (getObj r).run P w = .ok (.deferred (some [])) w := by simp [getObj, Sem.run, hr.2]
      have h2 : (setObj r (.deferred none)).run P w = .ok () (laid w r (.deferred none)) := by simp [setObj, Sem.run, hr.2, laid]
      simp only [h1, Result.andThen_ok, Sem.run_bind, h2, Sem.run_pure]
    · refine ih (laid w r (.deferred none)) (List.nodup_cons.1 hnd).2 (fun s hs => ?_) ?_ (hH.touch hr.2 _) fun t => touch_vrel hr.2 _ (hE t)
      · have := hm s (List.mem_cons_of_mem _ hs)
        exact ⟨this.1, (laid_ne (fun e => (List.nodup_cons.1 hnd).1 (by rw [← e]; exact hs))).trans this.2⟩
      · exact ⟨hev.phi, hev.os, hev.tape, hev.output, by simp [laid]; exact hev.size, fun b hb hnm => (laid_ne (by omega)).trans (hev.same b hb hnm), hev.muts, hev.nx⟩

theorem initEnv_rel {I : Bool → Nat → Prop} {xs : List AV} {vals : List Value} {k : Nat} (h : VRels I φ w xs vals) : ERel I φ w (initEnv xs) { tmps := vals.toArray ++ Array.replicate k undef, defers := [] } := fun t => by
  show VRel I φ w ((xs[t]?).getD (.tup [])) ((vals.toArray ++ Array.replicate k undef).getD t undef)
  rcases Nat.lt_or_ge t xs.length with ht | ht
  · have ht' : t < vals.length := by rw [← h.1]; exact ht
    have := h.2 t xs[t] vals[t] (List.getElem?_eq_getElem ht) (List.getElem?_eq_getElem ht')
    rw [List.getElem?_eq_getElem ht]
    have e : (vals.toArray ++ Array.replicate k undef).getD t undef = vals[t] := by
      simp only [Array.getD_eq_getD_getElem?, Array.getElem?_append]
      simp [ht']
    rw [e]
    exact this
  · rw [List.getElem?_eq_none ht]
    have e : (vals.toArray ++ Array.replicate k undef).getD t undef = undef := by
      have := h.1
      simp only [Array.getD_eq_getD_getElem?, Array.getElem?_append]
      rw [if_neg (by simp; omega)]
      simp only [Array.getElem?_replicate]
      split <;> rfl
    rw [e]
    exact undef_rel

theorem zip_env {I : Bool → Nat → Prop} : ∀ {ts : List Tmp} {xs : List AV} {vals : List Value} {env : Env} {tmps : Array Value}, (∀ t, VRel I φ w (env t) (tmps.getD t undef)) → VRels I φ w xs vals → (∀ t ∈ ts, t < tmps.size) →
    (∀ t, VRel I φ w (((ts.zip xs).foldl (fun e x => upd e x.1 x.2) env) t) (((ts.zip vals).foldl (fun tm (x : Tmp × Value) => tm.setIfInBounds x.1 x.2) tmps).getD t undef)) ∧
      ((ts.zip vals).foldl (fun tm (x : Tmp × Value) => tm.setIfInBounds x.1 x.2) tmps).size = tmps.size
  | [], xs, vals, env, tmps, hE, hx, hl => ⟨hE, rfl⟩
  | t :: ts, [], vals, env, tmps, hE, hx, hl => by rw [hx.nil_inv]; exact ⟨hE, rfl⟩
  | t :: ts, x :: xs, vals, env, tmps, hE, hx, hl => by
    obtain ⟨v, vs, rfl, h1, h2⟩ := hx.cons_inv
    have ht := hl t (List.mem_cons_self ..)
    have := zip_env (ts := ts) (env := upd env t x) (tmps := tmps.setIfInBounds t v) (fun u => by
      simp only [upd]
      by_cases hu : u = t
      · subst hu; simp [ht]; exact h1
      · rw [if_neg hu]
        have e : (tmps.setIfInBounds t v).getD u undef = tmps.getD u undef := by simp [Ne.symm hu]
        rw [e]
        exact hE u) h2 (fun u hu => by simp; exact hl u (List.mem_cons_of_mem _ hu))
    simp only [List.zip_cons_cons, List.foldl_cons]
    exact ⟨this.1, this.2.trans (by simp)⟩

theorem array_zip_foldl (ps : Array Tmp) (vals : List Value) (tmps : Array Value) :
    ((ps.zip vals.toArray).foldl (fun tmps (x : Tmp × Value) => tmps.setIfInBounds x.1 x.2) tmps) = ((ps.toList.zip vals).foldl (fun tm (x : Tmp × Value) => tm.setIfInBounds x.1 x.2) tmps) := by
  rw [← Array.foldl_toList]
  simp

theorem empty_hrel (S : Bool → Nat → Prop) (w : World) (hS : ∀ k b, S k b → b < w.heap.size) : HRel C S w.heap.size (fun _ => none) Heap.empty w :=
  ⟨Nat.le_refl _, hS, fun id x h => by simp at h, fun id b n h => by simp at h, fun id b n h => by simp at h, fun id id' b n n' h => by simp at h⟩

/-- A run that begins with no memory of its own is a function of data. -/
theorem pure_of_run {f : FuncId} {ps : List PV} {v : AV} {H' : Heap} {r : PV} {ids : List Nat} (h : RunOk C P f (ps.map .pure) Heap.empty v H') (hf : Vm.freeze H' false depthF v = some (r, ids)) : PureOk P f ps r := by
  refine ⟨h.1, fun n S' w vals hS hps => ?_⟩
  have hI : ∀ k b, S' k b → Imm S' w.heap.size (fun _ => none) Heap.empty w k b := fun k b hb => ⟨.inl hb, hS k b hb, fun ⟨id, m, hid, _⟩ => by simp at hid⟩
  refine CallsIn.mono (h.2 n S' w.heap.size (fun _ => none) w vals (empty_hrel S' w hS) (VRels.pures hps.1 fun i p v hp hv => (hps.2 i p v hp hv).mono fun k b hb => ⟨hI k b hb, rfl⟩)) ?_
  rintro e w' ⟨u, φ', rfl, hev, hH, hv⟩
  refine ⟨u, rfl, ⟨hev.os, hev.tape, hev.output, hev.size, fun b hb => hev.same b hb fun ⟨id, m, hid, _⟩ => by simp at hid⟩, ?_⟩
  refine freeze_rel hH (J := fun k b => (S' k b ∨ w.heap.size ≤ b) ∧ b < w'.heap.size) (fun k b hb => ⟨hb.1, hb.2.1⟩) depthF v r ids u hf hv fun id _ b m hid => ?_
  have := hH.lt _ _ _ hid
  exact ⟨.inr this.1, this.2⟩

theorem call_succ (G : Prog) (n : Nat) (tg : Target) (args : List AV) (H : Heap) : Vm.call G (n + 1) tg args H =
    (let cl : Callee := {
      pure := fun f ps => match G.ext f with
        | some g => g ps
        | none => match Vm.call G n (.fn f) (ps.map .pure) Heap.empty with
          | some (v, H') => (Vm.freeze H' false depthF v).map (·.1)
          | none => none
      shared := G.shared
      run := fun f xs H => Vm.call G n (.fn f) xs H
      yield := fun id xs H => Vm.call G n (.yield id) xs H }
    match tg with
    | .fn f => match G.extRun f args H with
      | some r => some r
      | none => match G.func f with
        | none => none
        | some fn =>
          if args.length = fn.nargs then
            match exec cl fn.body (initEnv args) H with
            | some (.normal, env, H') | some (.ret, env, H') => match Vm.results env H' fn.results with
              | some v => some (v, H')
              | none => none
            | _ => none
          else none
    | .yield id => match H.get id with
      | .loop r =>
        if args.length = r.params.length then
          match exec cl r.assign ((r.params.zip args).foldl (fun e x => upd e x.1 x.2) r.env) H with
          | some (.normal, env2, H2) => match H2.get id with
            | .loop r2 => match r2.state with
              | .ready => match exec cl r.body env2 (H2.set id (.loop { r2 with state := .busy })) with
                | some (x, _, H3) => match H3.get id with
                  | .loop r3 => match x with
                    | .normal => some (.pure (.bool true), H3.set id (.loop { r3 with state := .ready, pending := .normal }))
                    | x => some (.pure (.bool false), H3.set id (.loop { r3 with state := .done, pending := x }))
                  | _ => none
                | none => none
              | _ => none
            | _ => none
          | _ => none
        else none
      | _ => none) := rfl

def TargetOk (P : Program) (tg : Target) (args : List AV) (H : Heap) (r : AV) (H' : Heap) : Prop :=
  match tg with
  | .fn f => RunOk (CC P) P f args H r H'
  | .yield id => YieldOk (CC P) P id args H r H'

theorem call_sound {G : Prog} (hG : GOk P G) : ∀ (n : Nat) (tg : Target) (args : List AV) (H : Heap) (r : AV) (H' : Heap), Vm.call G n tg args H = some (r, H') → TargetOk P tg args H r H' := by
  intro n
  induction n with
  | zero => intro tg args H r H' h; simp [Vm.call] at h
  | succ n ih =>
    intro tg args H r H' h
    rw [call_succ] at h
    extract_lets cl at h
    have hcl : CalleeOk (CC P) P cl := by
      refine ⟨fun f ps r h => ?_, fun f xs H r H' h => ih (.fn f) xs H r H' h, fun id xs H r H' h => ih (.yield id) xs H r H' h⟩
      simp only [cl] at h
      split at h
      · rename_i g hg
        exact hG.ext _ _ _ _ hg h
      · split at h
        · rename_i v H1 hc
          rw [Option.map_eq_some_iff] at h
          obtain ⟨⟨p, ids⟩, hf, rfl⟩ := h
          exact pure_of_run (ih (.fn f) _ _ _ _ hc) hf
        · simp at h
    clear_value cl
    cases tg with
    | fn f =>
      simp only at h
      split at h
      · rename_i r0 hr0
        simp only [Option.some.injEq] at h
        subst h
        exact hG.extRun _ _ _ _ _ hr0
      split at h
      · simp at h
      · rename_i vf hvf
        obtain ⟨fn, Z, hfn, hcomp⟩ := hG.func _ _ hvf
        unfold compileFn at hcomp
        split at hcomp
        · rename_i c rs hb hrs
          split at hcomp
          · simp at hcomp
          · rename_i hname
            simp only [Bool.or_eq_true, not_or, Bool.not_eq_true, Bool.not_eq_eq_eq_not, Bool.not_true, Bool.not_false] at hname
            rw [Option.map_eq_some_iff] at hcomp
            obtain ⟨vc, hvc, rfl⟩ := hcomp
            split at h
            · rename_i hlen
              simp only at hlen
              refine ⟨⟨fn, hfn, by rw [hb]; rfl, hname.1⟩, fun k S base φ w vals hH hv => ?_⟩
              have hle : fn.params.size + fn.nfree ≤ fn.ntmps := by simpa using hname.2
              have hvl : vals.length = fn.params.size + fn.nfree := hv.1.symm.trans hlen
              refine callsIn_of_wp_marks hfn hb trivial ?_
              have hR : R (CC P) S base w.heap.size fn.ntmps φ H (initEnv args) { tmps := vals.toArray ++ Array.replicate (fn.ntmps - vals.toArray.size) undef, defers := [] } w :=
                ⟨hH, initEnv_rel hv, by simp; omega, Nat.le_refl _, [], rfl, List.nodup_nil, by simp⟩
              have hmain : ∀ (x : VExit) (env' : Env), exec cl vc (initEnv args) H = some (x, env', H') → (x = .normal ∨ x = .ret) → Vm.results env' H' rs = some r →
                  c.wpIn (Fw none) k P (bodyPostM Fence.wide k P fn fun e w' => ∃ v φ', e = .returned v ∧ Evo φ H w φ' H' w' ∧ HRel (CC P) S base φ' H' w' ∧ VRel (Imm S base φ' H' w') φ' w' r v)
                    { tmps := vals.toArray ++ Array.replicate (fn.ntmps - vals.toArray.size) undef, defers := [] } w := fun x env' hx hx2 hres => by
                refine exec_sound hcl hG.mix c vc _ H x env' H' φ _ w _ (.inl rfl) hvc hx hR fun φ' a' w' hev hR' => ?_
                obtain ⟨marks, m1, m2, m3⟩ := hR'.defs
                have hleave := leaves_marks (n := k) (P := P) (C := CC P) (S := S) (base := base) (fn := fn) (tmps := a'.tmps) (a := a') (env := env') (φ := φ') (H := H') (φ0 := φ) (H0 := H) (w0 := w)
                  (Rr := fun e w' => ∃ v φ', e = .returned v ∧ Evo φ H w φ' H' w' ∧ HRel (CC P) S base φ' H' w' ∧ VRel (Imm S base φ' H' w') φ' w' r v) (fun w2 hev2 hH2 hE2 => by
                    obtain ⟨u, h1, h2⟩ := results_rel hH2 hE2 (fn := fn) hrs hres
                    exact ⟨u, h1, u, φ', rfl, hev2, hH2, h2⟩) marks w' m2 m3 hev hR'.heap hR'.env
                rw [← m1] at hleave
                rcases hx2 with rfl | rfl <;> exact hleave
              split at h
              · rename_i env' H1 hx
                split at h
                · rename_i v hres
                  simp at h; obtain ⟨rfl, rfl⟩ := h
                  exact hmain _ _ hx (.inl rfl) hres
                · simp at h
              · rename_i env' H1 hx
                split at h
                · rename_i v hres
                  simp at h; obtain ⟨rfl, rfl⟩ := h
                  exact hmain _ _ hx (.inr rfl) hres
                · simp at h
              · simp at h
            · simp at h
        · simp at hcomp
    | yield id =>
      simp only at h
      split at h
      · rename_i lr hlr
        split at h
        · rename_i hlen
          split at h
          · rename_i env2 H2 hx1
            split at h
            · rename_i r2 hr2
              split at h
              · rename_i hst2
                split at h
                · rename_i x env3 H3 hx2
                  split at h
                  · rename_i r3 hr3
                    intro k S base φ w b m vals hid hH hv
                    have ho := hH.obj _ _ _ hid
                    rw [hlr] at ho
                    obtain ⟨l, g1, g2, g3, g4, ⟨Z5, g5, g5'⟩, ⟨Z6, g6, g6'⟩, g7, g8⟩ := ho
                    refine ⟨l, g1, ?_, ?_⟩
                    · rw [← hv.1, hlen, ← g4]; simp
                    · refine roundIn_of_wpIn trivial ?_
                      rw [array_zip_foldl]
                      have hz := zip_env (ts := l.params.toList) g7 hv (by rw [g4]; exact g8)
                      rw [← g4] at hx1
                      have hR : R (CC P) S base w.heap.size l.tmps.size φ H ((l.params.toList.zip args).foldl (fun e x => upd e x.1 x.2) lr.env)
                          { tmps := ((l.params.toList.zip vals).foldl (fun tm (x : Tmp × Value) => tm.setIfInBounds x.1 x.2) l.tmps), defers := [] } w :=
                        ⟨hH, hz.1, hz.2, Nat.le_refl _, [], rfl, List.nodup_nil, by simp⟩
                      refine exec_sound (ro := some b) hcl hG.mix l.assign lr.assign _ H .normal env2 H2 φ _ w _ (.inr g5') g5 hx1 hR fun φ1 a1 w1 hev1 hR1 => ?_
                      have hid1 := hev1.phi _ _ hid
                      have ho1 := hR1.heap.obj _ _ _ hid1
                      rw [hr2] at ho1
                      obtain ⟨l1, k1, k2, k3, k4, k5, k6, k7, k8⟩ := ho1
                      have hb1 : (Instr.beginRound b).run P w1 = .ok () (laid w1 b (.loop { l1 with state := .busy })) := by
                        have : l1.state = .ready := by rw [k2, hst2]; rfl
                        simp only [Instr.beginRound, Sem.run_bind, run_getLoop k1, Result.andThen_ok, run_setObj_loop k1, this, Sem.run_pure]
                      refine ⟨_, hb1, ?_⟩
                      obtain ⟨hev2, hH2⟩ := hR1.heap.write (o := .loop { r2 with state := .busy }) (w' := laid w1 b (.loop { l1 with state := .busy })) hid1 (by rw [hr2]; rfl) rfl rfl rfl (by simp [laid]) (fun c hc => laid_ne hc)
                        ⟨{ l1 with state := .busy }, laid_same (lt_of_some k1), rfl, k3, k4, k5, k6, fun t => (k7 t).touch fun _ c hc hcc => ⟨hc, laid_ne fun e => by subst e; obtain ⟨c', t', fz, h1⟩ := hcc; rw [k1] at h1; simp at h1⟩, k8⟩
                      have hR2 : R (CC P) S base w.heap.size l.tmps.size φ1 (H2.set id (.loop { r2 with state := .busy })) env2 a1 (laid w1 b (.loop { l1 with state := .busy })) :=
                        ⟨hH2, fun t => hev2.vrel (hR1.env t), hR1.size, Nat.le_trans hR1.lole hev2.size, defs_evo hR1.heap hev2 hR1.defs⟩
                      refine exec_sound (ro := some b) hcl hG.mix l.body lr.body _ _ x env3 H3 φ1 _ _ _ (.inr g6') g6 hx2 hR2 fun φ3 a3 w3 hev3 hR3 => ?_
                      have hid3 := hev3.phi _ _ hid1
                      have ho3 := hR3.heap.obj _ _ _ hid3
                      rw [hr3] at ho3
                      obtain ⟨l3, q1, q2, q3, q4, q5, q6, q7, q8⟩ := ho3
                      have fin : ∀ (st : LState) (lst : LoopState) (pe : VExit) (j : Option Code) (bv : Bool), lst = stateOf st → j = jumpOf pe → (Instr.endRound b j).run P w3 = .ok (.bool bv) (laid w3 b (.loop { l3 with state := lst, pending := j })) →
                          (r, H') = (.pure (.bool bv), H3.set id (.loop { r3 with state := st, pending := pe })) →
                          ∃ v w', (Instr.endRound b j).run P w3 = .ok v w' ∧ ∃ u φ', Ending.returned v = .returned u ∧ Evo φ H w φ' H' w' ∧ HRel (CC P) S base φ' H' w' ∧ VRel (Imm S base φ' H' w') φ' w' r u := by
                        intro st lst pe j bv e1 e2 hrun e3
                        simp at e3
                        obtain ⟨rfl, rfl⟩ := e3
                        obtain ⟨hev4, hH4⟩ := hR3.heap.write (o := .loop { r3 with state := st, pending := pe }) (w' := laid w3 b (.loop { l3 with state := lst, pending := j })) hid3 (by rw [hr3]; rfl) rfl rfl rfl (by simp [laid]) (fun c hc => laid_ne hc)
                          ⟨{ l3 with state := lst, pending := j }, laid_same (lt_of_some q1), e1, e2, q4, q5, q6, fun t => (q7 t).touch fun _ c hc hcc => ⟨hc, laid_ne fun e => by subst e; obtain ⟨c', t', fz, h1⟩ := hcc; rw [q1] at h1; simp at h1⟩, q8⟩
                        exact ⟨_, _, hrun, _, φ3, rfl, hev1.trans (hev2.trans (hev3.trans hev4)), hH4, .pure _ _ (.bool _)⟩
                      have hend : ∀ j : Option Code, (Instr.endRound b j).run P w3 = .ok (.bool j.isNone) (laid w3 b (.loop { l3 with state := if j.isNone then .ready else .done, pending := j })) := fun j => by
                        simp only [Instr.endRound, Sem.run_bind, run_getLoop q1, Result.andThen_ok, run_setObj_loop q1, Sem.run_pure]
                      cases x with
                      | normal =>
                        simp at h
                        exact fin .ready .ready .normal none true rfl rfl (hend none) (by simp [h])
                      | exit i =>
                        simp at h
                        exact fin .done .done (.exit i) (some (.exit i)) false rfl rfl (hend _) (by simp [h])
                      | ret =>
                        simp at h
                        exact fin .done .done .ret (some .ret) false rfl rfl (hend _) (by simp [h])
                  · simp at h
                · simp at h
              · simp at h
            · simp at h
          · simp at h
        · simp at h
      · simp at h

/-- A call on data, as the model runs it. -/
theorem callP_sound {G : Prog} (hG : GOk P G) {n f : Nat} {ps : List PV} {r : PV} (h : callP G n f ps = some r) : PureOk P f ps r := by
  unfold callP at h
  split at h
  · rename_i g hg
    exact hG.ext _ _ _ _ hg h
  · split at h
    · rename_i v H1 hc
      rw [Option.map_eq_some_iff] at h
      obtain ⟨⟨p, ids⟩, hf, rfl⟩ := h
      exact pure_of_run (call_sound hG n (.fn f) _ _ _ _ hc) hf
    · simp at h
end
end Go.Proofs.YtjjkgamklbgnlaaGreat.Vm
