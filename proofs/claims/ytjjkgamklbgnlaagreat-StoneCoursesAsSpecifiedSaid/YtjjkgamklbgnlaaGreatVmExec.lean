/- The machine's code stands for the model's code. -/
import Derived.Test.YtjjkgamklbgnlaaGreatVmDraw
namespace Go.Proofs.YtjjkgamklbgnlaaGreat.Vm
open Go Go.RowKit
set_option linter.unusedVariables false
set_option linter.unusedSimpArgs false

/-- Which code is which: by compiling. -/
def CC (P : Program) : Comp := fun nt c v => ∃ Z, compileCode P Z nt c = some v ∧ v.noRange = true

section rules
variable {F : Fence} {n : Nat} {P : Program} {Q : Exit → Act → World → Prop} {a : Act} {w : World}

theorem stepR_scope {b : Frame} {k : List Item} {cs : List Frame} {c : Code} : Go.step P (lone (b.atR a (.code (.scope c) :: k)) cs w) = .next (lone (b.atR a (.code c :: .inScope c :: k)) cs w) :=
  step_lone_go (by simp [stepG, stepG.exec, Frame.atR])
theorem stepR_inScope {b : Frame} {k : List Item} {cs : List Frame} {c : Code} : Go.step P (lone (b.atR a (.inScope c :: k)) cs w) = .next (lone (b.atR a k) cs w) :=
  step_lone_go (by simp [stepG, stepG.exec, Frame.atR])

theorem wpIn_scope {c : Code} (h : c.wpIn F n P (fun e a w => Q e a w ∧ ∀ l, e ≠ .goto l) a w) : (Code.scope c).wpIn F n P Q a w := by
  intro b k cs hro hb hr
  have h0 : (lone (b.atR a (.code (.scope c) :: k)) cs w).fenced P F := fenced_calm hb hr rfl
  obtain ⟨e, a₁, w₁, ⟨hq, hng⟩, harr⟩ := h b (.inScope c :: k) cs hro hb hr
  cases e with
  | normal => exact ⟨.normal, a₁, w₁, hq, .head h0 stepR_scope (StepsIn.trans harr (.one (fenced_calm hb hr rfl) stepR_inScope))⟩
  | exit id =>
    have hx : exitTo id (.inScope c :: k) = exitTo id k := by simp [exitTo]
    exact ⟨.exit id, a₁, w₁, hq, fun k' hk => .head h0 stepR_scope (harr.1 k' (by rw [hx]; exact hk)),
      fun hr' hk => let ⟨k₁, h1, h2⟩ := harr.2 hr' (by rw [hx]; exact hk); ⟨k₁, h1, .head h0 stepR_scope h2⟩⟩
  | goto l => exact absurd rfl (hng l)
  | ret => exact ⟨_, a₁, w₁, hq, .of_steps (.one h0 stepR_scope) harr⟩
  | panic ch => exact ⟨_, a₁, w₁, hq, .of_steps (.one h0 stepR_scope) harr⟩
  | outgrown => exact ⟨_, a₁, w₁, hq, .of_steps (.one h0 stepR_scope) harr⟩

theorem wpIn_loop_n {c : Code} (I : Nat → Act → World → Prop) (m : Nat) (h₀ : I m a w)
    (round : ∀ m a w, I m a w → ∃ k, m = k + 1 ∧ c.wpIn F n P (Exit.then (fun a' w' => I k a' w') Q) a w) : (Code.loop c).wpIn F n P Q a w := by
  intro b k cs hro hb hr
  have key : ∀ j a w, I j a w →
      ∃ e a' w', Q e a' w' ∧ ArrivesIn (Machine.fenced P F) P (lone (b.atR a (.code c :: .inLoop c :: k)) cs w) b k cs e a' w' := by
    intro j
    induction j with
    | zero => intro a w hI; obtain ⟨k, h, _⟩ := round 0 a w hI; omega
    | succ j ih =>
      intro a w hI
      obtain ⟨k', hk', hround⟩ := round _ a w hI
      have hk'' : k' = j := by omega
      subst hk''
      obtain ⟨e, a₁, w₁, hq, harr⟩ := hround b (.inLoop c :: k) cs hro hb hr
      cases e with
      | normal =>
        obtain ⟨e₂, a₂, w₂, hq₂, harr₂⟩ := ih a₁ w₁ hq
        exact ⟨e₂, a₂, w₂, hq₂, .of_steps (StepsIn.trans harr (.one (fenced_calm hb hr rfl) stepR_inLoop)) harr₂⟩
      | exit id => exact ⟨_, a₁, w₁, hq, .pass (x := .inLoop c) rfl (fun _ _ => .inl (by simp)) harr⟩
      | goto l => exact ⟨_, a₁, w₁, hq, .pass (x := .inLoop c) rfl (fun _ _ => .inl (by simp)) harr⟩
      | ret => exact ⟨_, a₁, w₁, hq, .pass (x := .inLoop c) rfl (fun _ _ => .inl (by simp)) harr⟩
      | panic ch => exact ⟨_, a₁, w₁, hq, .pass (x := .inLoop c) rfl (fun _ _ => .inl (by simp)) harr⟩
      | outgrown => exact ⟨_, a₁, w₁, hq, .pass (x := .inLoop c) rfl (fun _ _ => .inl (by simp)) harr⟩
  obtain ⟨e, a', w', hq, harr⟩ := key _ a w h₀
  exact ⟨e, a', w', hq, .of_steps (.one (fenced_calm hb hr rfl) stepR_loop) harr⟩
end rules

/-! ### The block of a loop -/
theorem run_getObj_loop {P : Program} {w : World} {b : Nat} {l : Loop} (h : w.heap[b]? = some (.loop l)) : (getObj b).run P w = .ok (.loop l) w := by simp [getObj, Sem.run, h]
theorem run_getLoop {P : Program} {w : World} {b : Nat} {l : Loop} (h : w.heap[b]? = some (.loop l)) : (Instr.getLoop b).run P w = .ok l w := by
  simp only [Instr.getLoop, Sem.run_bind, run_getObj_loop h, Result.andThen_ok, Sem.run_pure]
def laid (w : World) (b : Nat) (o : Obj) : World := { w with heap := w.heap.setIfInBounds b o }
theorem run_setObj_loop {P : Program} {w : World} {b : Nat} {l : Loop} (h : w.heap[b]? = some (.loop l)) (o : Obj) : (setObj b o).run P w = .ok () (laid w b o) := by simp [setObj, Sem.run, h, laid]
theorem laid_ne {w : World} {b c : Nat} {o : Obj} (h : c ≠ b) : (laid w b o).heap[c]? = w.heap[c]? := by
  simp only [laid, Array.getElem?_setIfInBounds]
  rw [if_neg (fun e => h e.symm)]
theorem laid_same {w : World} {b : Nat} {o : Obj} (h : b < w.heap.size) : (laid w b o).heap[b]? = some o := by
  simp [laid, h]
theorem lt_of_some {w : World} {b : Nat} {o : Obj} (h : w.heap[b]? = some o) : b < w.heap.size := by
  rcases Nat.lt_or_ge b w.heap.size with hb | hb
  · exact hb
  · rw [Array.getElem?_eq_none hb] at h; simp at h

theorem alloc_sz (w : World) (o : Obj) : (w.alloc o).heap.size = w.heap.size + 1 := Array.size_push _
theorem alloc_at (w : World) (o : Obj) : (w.alloc o).heap[w.heap.size]? = some o := Array.getElem?_push_size
theorem run_newO {P : Program} {w : World} (o : Obj) : (newObj o).run P w = .ok w.heap.size (w.alloc o) := rfl
theorem run_enterLoop {P : Program} {w : World} (fn : FuncId) (tmps : Array Value) (ps : Array Tmp) (assign body : Code) :
    (Instr.enterLoop fn tmps ps assign body none).run P w = .ok (w.heap.size + 1, [markOf w.heap.size]) ((w.alloc (.deferred (some []))).alloc (.loop { state := .ready, pending := none, fn := fn, tmps := tmps, params := ps, assign := assign, body := body, defers := w.heap.size })) := by
  simp only [Instr.enterLoop, Sem.run_bind, Result.andThen_ok, Sem.run_pure, run_newO, alloc_sz]

theorem exitOf_ne_goto (x : VExit) (l : Nat) : exitOf x ≠ .goto l := by cases x <;> simp [exitOf]

section
variable {P : Program} {Z : List Nat} {S : Bool → Nat → Prop} {base lo nt : Nat} {n : Nat}

theorem iter_succ (f : Env → Heap → Out) (m : Nat) (env : Env) (H : Heap) : iter f (m + 1) env H = match f env H with
    | some (.normal, env', H') => iter f m env' H'
    | r => r := rfl

theorem exec_sound {cl : Callee} (hcl : CalleeOk (CC P) P cl) (hmix : P.follows .mixedOrders = true) {ro : Option Nat} : ∀ (c : Code) (vc : VCode) (env : Env) (H : Heap) (x : VExit) (env' : Env) (H' : Heap) (φ : Phi) (a : Act) (w : World) (Q : Exit → Act → World → Prop),
    (ro = none ∨ vc.noRange = true) → compileCode P Z nt c = some vc → exec cl vc env H = some (x, env', H') → R (CC P) S base lo nt φ H env a w →
    (∀ φ' a' w', Evo φ H w φ' H' w' → R (CC P) S base lo nt φ' H' env' a' w' → Q (exitOf x) a' w') → c.wpIn (Fw ro) n P Q a w := by
  intro c
  induction c with
  | skip =>
    intro vc env H x env' H' φ a w Q hro hc hx hR hQ
    simp [compileCode] at hc; subst hc
    simp [exec] at hx; obtain ⟨rfl, rfl, rfl⟩ := hx
    exact wpIn_skip (hQ φ a w Evo.refl hR)
  | label l =>
    intro vc env H x env' H' φ a w Q hro hc hx hR hQ
    simp [compileCode] at hc; subst hc
    simp [exec] at hx; obtain ⟨rfl, rfl, rfl⟩ := hx
    exact wpIn_label (hQ φ a w Evo.refl hR)
  | region id ops draw =>
    intro vc env H x env' H' φ a w Q hro hc hx hR hQ
    simp only [compileCode] at hc
    split at hc
    · simp at hc
    · rename_i vs hvs
      split at hc
      · split at hc
        · rename_i hd hok
          simp at hc; subst hc
          subst hd
          simp only [exec, Option.getD_some] at hx
          split at hx
          · rename_i e1 H1 hr
            simp at hx; obtain ⟨rfl, rfl, rfl⟩ := hx
            exact wp_draw hcl hmix hok (Nat.sub_le _ _) hvs hr hR hQ
          · simp at hx
        · simp at hc
      · rename_i hd
        simp at hc; subst hc
        have hd' : draw = false := by simpa using hd
        subst hd'
        simp only [exec, Option.getD_none] at hx
        split at hx
        · rename_i e1 H1 hr
          simp at hx; obtain ⟨rfl, rfl, rfl⟩ := hx
          refine wpIn_region ?_
          rw [List.range_eq_range']
          exact runOps_seq hcl ops.toList vs 0 env H φ a w _ _ (fun j => by simp) hvs hr hR hQ
        · simp at hx
  | seq c1 c2 ih1 ih2 =>
    intro vc env H x env' H' φ a w Q hro hc hx hR hQ
    simp only [compileCode] at hc
    split at hc
    · rename_i v1 v2 h1 h2
      simp at hc; subst hc
      have hro1 : ro = none ∨ v1.noRange = true := hro.imp id fun h => by simp [VCode.noRange] at h; exact h.1
      have hro2 : ro = none ∨ v2.noRange = true := hro.imp id fun h => by simp [VCode.noRange] at h; exact h.2
      refine wpIn_seq ?_
      simp only [exec] at hx
      cases hx1 : exec cl v1 env H with
      | none => rw [hx1] at hx; simp at hx
      | some r =>
        obtain ⟨x1, env1, H1⟩ := r
        rw [hx1] at hx
        refine ih1 v1 env H x1 env1 H1 φ a w _ hro1 h1 hx1 hR fun φ1 a1 w1 he1 hR1 => ?_
        cases x1 with
        | normal =>
          simp only at hx
          exact ih2 v2 env1 H1 x env' H' φ1 a1 w1 Q hro2 h2 hx hR1 fun φ2 a2 w2 he2 hR2 => hQ φ2 a2 w2 (he1.trans he2) hR2
        | exit i =>
          simp at hx; obtain ⟨rfl, rfl, rfl⟩ := hx
          exact hQ φ1 a1 w1 he1 hR1
        | ret =>
          simp at hx; obtain ⟨rfl, rfl, rfl⟩ := hx
          exact hQ φ1 a1 w1 he1 hR1
    · simp at hc
  | cond cnd c1 c2 ih1 ih2 =>
    intro vc env H x env' H' φ a w Q hro hc hx hR hQ
    simp only [compileCode] at hc
    split at hc
    · rename_i z v1 v2 hz h1 h2
      simp at hc; subst hc
      have hro1 : ro = none ∨ v1.noRange = true := hro.imp id fun h => by simp [VCode.noRange] at h; exact h.1
      have hro2 : ro = none ∨ v2.noRange = true := hro.imp id fun h => by simp [VCode.noRange] at h; exact h.2
      simp only [exec] at hx
      split at hx
      · rename_i t ht
        have hv := opnd_rel hR.env hz
        rw [ht] at hv
        refine wpIn_cond hv.bool_inv ?_
        cases t with
        | true => simp only [if_true] at hx ⊢; exact ih1 v1 env H x env' H' φ a w Q hro1 h1 hx hR hQ
        | false => simp only [Bool.false_eq_true, if_false] at hx ⊢; exact ih2 v2 env H x env' H' φ a w Q hro2 h2 hx hR hQ
      · simp at hx
    · simp at hc
  | block id c ih =>
    intro vc env H x env' H' φ a w Q hro hc hx hR hQ
    simp only [compileCode, Option.map_eq_some_iff] at hc
    obtain ⟨v, hv, rfl⟩ := hc
    refine wpIn_block ?_
    simp only [exec] at hx
    cases hx1 : exec cl v env H with
    | none => rw [hx1] at hx; simp at hx
    | some r =>
      obtain ⟨x1, env1, H1⟩ := r
      rw [hx1] at hx
      refine ih v env H x1 env1 H1 φ a w _ hro hv hx1 hR fun φ1 a1 w1 he1 hR1 => ?_
      cases x1 with
      | normal =>
        simp at hx; obtain ⟨rfl, rfl, rfl⟩ := hx
        exact hQ φ1 a1 w1 he1 hR1
      | exit i =>
        simp only at hx
        show Exit.inBlock id Q (.exit i) a1 w1
        by_cases hi : i = id
        · simp [hi] at hx; obtain ⟨rfl, rfl, rfl⟩ := hx
          simp only [Exit.inBlock, hi, if_true]
          exact hQ φ1 a1 w1 he1 hR1
        · simp [hi] at hx; obtain ⟨rfl, rfl, rfl⟩ := hx
          simp only [Exit.inBlock, hi, if_false]
          exact hQ φ1 a1 w1 he1 hR1
      | ret =>
        simp at hx; obtain ⟨rfl, rfl, rfl⟩ := hx
        exact hQ φ1 a1 w1 he1 hR1
  | loop c ih =>
    intro vc env H x env' H' φ a w Q hro hc hx hR hQ
    simp only [compileCode, Option.map_eq_some_iff] at hc
    obtain ⟨v, hv, rfl⟩ := hc
    simp only [exec] at hx
    refine wpIn_loop_n (I := fun m a1 w1 => ∃ φ1 env1 H1, Evo φ H w φ1 H1 w1 ∧ R (CC P) S base lo nt φ1 H1 env1 a1 w1 ∧ iter (exec cl v) m env1 H1 = some (x, env', H')) loopFuel ⟨φ, env, H, Evo.refl, hR, hx⟩ ?_
    rintro m a1 w1 ⟨φ1, env1, H1, he1, hR1, hi⟩
    cases m with
    | zero => simp [iter] at hi
    | succ m =>
      refine ⟨m, rfl, ?_⟩
      rw [iter_succ] at hi
      cases hx1 : exec cl v env1 H1 with
      | none => rw [hx1] at hi; simp at hi
      | some r =>
        obtain ⟨x2, env2, H2⟩ := r
        rw [hx1] at hi
        refine ih v env1 H1 x2 env2 H2 φ1 a1 w1 _ hro hv hx1 hR1 fun φ2 a2 w2 he2 hR2 => ?_
        cases x2 with
        | normal => exact ⟨φ2, env2, H2, he1.trans he2, hR2, hi⟩
        | exit i =>
          simp at hi; obtain ⟨rfl, rfl, rfl⟩ := hi
          exact hQ φ2 a2 w2 (he1.trans he2) hR2
        | ret =>
          simp at hi; obtain ⟨rfl, rfl, rfl⟩ := hi
          exact hQ φ2 a2 w2 (he1.trans he2) hR2
  | exit id =>
    intro vc env H x env' H' φ a w Q hro hc hx hR hQ
    simp [compileCode] at hc; subst hc
    simp [exec] at hx; obtain ⟨rfl, rfl, rfl⟩ := hx
    exact wpIn_exit (hQ φ a w Evo.refl hR)
  | ret =>
    intro vc env H x env' H' φ a w Q hro hc hx hR hQ
    simp [compileCode] at hc; subst hc
    simp [exec] at hx; obtain ⟨rfl, rfl, rfl⟩ := hx
    exact wpIn_ret (hQ φ a w Evo.refl hR)
  | scope c ih =>
    intro vc env H x env' H' φ a w Q hro hc hx hR hQ
    simp only [compileCode] at hc
    exact wpIn_scope (ih vc env H x env' H' φ a w _ hro hc hx hR fun φ' a' w' he hR' => ⟨hQ φ' a' w' he hR', exitOf_ne_goto x⟩)
  | goto l =>
    intro vc env H x env' H' φ a w Q hro hc
    simp [compileCode] at hc
  | refuse u =>
    intro vc env H x env' H' φ a w Q hro hc
    simp [compileCode] at hc
  | rangeFunc g ps assign body ih1 ih2 =>
    intro vc env H x env' H' φ a w Q hro hc hx hR hQ
    clear ih1 ih2
    simp only [compileCode] at hc
    split at hc
    · rename_i z v1 v2 hz h1 h2
      split at hc
      · rename_i hcond
        simp at hc; subst hc
        simp only [Bool.and_eq_true, List.all_eq_true, decide_eq_true_eq] at hcond
        obtain ⟨⟨hps, hn1⟩, hn2⟩ := hcond
        have hro' : ro = none := by
          rcases hro with h | h
          · exact h
          · simp [VCode.noRange] at h
        subst hro'
        refine wpIn_rangeFunc fun fn _ => ?_
        -- the record is laid
        let lp : Loop := { state := .ready, pending := none, fn := fn, tmps := a.tmps, params := ps, assign := assign, body := body, defers := w.heap.size }
        let w1 : World := (w.alloc (.deferred (some []))).alloc (.loop lp)
        have hb1 : Below w.heap.size w w1 := ((Below.refl _ w).alloc (Nat.le_refl _) _).alloc (by rw [alloc_sz]; omega) _
        have hl1 : w1.heap[w.heap.size + 1]? = some (.loop lp) := by have := alloc_at (w.alloc (.deferred (some []))) (.loop lp); rwa [alloc_sz] at this
        have hd1 : w1.heap[w.heap.size]? = some (.deferred (some [])) := (Below.heap_alloc _ _ _ (by rw [alloc_sz]; omega)).trans (alloc_at w _)
        have hsz1 : w1.heap.size = w.heap.size + 2 := by show ((w.alloc (.deferred (some []))).alloc (.loop lp)).heap.size = _; rw [alloc_sz, alloc_sz]
        have hnew := hR.heap.new (H' := H.alloc (.loop { env := env, params := ps.toList, assign := v1, body := v2, state := .ready, pending := .normal })) (id := H.nx) (b := w.heap.size + 1) (n := 0) hb1 (phi_fresh hR.heap) get_alloc_new (fun i hi _ => get_alloc_ne hi)
          (Nat.lt_succ_self _) (Nat.le_succ _) (Nat.le_succ _) (by rw [hsz1]; omega)
          ⟨lp, hl1, rfl, rfl, rfl, ⟨Z, by show compileCode P Z a.tmps.size assign = _; rw [hR.size]; exact h1, hn1⟩, ⟨Z, by show compileCode P Z a.tmps.size body = _; rw [hR.size]; exact h2, hn2⟩,
            fun t => (hR.env t).mono (fun _ b hb => ⟨hb, hb1.block b hb.2.1⟩) (fun _ _ h => h), fun t ht => by show t < a.tmps.size; rw [hR.size]; exact hps t ht⟩
        obtain ⟨hev1, hH1⟩ := hnew
        generalize hHe : H.alloc (.loop { env := env, params := ps.toList, assign := v1, body := v2, state := .ready, pending := .normal }) = H1 at hev1 hH1
        generalize hφe : phiSet φ H.nx (w.heap.size + 1, 0) = φ1 at hev1 hH1
        have hφ1 : φ1 H.nx = some (w.heap.size + 1, 0) := by rw [← hφe, phiSet_same]
        have hyield : VRel (Imm S base φ1 H1 w1) φ1 w1 (.yield H.nx) (.func (.yield (w.heap.size + 1)) #[] #[]) := .yield _ _ _ hφ1
        have henter : (Instr.enterLoop fn a.tmps ps assign body (Fw none).round).run P w = .ok (w.heap.size + 1, [markOf w.heap.size]) w1 := by
          show (Instr.enterLoop fn a.tmps ps assign body none).run P w = _
          exact run_enterLoop fn a.tmps ps assign body
        have hvz := hev1.vrel (opnd_rel hR.env hz)
        -- after the call
        have after : ∀ (v : AV) (H2 : Heap) (r : LoopR), H2.get H.nx = .loop r → (match r.state with | .busy => none | _ => some (r.pending, env, H2.set H.nx .dead) : Out) = some (x, env', H') →
            ∀ (φ2 : Phi) (w3 : World), Evo φ1 H1 w1 φ2 H2 w3 → HRel (CC P) S base φ2 H2 w3 →
            ∃ jump w₄, (Instr.endLoop (w.heap.size + 1)).run P w3 = .ok jump w₄ ∧
              (match jump with
               | none => Q .normal { a with defers := [markOf w.heap.size] ++ a.defers } w₄
               | some c => c.wpIn (Fw none) n P Q { a with defers := [markOf w.heap.size] ++ a.defers } w₄) := by
          intro v H2 r hr hres φ2 w3 hev2 hH2
          have hid2 := hev2.phi _ _ hφ1
          have ho := hH2.obj _ _ _ hid2
          rw [hr] at ho
          obtain ⟨l2, g1, g2, g3, g4, g5, g6, g7, g8⟩ := ho
          have hnb : r.state ≠ .busy := fun e => by rw [e] at hres; simp at hres
          have hres' : r.pending = x ∧ env = env' ∧ H2.set H.nx .dead = H' := by
            cases hs : r.state <;> rw [hs] at hres <;> simp at hres <;> first | exact hres | exact absurd hs hnb
          obtain ⟨rfl, rfl, rfl⟩ := hres'
          have hnb2 : (l2.state == LoopState.busy) = false := by
            rw [g2]
            cases hs : r.state <;> first | rfl | exact absurd hs hnb
          have hend : (Instr.endLoop (w.heap.size + 1)).run P w3 = .ok l2.pending (laid w3 (w.heap.size + 1) (.loop { l2 with state := .exhausted })) := by
            simp only [Instr.endLoop, Sem.run_bind, run_getLoop g1, Result.andThen_ok, hnb2, Bool.false_eq_true, if_false, Sem.run_pure, run_setObj_loop g1]
          obtain ⟨hev3, hH3⟩ := hH2.write (o := .dead) (w' := laid w3 (w.heap.size + 1) (.loop { l2 with state := .exhausted })) hid2 (by rw [hr]; rfl) rfl rfl rfl (by simp [laid]) (fun c hc => laid_ne hc) trivial
          have hevR := hev1.trans (hev2.trans hev3)
          have hR' : R (CC P) S base lo nt φ2 (H2.set H.nx .dead) env { a with defers := [markOf w.heap.size] ++ a.defers } (laid w3 (w.heap.size + 1) (.loop { l2 with state := .exhausted })) := by
            refine ⟨hH3, fun t => hevR.vrel (hR.env t), hR.size, Nat.le_trans hR.lole hevR.size, ?_⟩
            obtain ⟨marks, m1, m2, m3⟩ := hR.defs
            refine defs_evo hH1 (hev2.trans hev3) ⟨w.heap.size :: marks, by simp [m1], List.nodup_cons.2 ⟨fun hm => ?_, m2⟩, fun r hr => ?_⟩
            · have := lt_of_some (m3 _ hm).2; omega
            · rcases List.mem_cons.1 hr with rfl | hr
              · exact ⟨hR.lole, hd1⟩
              · have := m3 r hr
                exact ⟨this.1, (hb1.block r (lt_of_some this.2)).trans this.2⟩
          refine ⟨_, _, hend, ?_⟩
          have hq := hQ φ2 _ _ hevR hR'
          generalize laid w3 (w.heap.size + 1) (.loop { l2 with state := .exhausted }) = w4 at hq ⊢
          rw [g3]
          cases hp : r.pending with
          | normal => rw [hp] at hq; exact hq
          | exit i => rw [hp] at hq; exact wpIn_exit hq
          | ret => rw [hp] at hq; exact wpIn_ret hq
        have fin : ∀ (f : Nat) (caps : List AV) (vcaps : Array Value), a.eval g = .func (.func f) #[] vcaps → VRels (Imm S base φ1 H1 w1) φ1 w1 caps vcaps.toList →
            (match cl.run f (.yield H.nx :: caps) H1 with
              | some (_, H2) => match H2.get H.nx with
                | .loop r => match r.state with
                  | .busy => none
                  | _ => some (r.pending, env, H2.set H.nx .dead)
                | _ => none
              | none => none : Out) = some (x, env', H') →
            ∃ (l : Nat) (mark : List Deferred) (w₁ : World) (d : Deferred) (w₁' : World) (f : FuncId) (args : Array Value) (w₂ : World),
              (Instr.enterLoop fn a.tmps ps assign body (Fw none).round).run P w = .ok (l, mark) w₁ ∧
              (resolve a.eval (rangeCall g l) 0).run P w₁ = .ok d w₁' ∧
              (∀ f', Target.leads P w₁' d.target d.args = some f' → (Fw none).fn f') ∧
              (invoke d.target d.args).run P w₁' = .ok (.enter f args) w₂ ∧
              ((Fw none).depth.isSome = true → 1 ≤ n) ∧
              CallsIn (Fw none) (n - 1) P f args w₂ (rangePost (Fw none) n P l Q { a with defers := mark ++ a.defers }) := by
          intro f caps vcaps hg hcaps hm
          cases hrun : cl.run f (.yield H.nx :: caps) H1 with
          | none => rw [hrun] at hm; simp at hm
          | some res =>
            obtain ⟨v, H2⟩ := res
            rw [hrun] at hm
            simp only at hm
            obtain ⟨hf, hrunOk⟩ := hcl.run _ _ _ _ _ hrun
            have hvals : (Value.func (.yield (w.heap.size + 1)) #[] #[] :: vcaps.toList).toArray = #[Value.func (.yield (w.heap.size + 1)) #[] #[]] ++ vcaps := by
              apply Array.ext'; simp
            refine ⟨w.heap.size + 1, [markOf w.heap.size], w1, { target := .fn (.func f) vcaps, args := #[.func (.yield (w.heap.size + 1)) #[] #[]] }, w1, f, #[Value.func (.yield (w.heap.size + 1)) #[] #[]] ++ vcaps, w1, henter, ?_, fun _ _ => trivial, ?_, fun h => by simp [Fw, Fence.wide] at h, ?_⟩
            · simp only [resolve, rangeCall, hg, Deferred.ofValue, Sem.run_pure]
              simp [Act.eval]
            · simp only [invoke]
              rw [callFunc_run hf]
            · rw [← hvals]
              refine CallsIn.mono (hrunOk (n - 1) S base φ1 w1 _ hH1 (.cons hyield hcaps)) ?_
              rintro e w3 ⟨u, φ2, rfl, hev2, hH2, _⟩
              cases hr : H2.get H.nx with
              | loop r =>
                rw [hr] at hm
                exact after v H2 r hr hm φ2 w3 hev2 hH2
              | dead => rw [hr] at hm; simp at hm
              | cells o cs => rw [hr] at hm; simp at hm
        simp only [exec] at hx
        rw [hHe] at hx
        split at hx
        · rename_i f caps hf
          rw [hf] at hvz
          obtain ⟨vs, e1, e2, e3⟩ := hvz.pure_inv.func_inv
          exact fin f _ vs e1 (VRels.pures (by simpa using e2) fun i p v hp hv => e3 i p v hp (by simpa using hv)) hx
        · rename_i f caps hf
          rw [hf] at hvz
          obtain ⟨vs, e1, e2, e3⟩ := hvz.func_inv
          exact fin f _ vs e1 (VRels.of_agg e2 e3) hx
        · simp at hx
      · simp at hc
    · simp at hc
end
end Go.Proofs.YtjjkgamklbgnlaaGreat.Vm
