/- Every operation in one theorem. -/
import Derived.Test.YtjjkgamklbgnlaaGreatVmCall
namespace Go.Proofs.YtjjkgamklbgnlaaGreat.Vm
open Go Go.RowKit
set_option linter.unusedVariables false
set_option linter.unusedSimpArgs false

section
variable {C : Comp} {P : Program} {Z : List Nat} {S : Bool → Nat → Prop} {base : Nat} {φ : Phi} {H : Heap} {w : World} {env : Env} {a : Act} {e : Eff} {o : Oper} {I : Bool → Nat → Prop}
variable {ro : Option Nat} {n : Nat} {K : Act → World → Prop} {Q : Exit → Act → World → Prop}

theorem isAggV_cases {x : AV} (h : isAggV x = true) : (∃ cs, x = .agg cs) ∨ ∃ ps, x = .pure (.agg ps) := by
  unfold isAggV at h
  split at h
  · exact .inl ⟨_, rfl⟩
  · exact .inr ⟨_, rfl⟩
  · simp at h

theorem phi_fresh (hH : HRel C S base φ H w) : φ H.nx = none := by
  cases h : φ H.nx with
  | none => rfl
  | some x => exact absurd (hH.nx _ _ h) (Nat.lt_irrefl _)

theorem aggOne {g : Bool} {s : Nat} (h : ¬ (g = false ∧ s ≠ 1)) : g = false → s = 1 := fun hg => by
  rcases Decidable.em (s = 1) with h1 | h1
  · exact h1
  · exact absurd ⟨hg, h1⟩ h

theorem ran_forget {av : AV} {r : Result Next} (h : Ran C S base φ H w (.val av) r) : Ran C S base φ H w (.val .undef) r := by
  rcases h with ⟨v, w', h1, h2, h3⟩ | ⟨w', h1, h2, h3⟩
  · exact .inl ⟨v, w', h1, h2, .undef _⟩
  · exact .inr ⟨w', h1, h2, .undef _⟩

/-- The operations that call nobody. -/
theorem op_ran {cl : Callee} {vo : VOp} (hH : HRel C S base φ H w) (hE : ERel (Imm S base φ H w) φ w env a) (hc : compileOp P Z o = some vo) (hs : step cl env H vo = some e) (hnc : ∀ f xs, vo ≠ .call f xs) :
    Ran C S base φ H w e ((execOp a.eval o).run P w) ∧ ∀ c, o.op ≠ .defer c := by
  unfold compileOp at hc
  split at hc
  · -- move
    rename_i X hop
    cases hx : opndP X with
    | none => simp [hx] at hc
    | some x =>
      simp [hx] at hc; subst hc
      simp [step] at hs; subst hs
      exact ⟨ran_mov hE hx (.inl hop), by simp [hop]⟩
  · rename_i X hop
    cases hx : opndP X with
    | none => simp [hx] at hc
    | some x =>
      simp [hx] at hc; subst hc
      simp [step] at hs; subst hs
      exact ⟨ran_mov hE hx (.inr hop), by simp [hop]⟩
  · -- pick
    rename_i C' A B hop
    split at hc
    · rename_i c x y h1 h2 h3
      simp at hc; subst hc
      simp only [step] at hs
      split at hs
      · rename_i t ht
        simp at hs; subst hs
        exact ⟨ran_pick hE h1 h2 h3 hop ht, by simp [hop]⟩
      · simp at hs
    · simp at hc
  · -- alloc
    rename_i t hop
    cases hz : zerosP P t with
    | none => simp [hz] at hc
    | some z =>
      simp [hz] at hc; subst hc
      simp [step] at hs; subst hs
      exact ⟨ran_alloc hz hop, by simp [hop]⟩
  · -- box
    rename_i t X hop
    cases hx : opndP X with
    | none => simp only [hx, Option.map_none] at hc; (repeat' split at hc) <;> simp at hc
    | some x =>
      have hbox : vo = .box x → Ran C S base φ H w e ((execOp a.eval o).run P w) ∧ ∀ c, o.op ≠ .defer c := by
        intro h; subst h
        simp [step] at hs; subst hs
        exact ⟨ran_box hE hx hop, by simp [hop]⟩
      simp only [hx, Option.map_some] at hc
      split at hc
      · split at hc
        · simp at hc; exact hbox hc.symm
        · simp at hc; subst hc
          simp only [step] at hs
          split at hs
          · rename_i ps hp
            simp at hs; subst hs
            exact ⟨ran_boxF hH hE hx hop hp, by simp [hop]⟩
          · simp at hs
      · simp at hc; exact hbox hc.symm
  · -- build
    rename_i t parts hop
    split at hc
    · rename_i z ps h1 h2
      split at hc
      · rename_i hok
        simp at hc; subst hc
        simp only [step] at hs
        split at hs
        · rename_i cs hf
          simp at hs; subst hs
          exact ⟨ran_build hE h1 h2 hok hop hf, by simp [hop]⟩
        · simp at hs
      · simp at hc
    · simp at hc
  · -- buildSlice
    rename_i t len parts hop
    split at hc
    · rename_i e' ht
      split at hc
      · rename_i s z h1 h2
        split at hc
        · rename_i hcond
          cases hp : partsL (fun i => some (i * s, s)) parts.toList with
          | none => simp [hp] at hc
          | some ps =>
            simp [hp] at hc; subst hc
            simp only [step] at hs
            split at hs
            · rename_i cs hf
              simp only [Option.some.injEq] at hs; subst hs
              exact ⟨ran_buildSlice hE ht h1 h2 hcond.1 hcond.2.1 hcond.2.2 hp hop hf, by simp [hop]⟩
            · simp at hs
        · simp at hc
      · simp at hc
    · simp at hc
  · -- load
    rename_i t X hop
    split at hc
    · rename_i g s x h1 h2 h3
      split at hc
      · simp at hc
      · rename_i hg
        simp at hc; subst hc
        simp only [step] at hs
        split at hs
        · rename_i cs hl
          cases ho : ofCells g cs with
          | none => simp [ho] at hs
          | some av =>
            simp [ho] at hs; subst hs
            exact ⟨ran_load hH hE h3 h1 h2 (aggOne hg) hop hl ho, by simp [hop]⟩
        · simp at hs
    · simp at hc
  · -- store
    rename_i t A X hop
    split at hc
    · rename_i s x y h1 h2 h3
      split at hc
      · simp at hc
      · rename_i h0
        simp at hc; subst hc
        simp only [step] at hs
        split at hs
        · rename_i id off hb
          split at hs
          · rename_i ds hg
            split at hs
            · rename_i hcond
              simp only [Option.some.injEq] at hs; subst hs
              exact ⟨ran_store hH hE h2 h3 h1 h0 hop hb hg hcond.1 hcond.2.2.1 hcond.2.2.2, by simp [hop]⟩
            · simp at hs
          · simp at hs
        · simp at hs
    · simp at hc
  · -- nilCheck
    rename_i X hop
    cases hx : opndP X with
    | none => simp [hx] at hc
    | some x =>
      simp [hx] at hc; subst hc
      simp only [step] at hs
      split at hs
      · rename_i h1
        simp at hs; subst hs
        exact ⟨ran_nilCheck hE hx hop (.inl h1), by simp [hop]⟩
      · rename_i h1 _
        simp at hs; subst hs
        exact ⟨ran_nilCheck hE hx hop (.inr h1), by simp [hop]⟩
      · simp at hs
  · -- binOp
    rename_i op t X Y t' hop
    split at hc
    · rename_i x y d h1 h2 h3
      have plain : ∀ k, kOf P t k → vo = .bin op k x y → Ran C S base φ H w e ((execOp a.eval o).run P w) ∧ ∀ c, o.op ≠ .defer c := by
        intro k hk hvo
        subst hvo
        simp only [step] at hs
        cases hv : vbin op k (x.eval env) (y.eval env) with
        | none => simp [hv] at hs
        | some av =>
          simp [hv] at hs; subst hs
          exact ⟨ran_bin hE h1 h2 hk hop hv, by simp [hop]⟩
      split at hc
      · rename_i fs
        split at hc
        · rename_i ls hls
          split at hc
          · rename_i s hsz
            have main : ∀ neg, vo = .aggEq neg s ls x y → ((op = .eql ∧ neg = false) ∨ (op = .neq ∧ neg = true)) → Ran C S base φ H w e ((execOp a.eval o).run P w) ∧ ∀ c, o.op ≠ .defer c := by
              intro neg hvo hneg
              subst hvo
              simp only [step] at hs
              split at hs
              · rename_i hcond
                split at hs
                · rename_i b hb
                  simp at hs; subst hs
                  have := ran_aggEq (C := C) (P := P) hE h1 h2 h3 hls hsz hop (hneg.imp And.left And.left) (isAggV_cases hcond.1) (isAggV_cases hcond.2.1) hcond.2.2.1 hcond.2.2.2 hb
                  have hn : (op == .neq) = neg := by rcases hneg with ⟨rfl, rfl⟩ | ⟨rfl, rfl⟩ <;> rfl
                  rw [hn] at this
                  exact ⟨this, by simp [hop]⟩
                · simp at hs
              · simp at hs
            split at hc
            · rename_i heq
              simp at hc
              exact main false hc.symm (.inl ⟨heq, rfl⟩)
            · split at hc
              · rename_i heq
                simp at hc
                exact main true hc.symm (.inr ⟨heq, rfl⟩)
              · simp at hc
          · simp at hc
        · simp at hc
      · rename_i k; simp at hc; exact plain .num (.inl ⟨k, h3⟩) hc.symm
      · simp at hc; exact plain .num (.inr h3) hc.symm
      · simp at hc; exact plain .bool h3 hc.symm
      · rename_i el; simp at hc; exact plain .slice ⟨el, h3⟩ hc.symm
      · rename_i el; simp at hc; exact plain .pointer ⟨el, h3⟩ hc.symm
      · rename_i f1 f2 f3; simp at hc; exact plain .func ⟨f1, f2, f3, h3⟩ hc.symm
      · simp at hc
    · simp at hc
  · -- unOp
    rename_i op t X hop
    cases hx : opndP X with
    | none => simp [hx] at hc
    | some x =>
      simp [hx] at hc; subst hc
      simp only [step] at hs
      cases hv : vun op (x.eval env) with
      | none => simp [hv] at hs
      | some av =>
        simp [hv] at hs; subst hs
        exact ⟨ran_un hE hx hop hv, by simp [hop]⟩
  · -- convert
    rename_i src dst X hop
    split at hc
    · rename_i k0 k x h1 h2 h3
      simp at hc; subst hc
      simp only [step] at hs
      split at hs
      · rename_i k2 m e2
        simp at hs; subst hs
        exact ⟨ran_toInt hE h3 h1 h2 hop e2, by simp [hop]⟩
      · simp at hs
    · rename_i x h1 h2 h3
      simp at hc; subst hc
      simp only [step] at hs
      split at hs
      · rename_i b e2
        simp at hs; subst hs
        exact ⟨ran_convSame hE h3 h1 h2 hop e2, by simp [hop]⟩
      · simp at hs
    · rename_i el x h1 h2 h3
      split at hc
      · rename_i h4 h5
        simp at hc; subst hc
        simp only [step] at hs
        split at hs
        · rename_i b e2
          simp only [Option.some.injEq] at hs; subst hs
          exact ⟨ran_toBytes hE h3 h1 h2 h4 h5 hop e2, by simp [hop]⟩
        · simp at hs
      · simp at hc
    · rename_i el x h1 h2 h3
      split at hc
      · rename_i h4
        simp at hc; subst hc
        simp only [step] at hs
        split at hs
        · rename_i cs m e2
          split at hs
          · rename_i bs e3
            simp only [Option.some.injEq] at hs; subst hs
            exact ⟨ran_toStr hH hE h3 h1 h2 h4 hop e2 e3, by simp [hop]⟩
          · simp at hs
        · simp at hs
      · simp at hc
    · simp at hc
  · -- makeFunc
    rename_i f first caps hop
    split at hc
    · rename_i h0
      cases hx : opndsL caps.toList with
      | none => simp [hx] at hc
      | some xs =>
        simp [hx] at hc; subst hc
        simp [step] at hs; subst hs
        exact ⟨ran_makeFunc hE h0 hx hop, by simp [hop]⟩
    · simp at hc
  · -- makeSlice
    rename_i t X Y hop
    split at hc
    · rename_i el ht
      split at hc
      · rename_i s b z x y h1 h2 h3 h4 h5
        split at hc
        · rename_i hcond
          simp at hc; subst hc
          simp only [step] at hs
          split at hs
          · rename_i k1 p k2 q e1 e2
            split at hs
            · rename_i hcc
              simp only [Option.some.injEq] at hs; subst hs
              obtain ⟨c1, rfl, c3, c4, c5⟩ := hcc
              exact ⟨ran_makeSlice hE h4 h5 ht h1 h2 h3 hcond.1 hcond.2 hop e1 e2 c1 c4 c5, by simp [hop]⟩
            · simp at hs
          · simp at hs
        · simp at hc
      · simp at hc
    · simp at hc
  · -- slice
    rename_i t X lo hi hop
    split at hc
    · rename_i el x lo' hi' ht h1 h2 h3
      cases hs' : sizeP P el with
      | none => simp [hs'] at hc
      | some sz =>
        simp [hs'] at hc; subst hc
        simp only [step] at hs
        split at hs
        · rename_i e1
          split at hs
          · rename_i h b1
            split at hs
            · rename_i l b2
              simp at hs; subst hs
              exact ⟨ran_slice_nil hE h1 ht hs' h2 h3 hop e1 b1 b2, by simp [hop]⟩
            · simp at hs
          · simp at hs
        · rename_i kk s es e1
          split at hs
          · rename_i hss
            subst hss
            split at hs
            · rename_i h b1
              split at hs
              · rename_i l b2
                simp at hs; subst hs
                exact ⟨ran_slice_pure hE h1 ht hs' h2 h3 hop e1 b1 b2, by simp [hop]⟩
              · simp at hs
            · simp at hs
          · simp at hs
        · rename_i id s off len e1
          split at hs
          · rename_i hss
            subst hss
            split at hs
            · rename_i N hN
              split at hs
              · rename_i h b1
                split at hs
                · rename_i l b2
                  simp only [Option.some.injEq] at hs; subst hs
                  exact ⟨ran_slice_row hH hE h1 ht hs' h2 h3 hop e1 hN b1 b2, by simp [hop]⟩
                · simp at hs
              · simp at hs
            · simp at hs
          · simp at hs
        · simp at hs
    · rename_i x lo' hi' ht h1 h2 h3
      simp at hc; subst hc
      simp only [step] at hs
      split at hs
      · rename_i s e1
        split at hs
        · rename_i h b1
          split at hs
          · rename_i l b2
            simp at hs; subst hs
            exact ⟨ran_substr hE h1 ht h2 h3 hop e1 b1 b2, by simp [hop]⟩
          · simp at hs
        · simp at hs
      · simp at hs
    · simp at hc
  · -- slice3
    rename_i t X lo Y Z hop
    split at hc
    · rename_i el x lo' y z ht h1 h2 h3 h4
      cases hs' : sizeP P el with
      | none => simp [hs'] at hc
      | some sz =>
        simp [hs'] at hc; subst hc
        simp only [step] at hs
        split at hs
        · rename_i len e1
          split at hs
          · rename_i m b0
            split at hs
            · rename_i h b1
              split at hs
              · rename_i l b2
                simp only [Option.some.injEq] at hs; subst hs
                exact ⟨ran_slice3 hE h1 h3 h4 ht hs' h2 hop e1 b0 b1 b2, by simp [hop]⟩
              · simp at hs
            · simp at hs
          · simp at hs
        · simp at hs
    · simp at hc
  · -- fieldAddr
    rename_i t X i hop
    split at hc
    · rename_i fs x ht h1
      split at hc
      · rename_i f hf
        split at hc
        · rename_i s hsz
          split at hc
          · simp at hc
          · rename_i h0
            simp at hc; subst hc
            simp only [step] at hs
            split at hs
            · rename_i kk cs q e1
              simp at hs; subst hs
              exact ⟨ran_fieldAddr hE h1 ht hf hsz h0 hop (.inl ⟨kk, cs, q, e1, rfl⟩), by simp [hop]⟩
            · rename_i id q e1
              simp at hs; subst hs
              exact ⟨ran_fieldAddr hE h1 ht hf hsz h0 hop (.inr ⟨id, q, e1, rfl⟩), by simp [hop]⟩
            · simp at hs
        · simp at hc
      · simp at hc
    · simp at hc
  · -- field
    rename_i t X i hop
    split at hc
    · rename_i fs x ht h1
      split at hc
      · rename_i f hf
        split at hc
        · rename_i s g hsz hg
          split at hc
          · simp at hc
          · rename_i h0
            simp at hc; subst hc
            simp only [step] at hs
            split at hs
            · rename_i hcond
              cases ho : ofCells g (((x.eval env).cells.drop f.offset).take s) with
              | none => simp [ho] at hs
              | some av =>
                simp [ho] at hs; subst hs
                exact ⟨ran_field hE h1 ht hf hsz hg (aggOne h0) hop (isAggV_cases hcond.1) hcond.2 ho, by simp [hop]⟩
            · simp at hs
        · simp at hc
      · simp at hc
    · simp at hc
  · -- indexAddr
    rename_i t X Y hop
    split at hc
    · rename_i len el x y ht h1 h2
      cases hsz : sizeP P el with
      | none => simp [hsz] at hc
      | some s =>
        simp [hsz] at hc; subst hc
        simp only [step] at hs
        split at hs
        · rename_i k m e1
          split at hs
          · rename_i h0
            split at hs
            · rename_i hlt
              split at hs
              · rename_i kk cs q e2
                simp at hs; subst hs
                exact ⟨ran_indexAddr_arr hE h1 h2 ht hsz hop e1 h0 hlt (.inl ⟨kk, cs, q, e2, rfl⟩), by simp [hop]⟩
              · rename_i id q e2
                simp at hs; subst hs
                exact ⟨ran_indexAddr_arr hE h1 h2 ht hsz hop e1 h0 hlt (.inr ⟨id, q, e2, rfl⟩), by simp [hop]⟩
              · simp at hs
            · simp at hs
          · simp at hs
        · simp at hs
    · rename_i el x y ht h1 h2
      cases hsz : sizeP P el with
      | none => simp [hsz] at hc
      | some s =>
        simp [hsz] at hc; subst hc
        simp only [step] at hs
        split at hs
        · rename_i k m e1
          split at hs
          · rename_i h0
            split at hs
            · rename_i kk s' es e2
              split at hs
              · rename_i hss
                subst hss
                split at hs
                · rename_i el' e3
                  simp at hs; subst hs
                  exact ⟨ran_indexAddr_sl hE h1 h2 ht hsz hop e1 h0 (.inl ⟨kk, es, el', e2, e3, rfl⟩), by simp [hop]⟩
                · simp at hs
              · simp at hs
            · rename_i id s' off len e2
              split at hs
              · rename_i hcond
                obtain ⟨hss, hlt⟩ := hcond
                subst hss
                simp at hs; subst hs
                exact ⟨ran_indexAddr_sl hE h1 h2 ht hsz hop e1 h0 (.inr ⟨id, off, len, e2, hlt, rfl⟩), by simp [hop]⟩
              · simp at hs
            · simp at hs
          · simp at hs
        · simp at hs
    · simp at hc
  · -- index
    rename_i t X Y hop
    split at hc
    · rename_i len el x y ht h1 h2
      split at hc
      · rename_i s g hsz hg
        split at hc
        · simp at hc
        · rename_i h0
          simp at hc; subst hc
          simp only [step] at hs
          split at hs
          · rename_i k m e1
            split at hs
            · rename_i hcond
              cases ho : ofCells g (((x.eval env).cells.drop (m.toNat * s)).take s) with
              | none => simp [ho] at hs
              | some av =>
                simp [ho] at hs; subst hs
                exact ⟨ran_index hE h1 h2 ht hsz hg (aggOne h0) hop (isAggV_cases hcond.1) e1 hcond.2.1 hcond.2.2.1 hcond.2.2.2 ho, by simp [hop]⟩
            · simp at hs
          · simp at hs
      · simp at hc
    · rename_i x y ht h1 h2
      simp at hc; subst hc
      simp only [step] at hs
      split at hs
      · rename_i s k m e1 e2
        split at hs
        · rename_i h0
          split at hs
          · rename_i b hb
            simp at hs; subst hs
            exact ⟨ran_byteAt hE h1 h2 ht hop e1 e2 h0 hb, by simp [hop]⟩
          · simp at hs
        · simp at hs
      · simp at hs
    · simp at hc
  · -- extract
    rename_i X i hop
    cases hx : opndP X with
    | none => simp only [hx, Option.map_none] at hc; (repeat' split at hc) <;> simp at hc
    | some x =>
      have hplain : vo = .extract i x → Ran C S base φ H w e ((execOp a.eval o).run P w) ∧ ∀ c, o.op ≠ .defer c := by
        intro h; subst h
        simp only [step] at hs
        split at hs
        · rename_i vs e1
          split at hs
          · rename_i v e2
            simp at hs; subst hs
            exact ⟨ran_extract hE hx hop (.inl ⟨vs, e1, v, e2, rfl⟩), by simp [hop]⟩
          · simp at hs
        · rename_i vs e1
          split at hs
          · rename_i v e2
            simp at hs; subst hs
            exact ⟨ran_extract hE hx hop (.inr ⟨vs, e1, e2⟩), by simp [hop]⟩
          · simp at hs
        · simp at hs
      simp only [hx, Option.map_some] at hc
      split at hc
      · split at hc
        · simp at hc; subst hc
          simp only [step] at hs
          split at hs
          · rename_i vs e1
            split at hs
            · rename_i v e2
              simp only [Option.some.injEq] at hs; subst hs
              exact ⟨ran_forget (ran_extract hE hx hop (.inl ⟨vs, e1, v, e2, rfl⟩)), by simp [hop]⟩
            · simp at hs
          · rename_i vs e1
            split at hs
            · rename_i v e2
              simp only [Option.some.injEq] at hs; subst hs
              exact ⟨ran_forget (ran_extract hE hx hop (.inr ⟨vs, e1, e2⟩)), by simp [hop]⟩
            · simp at hs
          · simp at hs
        · simp at hc; exact hplain hc.symm
      · simp at hc; exact hplain hc.symm
  · -- call
    rename_i c hop
    split at hc
    · split at hc
      · simp at hc
        exact absurd hc.symm (hnc _ _)
      · simp at hc
    · -- len
      rename_i hcal
      split at hc
      · rename_i X t ha hb
        split at hc
        · rename_i x len el h1 h2
          simp at hc; subst hc
          simp [step] at hs; subst hs
          exact ⟨ran_len_arr hE h1 h2 hop hcal ha hb, by simp [hop]⟩
        · rename_i x h1 h2
          simp at hc; subst hc
          simp only [step] at hs
          split at hs
          · rename_i s e1
            simp only [Option.some.injEq] at hs; subst hs
            exact ⟨ran_len hE h1 (.inl h2) hop hcal ha hb (.inl ⟨h2, s, e1, rfl⟩), by simp [hop]⟩
          · simp at hs
        · rename_i x el h1 h2
          simp at hc; subst hc
          simp only [step] at hs
          split at hs
          · rename_i e1
            simp only [Option.some.injEq] at hs; subst hs
            exact ⟨ran_len hE h1 (.inr ⟨_, h2⟩) hop hcal ha hb (.inr ⟨⟨_, h2⟩, .inl ⟨e1, rfl⟩⟩), by simp [hop]⟩
          · rename_i kk s es e1
            simp only [Option.some.injEq] at hs; subst hs
            exact ⟨ran_len hE h1 (.inr ⟨_, h2⟩) hop hcal ha hb (.inr ⟨⟨_, h2⟩, .inr (.inl ⟨kk, s, es, e1, rfl⟩)⟩), by simp [hop]⟩
          · rename_i id s off m e1
            simp only [Option.some.injEq] at hs; subst hs
            exact ⟨ran_len hE h1 (.inr ⟨_, h2⟩) hop hcal ha hb (.inr ⟨⟨_, h2⟩, .inr (.inr ⟨id, s, off, e1⟩)⟩), by simp [hop]⟩
          · simp at hs
        · simp at hc
      · simp at hc
    · -- cap
      rename_i hcal
      split at hc
      · rename_i X t ha hb
        split at hc
        · rename_i x el h1 h2
          simp at hc; subst hc
          simp only [step] at hs
          split at hs
          · rename_i e1
            simp only [Option.some.injEq] at hs; subst hs
            exact ⟨ran_cap hE h1 h2 hop hcal ha hb e1, by simp [hop]⟩
          · simp at hs
        · simp at hc
      · simp at hc
    · -- append
      rename_i hcal
      split at hc
      · rename_i X Y t u ha hb
        split at hc
        · rename_i x y el el' h1 h2 h3 h4
          split at hc
          · rename_i s b s' z h5 h6 h7 h8
            split at hc
            · rename_i hcond
              simp at hc; subst hc
              obtain ⟨c1, rfl, c3, c4⟩ := hcond
              simp only [step] at hs
              exact ⟨ran_append hH hE h1 h2 ⟨⟨el, el', h3, h4, h5, h6, z, h8, c3⟩, c1, c4⟩ hop hcal ha hb (phi_fresh hH) hs, by simp [hop]⟩
            · simp at hc
          · simp at hc
        · rename_i x y el k0 h1 h2 h3 h4
          split at hc
          · rename_i s b z h5 h6 h7
            split at hc
            · rename_i hcond
              simp at hc; subst hc
              simp only [step] at hs
              split at hs
              · rename_i k n e1 e2
                split at hs
                · rename_i hb'
                  refine ⟨ran_appendZ hE h1 h2 h3 h4 h5 h6 h7 hcond.1 hcond.2.1 hcond.2.2 hop hcal ha hb e1 e2 hb'.1 hb'.2.2.1 hb'.2.2.2 ?_, by simp [hop]⟩
                  split at hs
                  · rename_i h0; simp at hs; exact .inl ⟨h0, hs.symm⟩
                  · rename_i h0; simp only [Option.some.injEq] at hs; exact .inr ⟨h0, hs.symm⟩
                · simp at hs
              · simp at hs
            · simp at hc
          · simp at hc
        · simp at hc
      · simp at hc
    · -- max
      rename_i hcal
      cases hx : opndsL c.args.toList with
      | none => simp [hx] at hc
      | some xs =>
        simp [hx] at hc; subst hc
        simp only [step] at hs
        split at hs
        · rename_i k p rest e1
          cases hm : minmaxL true k p rest with
          | none => simp [hm] at hs
          | some m =>
            simp [hm] at hs; subst hs
            exact ⟨ran_minmax (mx := true) hE hx hop hcal e1 hm, by simp [hop]⟩
        · simp at hs
    · rename_i hcal
      cases hx : opndsL c.args.toList with
      | none => simp [hx] at hc
      | some xs =>
        simp [hx] at hc; subst hc
        simp only [step] at hs
        split at hs
        · rename_i k p rest e1
          cases hm : minmaxL false k p rest with
          | none => simp [hm] at hs
          | some m =>
            simp [hm] at hs; subst hs
            exact ⟨ran_minmax (mx := false) hE hx hop hcal e1 hm, by simp [hop]⟩
        · simp at hs
    · -- clear
      rename_i hcal
      split at hc
      · rename_i X t ha hb
        split at hc
        · rename_i x el h1 h2
          split at hc
          · rename_i s z h3 h4
            split at hc
            · rename_i hcond
              simp at hc; subst hc
              simp only [step] at hs
              refine ⟨ran_clear hH hE h1 h2 h3 h4 hcond.1 hcond.2 hop hcal ha hb ?_, by simp [hop]⟩
              split at hs
              · rename_i e1
                simp only [Option.some.injEq] at hs
                exact .inl ⟨e1, hs.symm⟩
              · rename_i id sz off len e1
                split at hs
                · rename_i hz
                  split at hs
                  · rename_i ds hg
                    split at hs
                    · rename_i hle
                      simp only [Option.some.injEq] at hs
                      have hszs : sz = s := by rw [← hz]; exact hcond.2
                      subst hszs
                      exact .inr ⟨id, off, len, ds, e1, hg, hle, hs.symm⟩
                    · simp at hs
                  · simp at hs
                · simp at hs
              · simp at hs
            · simp at hc
          · simp at hc
        · simp at hc
      · simp at hc
    · simp at hc
  · simp at hc

theorem compile_call {f : Opnd} {xs : List Opnd} (hc : compileOp P Z o = some (.call f xs)) : ∃ c g, o.op = .call c ∧ c.callee = .value g ∧ opndP g = some f ∧ opndsL c.args.toList = some xs := by
  unfold compileOp at hc
  split at hc
  case h_23 =>
    rename_i c hop
    split at hc
    · rename_i g hcal
      split at hc
      · rename_i f' xs' h1 h2
        simp at hc
        obtain ⟨rfl, rfl⟩ := hc
        exact ⟨c, g, hop, hcal, h1, h2⟩
      · simp at hc
    all_goals
      exfalso
      revert hc
      (repeat' split) <;> simp
  all_goals
    exfalso
    revert hc
    (repeat' split) <;> simp

theorem op_wp {cl : Callee} {vo : VOp} (hcl : CalleeOk C P cl) (hH : HRel C S base φ H w) (hE : ERel (Imm S base φ H w) φ w env a) (hc0 : vo = (compileOp P Z o).getD .stuck) (hs : step cl env H vo = some e)
    (hK : ∀ v w', EPost C S base φ H w e v w' → K (a.put o.dst v) w') : o.wpIn (Fw ro) n P a w K Q := by
  have hc : compileOp P Z o = some vo := by
    cases h : compileOp P Z o with
    | none =>
      rw [h] at hc0
      subst hc0
      simp [step] at hs
    | some v =>
      rw [h] at hc0
      rw [hc0]
      rfl
  by_cases hcall : ∃ f xs, vo = .call f xs
  · obtain ⟨f, xs, rfl⟩ := hcall
    obtain ⟨c, g, hop, hcal, h1, h2⟩ := compile_call hc
    have hf := opnd_rel hE h1
    have hxs := opnds_rel hE h2
    simp only [step, doCall] at hs
    split at hs
    · rename_i g' caps e1
      rw [e1] at hf
      obtain ⟨vs, hg, hl, hr⟩ := hf.pure_inv.func_inv
      exact wp_doCall hcl hH hop hcal hg (VRels.pures (by simpa using hl) fun i p v hp hv => hr i p v hp (by simpa using hv)) hxs hs hK
    · rename_i g' caps e1
      rw [e1] at hf
      obtain ⟨vs, hg, hl, hr⟩ := hf.func_inv
      exact wp_doCall hcl hH hop hcal hg (VRels.of_agg hl hr) hxs hs hK
    · rename_i id e1
      rw [e1] at hf
      obtain ⟨b, m, hid, hg⟩ := hf.yield_inv
      split at hs
      · rename_i v H' hy
        simp at hs
        subst hs
        obtain ⟨l, hl, hlen, hround⟩ := hcl.yield _ _ _ _ _ hy (n - 1) S base φ w b m _ hid hH hxs
        have hnd : ∀ c, o.op ≠ .defer c := by simp [hop]
        refine ⟨fun _ _ => trivial, ?_⟩
        have hrun : (execOp a.eval o).run P w = .ok (.round b l.fn ((l.params.zip (c.args.toList.map a.eval).toArray).foldl (fun tmps (x : Tmp × Value) => tmps.setIfInBounds x.1 x.2) l.tmps) l.assign l.body) w := by
          have hobj : (getObj b).run P w = .ok (.loop l) w := by
            simp only [getObj, Sem.run, hl]
          have hargs : (c.args.toList.map a.eval).toArray = c.args.map a.eval := by apply Array.ext'; simp
          simp only [execOp, hop, resolve, hcal, hg, Deferred.ofValue, Sem.run_bind, Sem.run_pure, Result.andThen_ok, invoke, Instr.yield, Instr.getLoop, hobj]
          rw [if_neg (by simp at hlen ⊢; omega)]
          rw [hargs]
          simp
        rw [Oper.semAt_eq _ _ _ hnd, hrun, Oper.uponIn_round]
        refine ⟨fun hd => by simp [Fw, Fence.wide] at hd, ?_⟩
        have := RoundIn.mono hround (R' := fun
          | .returned v, w'' => K (a.put o.dst v) w''
          | .panicked chain, w'' => Q (.panic chain) a w''
          | .outgrown, _ => LetsOut Q) fun e w' ⟨v, φ', he, h1, h2, h3⟩ => by subst he; exact hK v w' ⟨φ', h1, h2, h3⟩
        exact this
      · simp at hs
    · simp at hs
  · have hnc : ∀ f xs, vo ≠ .call f xs := fun f xs h => hcall ⟨f, xs, h⟩
    obtain ⟨h1, h2⟩ := op_ran hH hE hc hs hnc
    exact wp_ran h2 h1 hK
end
end Go.Proofs.YtjjkgamklbgnlaaGreat.Vm
