/- Each operation of the machine does what the model's operation does: numbers, slices, fields, elements. -/
import Derived.Test.YtjjkgamklbgnlaaGreatVmOps2
import Derived.IntWalk
namespace Go.Proofs.YtjjkgamklbgnlaaGreat.Vm
open Go Go.RowKit
set_option linter.unusedVariables false
set_option linter.unusedSimpArgs false

section
variable {C : Comp} {P : Program} {S : Bool → Nat → Prop} {base : Nat} {φ : Phi} {H : Heap} {w : World} {env : Env} {a : Act} {e : Eff} {o : Oper} {I : Bool → Nat → Prop}

theorem Rep.slice_inv {k : Bool} {sz : Nat} {es : List (List PV)} {v : Value} (h : Rep I w (.slice k sz es) v) : ∃ (b o cap : Nat) (val : Nat → Nat → Value), v = .slice (some ⟨b, o, none⟩) es.length cap ∧ es.length ≤ cap ∧
    (∀ (i : Nat) e, es[i]? = some e → e.length = sz) ∧ (∀ (i : Nat) e (j : Nat) p, es[i]? = some e → e[j]? = some p → I k b ∧ w.cell? ⟨b, o + i * sz + j, none⟩ = some (val i j)) ∧
    (∀ (i : Nat) e (j : Nat) p, es[i]? = some e → e[j]? = some p → Rep I w p (val i j)) := by
  cases h with
  | slice _ _ _ b o len cap val hlen hc hz hm h => subst hlen; exact ⟨b, o, cap, val, rfl, hc, hz, hm, h⟩
theorem Rep.ptr_inv {k : Bool} {cs : List PV} {off : Nat} {v : Value} (h : Rep I w (.ptr k cs off) v) : ∃ (b o : Nat) (val : Nat → Value), v = .pointer (some ⟨b, o + off, none⟩) ∧
    (∀ (j : Nat) p, cs[j]? = some p → I k b ∧ w.cell? ⟨b, o + j, none⟩ = some (val j)) ∧ (∀ (j : Nat) p, cs[j]? = some p → Rep I w p (val j)) := by
  cases h with
  | ptr _ _ _ b o o' val ho hm h => subst ho; exact ⟨b, o, val, rfl, hm, h⟩

/-- What 'isNil' says. -/
theorem isNil_rel {d : EqK} {x : AV} {v : Value} (h : VRel I φ w x v) {b : Bool} (hn : isNil d x = some b) :
    (d = .slice ∧ ∃ ad n c, v = .slice ad n c ∧ ad.isNone = b) ∨ (d = .pointer ∧ ∃ ad, v = .pointer ad ∧ ad.isNone = b) ∨
    (d = .func ∧ ((b = true ∧ v = .nilFunc) ∨ (b = false ∧ ∃ f vs, v = .func (.func f) #[] vs))) := by
  unfold isNil at hn
  split at hn
  · have := h.pure_inv.nils_inv; subst this; cases d <;> simp at hn; subst hn; exact .inl ⟨rfl, none, 0, 0, rfl, rfl⟩
  · have := h.pure_inv.nilp_inv; subst this; cases d <;> simp at hn; subst hn; exact .inr (.inl ⟨rfl, none, rfl, rfl⟩)
  · have := h.pure_inv.nilf_inv; subst this; cases d <;> simp at hn; subst hn; exact .inr (.inr ⟨rfl, .inl ⟨rfl, rfl⟩⟩)
  · obtain ⟨b', o, cap, val, rfl, _⟩ := h.pure_inv.slice_inv; cases d <;> simp at hn; subst hn; exact .inl ⟨rfl, _, _, _, rfl, rfl⟩
  · obtain ⟨b', n, cap, _, rfl, _⟩ := h.row_inv; cases d <;> simp at hn; subst hn; exact .inl ⟨rfl, _, _, _, rfl, rfl⟩
  · obtain ⟨b', o, val, rfl, _⟩ := h.pure_inv.ptr_inv; cases d <;> simp at hn; subst hn; exact .inr (.inl ⟨rfl, _, rfl, rfl⟩)
  · obtain ⟨b', n, _, rfl⟩ := h.box_inv; cases d <;> simp at hn; subst hn; exact .inr (.inl ⟨rfl, _, rfl, rfl⟩)
  · obtain ⟨vs, rfl, _⟩ := h.pure_inv.func_inv; cases d <;> simp at hn; subst hn; exact .inr (.inr ⟨rfl, .inr ⟨rfl, _, _, rfl⟩⟩)
  · obtain ⟨vs, rfl, _⟩ := h.func_inv; cases d <;> simp at hn; subst hn; exact .inr (.inr ⟨rfl, .inr ⟨rfl, _, _, rfl⟩⟩)
  · simp at hn

theorem ran_nilCheck (hE : ERel (Imm S base φ H w) φ w env a) {X : Operand} {x : Opnd} (hx : opndP X = some x) (hop : o.op = .nilCheck X)
    (hn : isNil .pointer (x.eval env) = some false ∨ isNil .func (x.eval env) = some false) : Ran C S base φ H w (.val (x.eval env)) ((execOp a.eval o).run P w) := by
  have h := opnd_rel hE hx
  refine ran_val (v := a.eval X) ?_ h
  rcases hn with hn | hn
  · rcases isNil_rel h hn with ⟨h0, _⟩ | ⟨_, ad, hv, hb⟩ | ⟨h0, _⟩
    · cases h0
    · cases ad with
      | none => simp at hb
      | some ad => simp [execOp, hop, hv]
    · cases h0
  · rcases isNil_rel h hn with ⟨h0, _⟩ | ⟨h0, _⟩ | ⟨_, ⟨h0, _⟩ | ⟨_, f, vs, hv⟩⟩
    · cases h0
    · cases h0
    · cases h0
    · simp [execOp, hop, hv]

theorem intBin_rel {op : BinOp} {k : IntKind} {x y : Int} {t : TypeId} {p : PV} (hop : ¬ (op = .shl ∨ op = .shr)) (h : intBin op k x y = some p) :
    ∃ v, (binOp op t (.int k x) (.int k y)).run P w = .ok v w ∧ Rep I w p v := by
  have h1 : op ≠ .shl := fun e => hop (.inl e)
  have h2 : op ≠ .shr := fun e => hop (.inr e)
  unfold intBin at h
  split at h
  · simp at h; subst h; exact ⟨_, by simp [binOp, Op.intArith], .int _ _⟩
  · simp at h; subst h; exact ⟨_, by simp [binOp, Op.intArith], .int _ _⟩
  · simp at h; subst h; exact ⟨_, by simp [binOp, Op.intArith], .int _ _⟩
  · split at h
    · simp at h
    · rename_i h0; simp at h; subst h; exact ⟨_, by simp [binOp, Op.intDiv, h0], .int _ _⟩
  · split at h
    · simp at h
    · rename_i h0; simp at h; subst h; exact ⟨_, by simp [binOp, Op.intDiv, h0], .int _ _⟩
  · simp at h; subst h; exact ⟨_, by simp [binOp, Op.intBits], .int _ _⟩
  · simp at h; subst h; exact ⟨_, by simp [binOp, Op.intBits], .int _ _⟩
  · simp at h; subst h; exact ⟨_, by simp [binOp, Op.intBits], .int _ _⟩
  · simp at h; subst h; exact ⟨_, by simp [binOp, Op.intBits], .int _ _⟩
  · unfold intCmpB at h
    split at h <;> simp at h <;> subst h <;> exact ⟨_, by simp [binOp, Op.intCmp], .bool _⟩

theorem shiftBin_rel {op : BinOp} {k k' : IntKind} {x y : Int} {t : TypeId} {p : PV} (h : shiftBin op k x y = some p) :
    ∃ v, (binOp op t (.int k x) (.int k' y)).run P w = .ok v w ∧ Rep I w p v := by
  unfold shiftBin at h
  split at h
  · simp at h
  · rename_i h0
    split at h
    · simp at h; subst h; exact ⟨_, by simp [binOp, Op.shift, h0], .int _ _⟩
    · simp at h; subst h; exact ⟨_, by simp [binOp, Op.shift, h0], .int _ _⟩
    · simp at h

theorem strBin_rel {op : BinOp} {x y : ByteArray} {t : TypeId} {p : PV} (h : strBin op x y = some p) :
    ∃ v, (binOp op t (.string x) (.string y)).run P w = .ok v w ∧ Rep I w p v := by
  unfold strBin at h
  split at h
  · simp at h; subst h; exact ⟨_, by simp [binOp, Op.stringOp], .bool _⟩
  · simp at h; subst h; exact ⟨_, by simp [binOp, Op.stringOp], .bool _⟩
  · simp at h; subst h; exact ⟨_, by simp [binOp, Op.stringOp], .bool _⟩
  · split at h
    · rename_i h0
      simp at h
      subst h
      refine ⟨.string (x ++ y), ?_, .str _⟩
      simp only [binOp, Op.stringOp]
      rw [if_neg]
      · rfl
      · simp [IntKind.max, IntKind.signed, IntKind.bits]; omega
    · simp at h
  · simp at h

/-- Which underlying type goes with which way to compare. -/
def kOf (P : Program) (t : TypeId) : EqK → Prop
  | .num => (∃ k, P.underlying t = some (.int k)) ∨ P.underlying t = some .string
  | .bool => P.underlying t = some .bool
  | .slice => ∃ e, P.underlying t = some (.slice e)
  | .pointer => ∃ e, P.underlying t = some (.pointer e)
  | .func => ∃ x y z, P.underlying t = some (.func x y z)

theorem equal_of_in {t : TypeId} {x y : Value} {b : Bool} (h : ∀ d, (Op.equalIn (d + 1) t x y).run P w = .ok b w) : (Op.equal t x y).run P w = .ok b w := by
  have := h 9999
  simpa [Op.equal, Op.maxDepth] using this

theorem eqB_rel {d : EqK} {t : TypeId} {x y : AV} {v u : Value} (hk : kOf P t d) (hx : VRel I φ w x v) (hy : VRel I φ w y u) {b : Bool} (h : eqB d x y = some b) :
    (Op.equal t v u).run P w = .ok b w ∧ (∀ c1 c2, ¬ (v = .agg c1 ∧ u = .agg c2)) ∧ (v = .nilIface → False) ∧ (∀ k n, v ≠ .int k n) ∧ (∀ k n, u ≠ .int k n) ∧ (∀ s s', ¬ (v = .string s ∧ u = .string s')) ∧
    (∀ k n, v ≠ .float k n) ∧ (∀ k n m, v ≠ .complex k n m) := by
  unfold eqB at h
  have both : ∀ b1 b2, isNil d x = some b1 → isNil d y = some b2 → (b1 = true ∨ b2 = true) → b = (b1 && b2) →
      (Op.equal t v u).run P w = .ok b w ∧ (∀ c1 c2, ¬ (v = .agg c1 ∧ u = .agg c2)) ∧ (v = .nilIface → False) ∧ (∀ k n, v ≠ .int k n) ∧ (∀ k n, u ≠ .int k n) ∧ (∀ s s', ¬ (v = .string s ∧ u = .string s')) ∧
    (∀ k n, v ≠ .float k n) ∧ (∀ k n m, v ≠ .complex k n m) := by
    intro b1 b2 h1 h2 hor hb
    rcases isNil_rel hx h1 with ⟨e, ad, n, c, rfl, ha⟩ | ⟨e, ad, rfl, ha⟩ | ⟨e, hf⟩
    · subst e
      rcases isNil_rel hy h2 with ⟨_, ad', n', c', rfl, ha'⟩ | ⟨e, _⟩ | ⟨e, _⟩
      · obtain ⟨el, hu⟩ := hk
        refine ⟨equal_of_in fun d => ?_, by simp, by simp, by simp, by simp, by simp, by simp, by simp⟩
        simp only [Op.equalIn, Sem.run_bind, run_underlying' hu, Result.andThen_ok]
        cases ad <;> cases ad' <;> simp at ha ha' <;> subst ha <;> subst ha' <;> simp at hor <;> simp [hb]
      · cases e
      · cases e
    · subst e
      rcases isNil_rel hy h2 with ⟨e, _⟩ | ⟨_, ad', rfl, ha'⟩ | ⟨e, _⟩
      · cases e
      · obtain ⟨el, hu⟩ := hk
        refine ⟨equal_of_in fun d => ?_, by simp, by simp, by simp, by simp, by simp, by simp, by simp⟩
        simp only [Op.equalIn, Sem.run_bind, run_underlying' hu, Result.andThen_ok]
        cases ad <;> cases ad' <;> simp at ha ha' <;> subst ha <;> subst ha' <;> simp at hor <;> simp [hb]
      · cases e
    · subst e
      rcases isNil_rel hy h2 with ⟨e, _⟩ | ⟨e, _⟩ | ⟨_, hf'⟩
      · cases e
      · cases e
      · obtain ⟨x1, x2, x3, hu⟩ := hk
        rcases hf with ⟨rfl, rfl⟩ | ⟨rfl, f, vs, rfl⟩ <;> rcases hf' with ⟨rfl, rfl⟩ | ⟨rfl, f', vs', rfl⟩
        all_goals
          refine ⟨equal_of_in fun d => ?_, by simp, by simp, by simp, by simp, by simp, by simp, by simp⟩
          simp only [Op.equalIn, Sem.run_bind, run_underlying' hu, Result.andThen_ok]
          simp at hor
          try simp [hb]
  split at h
  · rename_i b2 h1 h2; simp at h; subst h; exact both _ _ h1 h2 (.inl rfl) (by simp)
  · rename_i h1 h2; simp at h; subst h; exact both _ _ h1 h2 (.inr rfl) (by simp)
  · simp at h
  · split at h
    · rename_i x y p q _ _ _
      simp at h
      subst h
      have e1 := hx.bool_inv
      have e2 := hy.bool_inv
      subst e1; subst e2
      refine ⟨equal_of_in fun d => ?_, by simp, by simp, by simp, by simp, by simp, by simp, by simp⟩
      have hu : P.underlying t = some .bool := hk
      simp only [Op.equalIn, Sem.run_bind, run_underlying' hu, Result.andThen_ok]
      rfl
    · simp at h

theorem eqGuard_run {op : BinOp} {t : TypeId} {X Y : Operand} {v u : Value} (h1 : ∀ c1 c2, ¬ (v = .agg c1 ∧ u = .agg c2)) (h2 : v = .nilIface → False) : (eqGuard op t X Y v u).run P w = .ok () w := by
  unfold eqGuard
  cases op <;> simp
  all_goals
    cases v <;> cases u <;> first | rfl | exact (h2 rfl).elim | exact (h1 _ _ ⟨rfl, rfl⟩).elim

theorem ran_bin (hE : ERel (Imm S base φ H w) φ w env a) {X Y : Operand} {x y : Opnd} {op : BinOp} {t t' : TypeId} {d : EqK} {av : AV} (hx : opndP X = some x) (hy : opndP Y = some y)
    (hk : kOf P t d) (hop : o.op = .binOp op t X Y t') (h : vbin op d (x.eval env) (y.eval env) = some av) : Ran C S base φ H w (.val av) ((execOp a.eval o).run P w) := by
  have hxv := opnd_rel hE hx
  have hyv := opnd_rel hE hy
  suffices hs : ∃ v, (eqGuard op t X Y (a.eval X) (a.eval Y)).run P w = .ok () w ∧ (binOp op t (a.eval X) (a.eval Y)).run P w = .ok v w ∧ VRel (Imm S base φ H w) φ w av v by
    obtain ⟨v, h1, h2, h3⟩ := hs
    refine ran_val (v := v) ?_ h3
    simp only [execOp, hop, Sem.run_bind, h1, h2, Result.andThen_ok, Sem.run_pure]
  generalize a.eval X = v at *
  generalize a.eval Y = u at *
  unfold vbin at h
  split at h
  · rename_i k p k' q e1 e2
    rw [e1] at hxv
    rw [e2] at hyv
    have f1 := hxv.int_inv
    have f2 := hyv.int_inv
    subst f1; subst f2
    split at h
    · cases hs : shiftBin op k p q with
      | none => simp [hs] at h
      | some r =>
        simp [hs] at h
        subst h
        obtain ⟨v, g1, g2⟩ := shiftBin_rel (P := P) (w := w) (t := t) (k' := k') (I := Imm S base φ H w) hs
        exact ⟨v, eqGuard_run (by simp) (by simp), g1, .pure _ _ g2⟩
    · rename_i hns
      split at h
      · rename_i hkk
        subst hkk
        cases hs : intBin op k p q with
        | none => simp [hs] at h
        | some r =>
          simp [hs] at h
          subst h
          obtain ⟨v, g1, g2⟩ := intBin_rel (P := P) (w := w) (t := t) (I := Imm S base φ H w) hns hs
          exact ⟨v, eqGuard_run (by simp) (by simp), g1, .pure _ _ g2⟩
      · simp at h
  · rename_i p q e1 e2
    rw [e1] at hxv
    rw [e2] at hyv
    have f1 := hxv.str_inv
    have f2 := hyv.str_inv
    subst f1; subst f2
    cases hs : strBin op p q with
    | none => simp [hs] at h
    | some r =>
      simp [hs] at h
      subst h
      obtain ⟨v, g1, g2⟩ := strBin_rel (P := P) (w := w) (t := t) (I := Imm S base φ H w) hs
      exact ⟨v, eqGuard_run (by simp) (by simp), g1, .pure _ _ g2⟩
  · split at h
    · cases hs : eqB d (x.eval env) (y.eval env) with
      | none => simp [hs] at h
      | some r =>
        simp [hs] at h
        subst h
        obtain ⟨g1, g2, g3, g4, g5, g6, g7, g8⟩ := eqB_rel hk hxv hyv hs
        refine ⟨.bool r, eqGuard_run g2 g3, ?_, .pure _ _ (.bool _)⟩
        unfold binOp
        split <;> first
          | contradiction
          | exact absurd rfl (g4 _ _)
          | exact absurd rfl (g7 _ _)
          | exact absurd rfl (g8 _ _ _)
          | exact absurd ⟨rfl, rfl⟩ (g6 _ _)
          | simp [g1]
          | simp_all
    · cases hs : eqB d (x.eval env) (y.eval env) with
      | none => simp [hs] at h
      | some r =>
        simp [hs] at h
        subst h
        obtain ⟨g1, g2, g3, g4, g5, g6, g7, g8⟩ := eqB_rel hk hxv hyv hs
        refine ⟨.bool (!r), eqGuard_run g2 g3, ?_, .pure _ _ (.bool _)⟩
        unfold binOp
        split <;> first
          | contradiction
          | exact absurd rfl (g4 _ _)
          | exact absurd rfl (g7 _ _)
          | exact absurd rfl (g8 _ _ _)
          | exact absurd ⟨rfl, rfl⟩ (g6 _ _)
          | simp [g1]
          | simp_all
    · simp at h

theorem ran_un (hE : ERel (Imm S base φ H w) φ w env a) {X : Operand} {x : Opnd} {op : UnOp} {t : TypeId} {av : AV} (hx : opndP X = some x) (hop : o.op = .unOp op t X) (h : vun op (x.eval env) = some av) :
    Ran C S base φ H w (.val av) ((execOp a.eval o).run P w) := by
  have hv := opnd_rel hE hx
  unfold vun at h
  split at h
  · rename_i b e1
    rw [e1] at hv
    simp at h
    subst h
    exact ran_val (v := .bool (!b)) (by simp [execOp, hop, hv.bool_inv, Op.unary]) (.pure _ _ (.bool _))
  · rename_i k n e1
    rw [e1] at hv
    simp at h
    subst h
    exact ran_val (v := .int k (k.wrap (-n))) (by simp [execOp, hop, hv.int_inv, Op.unary, Op.intArith]) (.pure _ _ (.int _ _))
  · simp at h
end
end Go.Proofs.YtjjkgamklbgnlaaGreat.Vm
