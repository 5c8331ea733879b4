/- Each operation of the machine does what the model's operation does: memory. -/
import Derived.Test.YtjjkgamklbgnlaaGreatVmOps
namespace Go.Proofs.YtjjkgamklbgnlaaGreat.Vm
open Go Go.RowKit
set_option linter.unusedVariables false
set_option linter.unusedSimpArgs false

theorem addr_add (b o n : Nat) : (⟨b, o, none⟩ : Addr).add n = ⟨b, o + n, none⟩ := by
  unfold Addr.add
  split
  · subst_vars; simp
  · rfl

section
variable {C : Comp} {P : Program} {S : Bool → Nat → Prop} {base : Nat} {φ : Phi} {H : Heap} {w : World} {env : Env} {a : Act} {e : Eff} {o : Oper}

/-- What a load meets. -/
theorem loadCells_rel (hH : HRel C S base φ H w) {size : Nat} {av : AV} {v : Value} {cs : List AV} (hv : VRel (Imm S base φ H w) φ w av v) (h : loadCells H size av = some cs) :
    ∃ ad vs, v = .pointer (some ad) ∧ VRels (Imm S base φ H w) φ w cs vs ∧ cs.length = size ∧ ∀ (j : Nat) u, vs[j]? = some u → w.cell? (ad.add j) = some u := by
  unfold loadCells at h
  split at h
  · rename_i ps off
    split at h
    · rename_i hle
      simp at h
      subst h
      cases hv.pure_inv with
      | ptr _ _ _ b o o' val ho hm hr =>
        subst ho
        refine ⟨⟨b, o + off, none⟩, (List.range size).map fun j => val (off + j), rfl, ⟨by simp; omega, fun i p u hp hu => ?_⟩, by simp; omega, fun j u hu => ?_⟩
        · have hi : i < size := by have := (List.getElem?_eq_some_iff.1 hu).1; simpa using this
          rw [List.getElem?_take_of_lt hi, List.getElem?_drop, List.getElem?_map] at hp
          cases hq : ps[off + i]? with
          | none => rw [hq] at hp; simp at hp
          | some q =>
            rw [hq] at hp
            simp at hp
            subst hp
            simp [hi] at hu
            subst hu
            exact .pure _ _ (hr _ _ hq)
        · have hi : j < size := by have := (List.getElem?_eq_some_iff.1 hu).1; simpa using this
          simp [hi] at hu
          subst hu
          have hq : ps[off + j]? = some (ps[off + j]'(by omega)) := List.getElem?_eq_getElem (by omega)
          rw [addr_add, Nat.add_assoc]
          exact (hm _ _ hq).2
    · simp at h
  · rename_i id off
    split at h
    · rename_i own ds hg
      split at h
      · rename_i hle
        simp at h
        subst h
        obtain ⟨b, n, hid, rfl⟩ := hv.box_inv
        have ho := hH.obj _ _ _ hid
        rw [hg] at ho
        obtain ⟨c, t, fz, h1, h2, h3, h4, h5⟩ := ho
        refine ⟨⟨b, off, none⟩, (c.toList.drop off).take size, rfl, ⟨by simp; omega, fun i p u hp hu => ?_⟩, by simp; omega, fun j u hu => ?_⟩
        · have hi : i < size := by have := (List.getElem?_eq_some_iff.1 hp).1; simp at this; omega
          rw [List.getElem?_take_of_lt hi, List.getElem?_drop] at hp hu
          exact h5 _ _ _ hp (by simpa using hu)
        · have hi : j < size := by have := (List.getElem?_eq_some_iff.1 hu).1; simp at this; omega
          rw [List.getElem?_take_of_lt hi, List.getElem?_drop] at hu
          rw [addr_add]
          simp only [World.cell?, h1]
          simpa using hu
      · simp at h
    · simp at h
  · simp at h

theorem ofCells_rel {I : Bool → Nat → Prop} {g : Bool} {cs : List AV} {vs : List Value} {av : AV} (hr : VRels I φ w cs vs) (h : ofCells g cs = some av) :
    VRel I φ w av (if g then .agg vs.toArray else vs.headD undef) := by
  unfold ofCells at h
  cases g with
  | true => simp at h; subst h; exact aggV_rel hr
  | false =>
    simp at h
    split at h
    · rename_i c
      simp at h
      subst h
      obtain ⟨v, vs', rfl, h1, h2⟩ := hr.cons_inv
      exact h1
    · simp at h

theorem run_loadVar' {t : TypeId} {g : Bool} {s : Nat} {ad : Addr} {vs : List Value} (hg : aggP P t = some g) (hs : sizeP P t = some s) (h1 : g = false → s = 1) (hl : vs.length = s)
    (hc : ∀ (j : Nat) u, vs[j]? = some u → w.cell? (ad.add j) = some u) : (loadVar t ad).run P w = .ok (if g then .agg vs.toArray else vs.headD undef) w := by
  simp only [loadVar, Sem.run_bind, run_isAgg' hg, Result.andThen_ok]
  cases g with
  | true =>
    subst hl
    simp only [if_true, Sem.run_bind, run_sizeOf' hs, Result.andThen_ok, run_loadCells_list (w := w) ad vs hc]
    simp
  | false =>
    have h1' := h1 rfl
    rw [h1'] at hl
    match vs, hl with
    | [u], _ =>
      have := hc 0 u rfl
      simp [Addr.add] at this
      simp [this]

theorem ran_load (hH : HRel C S base φ H w) (hE : ERel (Imm S base φ H w) φ w env a) {t : TypeId} {X : Operand} {x : Opnd} {g : Bool} {s : Nat} {cs : List AV} {av : AV} (hx : opndP X = some x)
    (hg : aggP P t = some g) (hs : sizeP P t = some s) (h1 : g = false → s = 1) (hop : o.op = .load t X) (hc : loadCells H s (x.eval env) = some cs) (ho : ofCells g cs = some av) :
    Ran C S base φ H w (.val av) ((execOp a.eval o).run P w) := by
  obtain ⟨ad, vs, e1, e2, e3, e4⟩ := loadCells_rel hH (opnd_rel hE hx) hc
  have hlen : vs.length = s := by have := e2.1; omega
  refine ran_val (v := if g then .agg vs.toArray else vs.headD undef) ?_ (ofCells_rel e2 ho)
  simp only [execOp, hop, Instr.loadAt, e1, Instr.sureAddr, Sem.run_bind, Sem.run_pure, Result.andThen_ok, run_loadVar' hg hs h1 hlen e4]

/-- A row of values is written into a block. -/
theorem run_storeCells' (b off : Nat) (t : TypeId) (fz : Nat × Nat) : ∀ (vs : List Value) (k : Nat) (c : Array Value) (w : World), w.heap[b]? = some (.cells c t fz) → off + k + vs.length ≤ c.size →
    (∀ v ∈ vs, v.oneCell' = true) → (∀ j, j < c.size → ¬ (fz.1 ≤ j ∧ j < fz.2)) →
    ∃ w' c', (storeCells ⟨b, off, none⟩ vs k).run P w = .ok () w' ∧ w'.os = w.os ∧ w'.tape = w.tape ∧ w'.output = w.output ∧ w'.heap.size = w.heap.size ∧ (∀ d, d ≠ b → w'.heap[d]? = w.heap[d]?) ∧
      w'.heap[b]? = some (.cells c' t fz) ∧ c'.toList = c.toList.take (off + k) ++ vs ++ c.toList.drop (off + k + vs.length)
  | [], k, c, w, hb, hl, h1, hf => ⟨w, c, rfl, rfl, rfl, rfl, rfl, fun _ _ => rfl, hb, by simp⟩
  | v :: vs, k, c, w, hb, hl, h1, hf => by
    simp only [List.length_cons] at hl
    have hcell : w.cell? ⟨b, off + k, none⟩ = c[off + k]? := by simp [World.cell?, hb]
    have hlt : off + k < c.size := by omega
    have hfr : w.frozen? ⟨b, off + k, none⟩ = false := by
      simp only [World.frozen?, hb]
      have := hf (off + k) hlt
      simp
      omega
    have hb' : (w.setCell ⟨b, off + k, none⟩ v).heap[b]? = some (.cells (c.setIfInBounds (off + k) v) t fz) := by
      simp [World.setCell, Array.getElem?_modify, hb]
    obtain ⟨w', c', e1, e2, e3, e4, e5, e6, e7, e8⟩ := run_storeCells' b off t fz vs (k + 1) (c.setIfInBounds (off + k) v) (w.setCell ⟨b, off + k, none⟩ v) hb' (by simp; omega)
      (fun u hu => h1 u (List.mem_cons_of_mem _ hu)) (fun j hj => hf j (by simpa using hj))
    refine ⟨w', c', ?_, by rw [e2]; rfl, by rw [e3]; rfl, by rw [e4]; rfl, by rw [e5]; simp [World.setCell], fun d hd => (e6 d hd).trans ?_, e7, ?_⟩
    · simp only [storeCells, Sem.run_bind, addr_add]
      rw [run_store _ _ _ _ _ (h1 v (List.mem_cons_self ..)), hcell, Array.getElem?_eq_getElem hlt]
      simp only [hfr, Bool.false_eq_true, if_false, Result.andThen_ok]
      exact e1
    · simp only [World.setCell, Array.getElem?_modify]
      rw [if_neg (by simpa using fun h => hd h.symm)]
    · rw [e8, Array.toList_setIfInBounds]
      have hlt' : off + k < c.toList.length := by simpa using hlt
      have e1 : (c.toList.set (off + k) v).take (off + (k + 1)) = c.toList.take (off + k) ++ [v] := by
        rw [show off + (k + 1) = off + k + 1 from rfl, List.take_succ_eq_append_getElem (by simpa using hlt')]
        simp [List.take_set_of_le]
      have e2 : (c.toList.set (off + k) v).drop (off + (k + 1) + vs.length) = c.toList.drop (off + k + (vs.length + 1)) := by
        rw [List.drop_set_of_lt (by omega)]
        congr 1
        omega
      rw [e1, e2]
      simp

/-- One's own memory, written to at a place. -/
theorem store_rel (hH : HRel C S base φ H w) {id b n off : Nat} {ds cs : List AV} {vs : List Value} (hid : φ id = some (b, n)) (hg : H.get id = .cells true ds)
    (hvs : VRels (Imm S base φ H w) φ w cs vs) (h1 : cs.all AV.one = true) (hle : off + cs.length ≤ ds.length) :
    ∃ w', (storeCells ⟨b, off, none⟩ vs).run P w = .ok () w' ∧
      Evo φ H w φ (H.set id (.cells true (ds.take off ++ cs ++ ds.drop (off + cs.length)))) w' ∧ HRel C S base φ (H.set id (.cells true (ds.take off ++ cs ++ ds.drop (off + cs.length)))) w' := by
  have ho := hH.obj _ _ _ hid
  rw [hg] at ho
  obtain ⟨c, t, fz, g1, g2, g3, g4, g5⟩ := ho
  have hlen := hvs.1
  obtain ⟨w', c', e1, e2, e3, e4, e5, e6, e7, e8⟩ := run_storeCells' (P := P) b off t fz vs 0 c w g1 (by omega) (fun v hv => by
      obtain ⟨i, hi⟩ := List.getElem?_of_mem hv
      have hil : i < cs.length := by have := (List.getElem?_eq_some_iff.1 hi).1; omega
      have hci : cs[i]? = some cs[i] := List.getElem?_eq_getElem hil
      exact (hvs.2 i _ _ hci hi).one (List.all_eq_true.1 h1 _ (List.getElem_mem hil))) (fun j hj => g4 j (by omega))
  have hc's : c'.size = n := by
    have : c'.toList.length = n := by rw [e8]; simp; omega
    simpa using this
  refine ⟨w', e1, ?_⟩
  refine hH.write hid (by rw [hg]; rfl) e2 e3 e4 e5 e6 ⟨c', t, fz, e7, hc's, by simp; omega, fun j hj => g4 j hj, fun j a v ha hv => ?_⟩
  have hds : VRels (Imm S base φ H w) φ w ds (c.toList.take ds.length) := ⟨by simp; omega, fun i p u hp hu => by
    have hi : i < ds.length := (List.getElem?_eq_some_iff.1 hp).1
    rw [List.getElem?_take_of_lt hi] at hu
    exact g5 i p u hp (by simpa using hu)⟩
  -- the values in the block, as far as the abstract cells go
  have hmix := ((hds.take off).append hvs).append (hds.drop (off + cs.length))
  have hImm : ∀ k c, Imm S base φ H w k c → c ≠ b := fun k c hc e => hc.2.2 ⟨id, n, e ▸ hid, by rw [hg]; rfl⟩
  refine (hmix.2 j a v ha ?_).mono (fun k c hc => ⟨hc, e6 c (hImm k c hc)⟩) (fun _ _ h => h)
  have hj : j < ds.length := by have := (List.getElem?_eq_some_iff.1 ha).1; simp at this; omega
  rw [← Array.getElem?_toList, e8] at hv
  rw [← hv]
  have hcl : c.toList.length = c.size := by simp
  have hd1 : ds.length ≤ c.toList.length := by omega
  have e9 : (c.toList.take ds.length).take off = c.toList.take off := by rw [List.take_take]; congr 1; omega
  have e10 : off + 0 = off := rfl
  rw [e9, e10]
  have hm0 : (c.toList.take off).length = off := by rw [List.length_take]; omega
  have hm1 : (c.toList.take off ++ vs).length = off + vs.length := by rw [List.length_append, hm0]
  generalize c.toList.take off ++ vs = X at hm1 ⊢
  by_cases hj1 : j < off + cs.length
  · rw [List.getElem?_append_left (by rw [hm1]; omega), List.getElem?_append_left (by rw [hm1]; omega)]
  · rw [List.getElem?_append_right (by rw [hm1]; omega), List.getElem?_append_right (by rw [hm1]; omega), List.getElem?_drop, List.getElem?_drop, hm1, ← hlen, List.getElem?_take_of_lt (by omega)]

theorem ran_store (hH : HRel C S base φ H w) (hE : ERel (Imm S base φ H w) φ w env a) {t : TypeId} {A X : Operand} {x y : Opnd} {s id off : Nat} {ds : List AV} (hx : opndP A = some x) (hy : opndP X = some y)
    (hs : sizeP P t = some s) (h0 : s ≠ 0) (hop : o.op = .store t A X) (hbox : x.eval env = .box id off) (hg : H.get id = .cells true ds)
    (hl : (y.eval env).cells.length = s) (h1 : (y.eval env).cells.all AV.one = true) (hle : off + s ≤ ds.length) :
    Ran C S base φ H w (.upd (.tup []) (H.set id (.cells true (ds.take off ++ (y.eval env).cells ++ ds.drop (off + s))))) ((execOp a.eval o).run P w) := by
  have hb := opnd_rel hE hx
  rw [hbox] at hb
  obtain ⟨b, n, hid, hv⟩ := hb.box_inv
  have hyv := opnd_rel hE hy
  have hu : y.eval env ≠ .undef := fun e => by rw [e] at hl; simp [AV.cells] at hl; omega
  have hcells := hyv.cells hu
  have hsz : (a.eval X).cells.size = s := by have := hcells.1; simp at this; omega
  obtain ⟨w', e1, e2, e3⟩ := store_rel (P := P) (off := off) hH hid hg hcells h1 (by omega)
  rw [hl] at e2 e3
  refine .inr ⟨w', ?_, φ, e2, e3, .tup [] #[] rfl fun i p v h => by simp at h⟩
  simp only [execOp, hop, Instr.storeAt, hv, Instr.sureAddr, Sem.run_bind, Sem.run_pure, Result.andThen_ok, storeVar, run_sizeOf' hs]
  rw [if_neg (by simp [hsz])]
  simp only [e1, Result.andThen_ok, Sem.run_pure]
end
end Go.Proofs.YtjjkgamklbgnlaaGreat.Vm
