/- Each operation of the machine does what the model's operation does: make, clear, structs of numbers compared. -/
import Derived.Test.YtjjkgamklbgnlaaGreatVmOps6
namespace Go.Proofs.YtjjkgamklbgnlaaGreat.Vm
open Go Go.RowKit
set_option linter.unusedVariables false
set_option linter.unusedSimpArgs false

theorem wrap_i64 {n : Int} (h : -9223372036854775808 ≤ n) (h' : n < 9223372036854775808) : IntKind.i64.wrap n = n := by
  simp only [IntKind.wrap, IntKind.bits, IntKind.signed, Bool.true_and]
  split
  · rename_i h0; simp at h0; omega
  · rename_i h0; simp at h0; omega

section
variable {C : Comp} {P : Program} {S : Bool → Nat → Prop} {base : Nat} {φ : Phi} {H : Heap} {w : World} {env : Env} {a : Act} {e : Eff} {o : Oper} {I : Bool → Nat → Prop}

theorem ran_makeSlice (hE : ERel (Imm S base φ H w) φ w env a) {X Y : Operand} {x y : Opnd} {t el : TypeId} {s b : Nat} {z : List PV} {k k' : IntKind} {n : Int} (hx : opndP X = some x) (hy : opndP Y = some y) (ht : P.underlying t = some (.slice el)) (hs : sizeP P el = some s) (hb : bytesP P el = some b) (hz : zerosP P el = some z)
    (h0 : 0 < s) (hzl : z.length = s) (hop : o.op = .makeSlice t X Y) (hl : x.eval env = .pure (.int k n)) (hc : y.eval env = .pure (.int k' n)) (hn : 0 ≤ n) (hm : n.toNat * b ≤ maxCells) (hm2 : n.toNat ≤ maxCells) :
    Ran C S base φ H w (.new (.cells true ((List.replicate n.toNat (z.map AV.pure)).flatten)) fun id => .row id s 0 n.toNat) ((execOp a.eval o).run P w) := by
  have h1 := opnd_rel hE hx
  rw [hl] at h1
  have h2 := opnd_rel hE hy
  rw [hc] at h2
  obtain ⟨v, hv, hcv, hsv⟩ := zeros_run (w := w) hz
  have hvs : v.cells.size = s := by rw [hs] at hsv; simpa using hsv.symm
  have hi : ∃ i, P.info? el = some i ∧ i.bytes = b := by
    unfold bytesP at hb
    cases hi : P.info? el with
    | none => simp [hi] at hb
    | some i => simp [hi] at hb; exact ⟨i, rfl, hb⟩
  obtain ⟨i, hi, hib⟩ := hi
  simp only [maxCells] at hm hm2
  have hwrap : IntKind.i64.wrap n = n := wrap_i64 (by omega) (by omega)
  let row : Array Value := (Array.range (n.toNat * s)).map (v.cells[· % v.cells.size]!)
  have hrow := zeroCells_rel (I := Imm S base φ H w) (φ := φ) (w := w) (n := n.toNat) hcv (by omega) row (by simp [row, hzl]) (fun j hj => by
      have hj' : j < n.toNat * s := by rw [hzl] at hj; exact hj
      have hm : j % s < v.cells.size := by rw [hvs]; exact Nat.mod_lt _ h0
      simp only [row, Array.getElem?_map, hvs, hzl]
      rw [Array.getElem?_range, if_pos hj']
      simp only [Option.map_some]
      rw [getElem!_pos v.cells (j % s) hm, Array.getElem?_eq_getElem hm])
  have hrs : row.size = n.toNat * s := by simp [row]
  refine ran_new (c := row) (t := el) (v := .slice (some ⟨w.heap.size, 0, none⟩) n.toNat n.toNat) ?_ (by have := hrow.1; simp only [Array.length_toList] at this; omega) (fun j a v ha hv => hrow.2 j a v ha (by simpa using hv)) fun I' φ' w' id hid => .row id s 0 n.toNat _ _ 0 n.toNat hid (by simp) (Nat.le_refl _) (by simp [hrs])
  have hbig : (decide (n < 0) || decide ((b : Int) * n > 2 ^ 48)) = false := by
    have h3 : (b : Int) * n = ((n.toNat * b : Nat) : Int) := by
      rw [Int.natCast_mul, Int.toNat_of_nonneg hn, Int.mul_comm]
    simp only [Bool.or_eq_false_iff, decide_eq_false_iff_not]
    rw [h3]
    omega
  simp only [execOp, hop, Instr.makeSlice, Sem.run_bind, run_underlying' ht, Result.andThen_ok, h1.int_inv, h2.int_inv, asInt, asIntOf, Sem.run_pure, run_typeInfo' hi, hib, hwrap, hbig]
  rw [if_neg (by simp; omega)]
  simp only [Sem.run_bind, run_askRoom, Result.andThen_ok, run_sizeOf' hs]
  by_cases hn0 : n.toNat * s = 0
  · rw [if_pos hn0]
    have hz0 : n.toNat = 0 := by
      rcases Nat.eq_zero_or_pos n.toNat with h | h
      · exact h
      · have := Nat.mul_pos h h0; omega
    have hr0 : row = #[] := Array.eq_empty_of_size_eq_zero (by rw [hrs, hn0])
    rw [hr0, hn0]
    have hr00 : Array.range 0 = #[] := rfl
    simp only [Sem.run_pure, Result.andThen_ok, newRow, Sem.run_bind, run_newObj, hr00, Array.map_empty]
    rfl
  · rw [if_neg hn0]
    simp only [Sem.run_bind, hv, Result.andThen_ok, Sem.run_pure, newRow, run_newObj]
    rfl

theorem ran_appendZ (hE : ERel (Imm S base φ H w) φ w env a) {X Y : Operand} {x y : Opnd} {t u el : TypeId} {s b : Nat} {z : List PV} {k k0 : IntKind} {n : Int} {c : Call} (hx : opndP X = some x) (hy : opndP Y = some y) (ht : P.underlying t = some (.slice el)) (hu : P.underlying u = some (.int k0)) (hs : sizeP P el = some s) (hb : bytesP P el = some b) (hz : zerosP P el = some z)
    (h0 : 0 < s) (hzl : z.length = s) (hb0 : 0 < b) (hop : o.op = .call c) (hcal : c.callee = .builtin .append) (ha1 : c.args.toList = [X, Y]) (ha2 : c.argTypes.toList = [t, u]) (hl : x.eval env = .pure .nils) (hc : y.eval env = .pure (.int k n)) (hn : 0 ≤ n) (hm : n.toNat * b ≤ maxCells) (hm2 : n.toNat ≤ maxCells)
    (he : (n = 0 ∧ e = .val (.pure .nils)) ∨ (n ≠ 0 ∧ e = .new (.cells true ((List.replicate n.toNat (z.map AV.pure)).flatten)) fun id => .row id s 0 n.toNat)) :
    Ran C S base φ H w e ((execOp a.eval o).run P w) := by
  have h1 := opnd_rel hE hx
  rw [hl] at h1
  have hX := h1.pure_inv.nils_inv
  have h2 := opnd_rel hE hy
  rw [hc] at h2
  have hY := h2.int_inv
  obtain ⟨v, hv, hcv, hsv⟩ := zeros_run (w := w.drew) hz
  have hvs : v.cells.size = s := by rw [hs] at hsv; simpa using hsv.symm
  have hi : ∃ i, P.info? el = some i ∧ i.bytes = b := by
    unfold bytesP at hb
    cases hi : P.info? el with
    | none => simp [hi] at hb
    | some i => simp [hi] at hb; exact ⟨i, rfl, hb⟩
  obtain ⟨i, hi, hib⟩ := hi
  simp only [maxCells] at hm hm2
  have hwrap : IntKind.i64.wrap n = n := wrap_i64 (by omega) (by omega)
  have hsz : ∀ w, (sizeOf el).run P w = .ok s w := fun w => run_sizeOf' hs
  have htI : ∀ w, (typeInfo el).run P w = .ok i w := fun w => run_typeInfo' hi
  have hbytes : ¬ (n * (i.bytes : Int) > 2 ^ 48) := by
    rw [hib]
    have h3 : n * (b : Int) = ((n.toNat * b : Nat) : Int) := by rw [Int.natCast_mul, Int.toNat_of_nonneg hn]
    rw [h3]
    omega
  rcases he with ⟨rfl, rfl⟩ | ⟨hne, rfl⟩
  · refine ran_val (v := .slice none 0 0) (run_append hop hcal ha1 ha2 ?_) (.pure _ _ .nils)
    rw [hX, hY]
    simp only [Builtin.append_, List.getElem?_toArray, List.getElem?_cons_zero, List.getElem?_cons_succ, Sem.run_bind, run_underlying' ht, run_underlying' hu, Result.andThen_ok, hsz, Sem.run_pure, asInt, asIntOf, if_true, hwrap, htI]
    rw [if_neg (by omega)]
    simp only [pure_bind, Sem.run_bind, htI, Result.andThen_ok]
    rw [if_neg hbytes]
    simp
  · have hcapq : ∀ m : Nat, 0 < m → m * b ≤ 140737488355328 → Builtin.nextslicecap m 0 * b ≤ 281474976710656 := fun m h hb => growslice_fits h hb
    have hnpos : 0 < n.toNat := by omega
    have hgrow := hcapq n.toNat hnpos (by omega)
    have hforced : (Question.appendCap (0 + n.toNat) 0 el).forced = false := rfl
    let cp := (Question.appendCap (0 + n.toNat) 0 el).cut (w.tape w.drawn (.appendCap (0 + n.toNat) 0 el))
    have hcp : n.toNat ≤ cp := by show n.toNat ≤ (0 + n.toNat) + _; omega
    let news := Builtin.zeroCells v.cells n.toNat
    let rest := Builtin.zeroCells v.cells (cp - (0 + n.toNat))
    have hns : news.size = n.toNat * s := by simp [news, Builtin.zeroCells, hvs]
    have hrs : rest.size = (cp - (0 + n.toNat)) * s := by simp [rest, Builtin.zeroCells, hvs]
    have hnew := zeroCells_rel (I := Imm S base φ H w) (φ := φ) (w := w) (n := n.toNat) hcv (by omega) news (by simp [hns, hzl]) (fun j hj => by
      have hj' : j < n.toNat * s := by rw [hzl] at hj; exact hj
      have hm : j % s < v.cells.size := by rw [hvs]; exact Nat.mod_lt _ h0
      simp only [news, Builtin.zeroCells, Array.getElem?_map, hvs, hzl]
      rw [Array.getElem?_range, if_pos hj']
      simp only [Option.map_some]
      rw [getElem!_pos v.cells (j % s) hm, Array.getElem?_eq_getElem hm])
    let c' : Array Value := (#[] : Array Value) ++ news ++ rest
    have hcs : c'.size = cp * s := by
      simp only [c', Array.size_append, hns, hrs, List.size_toArray, List.length_nil]
      have h3 : cp = n.toNat + (cp - (0 + n.toNat)) := by omega
      rw [Nat.zero_add, ← Nat.add_mul, ← h3]
    have hrun : (Builtin.append_ #[t, u] o.type #[a.eval X, a.eval Y]).run P w = .ok (.slice (some ⟨w.heap.size, 0, none⟩) (0 + n.toNat) cp) ((w.drew).alloc (.cells c' el)) := by
      rw [hX, hY]
      simp only [Builtin.append_, List.getElem?_toArray, List.getElem?_cons_zero, List.getElem?_cons_succ, Sem.run_bind, run_underlying' ht, run_underlying' hu, Result.andThen_ok, hsz, Sem.run_pure, asInt, asIntOf, if_true, hwrap, htI]
      rw [if_neg (by omega)]
      simp only [pure_bind, Sem.run_bind, htI, Result.andThen_ok]
      rw [if_neg hbytes]
      rw [if_neg (by omega)]
      simp only [Sem.run_bind, htI, Result.andThen_ok]
      rw [if_neg (by
        rintro ⟨h, _⟩
        have h7 : IntKind.i64.max = 9223372036854775807 := rfl
        rw [h7] at h
        omega)]
      simp only [Sem.run_bind, htI, Result.andThen_ok]
      rw [if_neg (by rw [hib]; have := hgrow; simp only [Nat.zero_add]; omega)]
      have hdrew : ({ w with drawn := w.drawn + 1 } : World) = w.drew := rfl
      have hfirst : (Builtin.firstCells s 0 (.slice none 0 0)).run P w.drew = .ok #[] w.drew := rfl
      have hns0 : ¬ n.toNat * s = 0 := fun h => by have := Nat.mul_pos hnpos h0; omega
      simp only [Sem.run_bind, Sem.run_pure, run_choose, hforced, Bool.false_eq_true, if_false, Result.andThen_ok, htI, run_askRoom, hdrew, hfirst, Bool.not_true, hns0, hv, newRow, run_newObj]
      rfl
    have hlen : ((List.replicate n.toNat (z.map AV.pure)).flatten).length ≤ c'.size := by
      have h4 := hnew.1
      simp only [Array.length_toList] at h4
      rw [h4, hns, hcs]
      exact Nat.mul_le_mul_right _ hcp
    refine .inl ⟨_, _, run_append hop hcal ha1 ha2 hrun, w.heap.size, c'.size, ((Below.refl _ w).drew).alloc (Nat.le_refl _) _, Nat.le_refl _, lt_alloc_drew w _, ?_, fun I' φ' id hid => ?_⟩
    · refine ⟨c', el, (0, 0), heap_alloc_new w.drew _, rfl, hlen, fun j _ hj => by simp at hj, fun j av v' ha hv' => ?_⟩
      have hj : j < news.size := by have h5 := (List.getElem?_eq_some_iff.1 ha).1; have h4 := hnew.1; simp only [Array.length_toList] at h4; omega
      have hv2 : news.toList[j]? = some v' := by
        simp only [c', Array.empty_append] at hv'
        rw [Array.getElem?_append_left hj] at hv'
        simpa using hv'
      exact VRel.mono (w := w) (fun _ b hb => ⟨hb, Below.heap_alloc w.drew _ b hb.2.1⟩) (fun _ _ h => h) (hnew.2 j av v' ha hv2)
    · have : (0 + n.toNat) = n.toNat := by omega
      rw [this]
      exact .row id s 0 n.toNat _ _ 0 cp hid (by simp) hcp (by simp [hcs])

theorem ran_clear (hH : HRel C S base φ H w) (hE : ERel (Imm S base φ H w) φ w env a) {X : Operand} {x : Opnd} {t el : TypeId} {s : Nat} {z : List PV} {c : Call} (hx : opndP X = some x) (ht : P.underlying t = some (.slice el)) (hs : sizeP P el = some s) (hz : zerosP P el = some z) (h0 : 0 < s) (hzl : z.length = s)
    (hop : o.op = .call c) (hc : c.callee = .builtin .clear) (h1 : c.args.toList = [X]) (h2 : c.argTypes.toList = [t])
    (h : (x.eval env = .pure .nils ∧ e = .val (.tup [])) ∨ ∃ id off len ds, x.eval env = .row id s off len ∧ H.get id = .cells true ds ∧ off * s + len * s ≤ ds.length ∧
      e = .upd (.tup []) (H.set id (.cells true (ds.take (off * s) ++ (List.replicate len (z.map AV.pure)).flatten ++ ds.drop (off * s + len * s))))) :
    Ran C S base φ H w e ((execOp a.eval o).run P w) := by
  have hxv := opnd_rel hE hx
  have ha : c.args = #[X] := by rw [← h1]
  have hb : c.argTypes = #[t] := by rw [← h2]
  have hred : ∀ w', (Builtin.clear_ #[t] o.type #[a.eval X]).run P w = .ok (.tuple #[]) w' → (execOp a.eval o).run P w = .ok (.value (.tuple #[])) w' := fun w' h => by
    simp only [execOp, hop, resolve, hc, invoke, builtin, ha, hb, Sem.run_bind, Sem.run_pure, Result.andThen_ok, List.map_toArray, List.map_cons, List.map_nil, h]
  rcases h with ⟨e1, rfl⟩ | ⟨id, off, len, ds, e1, hg, hle, rfl⟩
  · rw [e1] at hxv
    refine ran_val (hred w ?_) (.tup [] #[] rfl fun i p v h => by simp at h)
    simp [Builtin.clear_, run_underlying' ht, hxv.pure_inv.nils_inv]
  · rw [e1] at hxv
    obtain ⟨b, n, cap, hid, hX, hcap, hfull⟩ := hxv.row_inv
    obtain ⟨v, hv, hcv, hsv⟩ := zeros_run (w := w) hz
    have hvs : v.cells.size = s := by rw [hs] at hsv; simpa using hsv.symm
    have hrow := zeroCells_rel (I := Imm S base φ H w) (φ := φ) (w := w) (n := len) hcv (by omega) (Builtin.zeroCells v.cells len) (by simp [Builtin.zeroCells, hzl, hvs]) (fun j hj => by
      have hj' : j < len * s := by rw [hzl] at hj; exact hj
      have hm : j % s < v.cells.size := by rw [hvs]; exact Nat.mod_lt _ h0
      simp only [Builtin.zeroCells, Array.getElem?_map, hvs, hzl]
      rw [Array.getElem?_range, if_pos hj']
      simp only [Option.map_some]
      rw [getElem!_pos v.cells (j % s) hm, Array.getElem?_eq_getElem hm])
    have hlen : ((List.replicate len (z.map AV.pure)).flatten).length = len * s := by simp [hzl]
    have hone : ((List.replicate len (z.map AV.pure)).flatten).all AV.one = true := by
      rw [List.all_eq_true]
      intro p hp
      obtain ⟨l, hl, hp⟩ := List.mem_flatten.1 hp
      have := List.eq_of_mem_replicate hl
      subst this
      obtain ⟨q, hq, rfl⟩ := List.mem_map.1 hp
      obtain ⟨i, hi⟩ := List.getElem?_of_mem hq
      -- constants of one cell
      have key : ∀ (vs : List Value) (ps : List PV), constL vs = some ps → ∀ q ∈ ps, (AV.pure q).one = true := by
        intro vs
        induction vs with
        | nil => intro ps h; simp [constL] at h; subst h; simp
        | cons u us ih =>
          intro ps h
          unfold constL at h
          split at h
          · simp at h
          · rename_i p hp
            split at h
            · simp at h
            · rename_i qs hqs
              simp at h
              subst h
              intro q hq
              rcases List.mem_cons.1 hq with rfl | hq
              · unfold constS at hp
                split at hp <;> simp at hp <;> subst hp <;> rfl
              · exact ih qs hqs q hq
      exact key _ _ hcv q hq
    obtain ⟨w', g1, g2, g3⟩ := store_rel (P := P) (off := off * s) hH hid hg hrow hone (by rw [hlen]; exact hle)
    rw [hlen] at g2 g3
    refine .inl ⟨.tuple #[], w', hred w' ?_, φ, g2, g3, .tup [] #[] rfl fun i p v h => by simp at h⟩
    simp only [Builtin.clear_, List.getElem?_toArray, List.getElem?_cons_zero, Sem.run_bind, run_underlying' ht, Result.andThen_ok, hX]
    cases len with
    | zero =>
      have hnil : (Builtin.zeroCells v.cells 0).toList = [] := by simp [Builtin.zeroCells]
      rw [hnil] at g1
      simp only [storeCells] at g1
      simp at g1
      subst g1
      simp
    | succ k => simp only [Sem.run_bind, hv, Result.andThen_ok, g1, Sem.run_pure]

theorem cellsEq_append (xs ys : List AV) (k : List Nat) : ∀ l : List Nat, cellsEq xs ys (l ++ k) = match cellsEq xs ys l with
    | some true => cellsEq xs ys k
    | r => r
  | [] => by simp [cellsEq]
  | i :: l => by
    simp only [List.cons_append, cellsEq]
    split
    · rename_i p a q b _ _
      split
      · split
        · rw [cellsEq_append xs ys k l]
        · rfl
      · rfl
    · rfl

/-- The value of a type at a place of a row of cells. -/
def ValAt (P : Program) (I : Bool → Nat → Prop) (φ : Phi) (w : World) (t : TypeId) (at_ : Nat) (fx : List AV) (v : Value) : Prop :=
  ∃ s g, sizeP P t = some s ∧ aggP P t = some g ∧ at_ + s ≤ fx.length ∧
    if g then ∃ vs : Array Value, v = .agg vs ∧ VRels I φ w ((fx.drop at_).take s) vs.toList else s = 1 ∧ ∃ c, fx[at_]? = some c ∧ VRel I φ w c v

theorem part_at {t ft : TypeId} {s sf off at_ : Nat} {g : Bool} {fx : List AV} {vs : Array Value} (hs : sizeP P ft = some sf) (hg : aggP P ft = some g) (h1 : g = false → sf = 1) (hle : off + sf ≤ s) (hfx : at_ + s ≤ fx.length)
    (hr : VRels I φ w ((fx.drop at_).take s) vs.toList) : ∃ v, (part ft vs off).run P w = .ok v w ∧ ValAt P I φ w ft (at_ + off) fx v := by
  have hlen : vs.size = s := by have := hr.1; simp at this; omega
  simp only [part, Sem.run_bind, run_isAgg' hg, Result.andThen_ok]
  cases g with
  | true =>
    simp only [if_true, Sem.run_bind, run_sizeOf' hs, Result.andThen_ok, Sem.run_pure]
    refine ⟨_, rfl, sf, true, hs, hg, by omega, ?_⟩
    simp only [if_true]
    refine ⟨_, rfl, ?_⟩
    have := hr.sub off sf
    have e : (((fx.drop at_).take s).drop off).take sf = (fx.drop (at_ + off)).take sf := by
      rw [List.drop_take, List.take_take, List.drop_drop]
      congr 1
      omega
    rwa [e] at this
  | false =>
    have h1' := h1 rfl
    subst h1'
    have hlt : off < vs.size := by omega
    refine ⟨vs[off], by simp [Array.getElem?_eq_getElem hlt], 1, false, hs, hg, by omega, ?_⟩
    simp only [Bool.false_eq_true, if_false]
    have hc : fx[at_ + off]? = some (fx[at_ + off]'(by omega)) := List.getElem?_eq_getElem (by omega)
    refine ⟨trivial, _, hc, hr.2 off _ _ ?_ (by simp [Array.getElem?_eq_getElem hlt])⟩
    rw [List.getElem?_take_of_lt (by omega), List.getElem?_drop, hc]

theorem eq_run : ∀ (d : Nat) (t : TypeId) (at_ : Nat) (ls : List Nat) (fx fy : List AV) (b : Bool), leavesP P d t at_ = some ls → cellsEq fx fy ls = some b → ∀ D, d ≤ D → ∀ (vx vy : Value), ValAt P I φ w t at_ fx vx → ValAt P I φ w t at_ fy vy →
    (Op.equalIn D t vx vy).run P w = .ok b w := by
  intro d
  induction d with
  | zero => intro t at_ ls fx fy b h; simp [leavesP] at h
  | succ d ih =>
    intro t at_ ls fx fy b h hc D hD vx vy hx hy
    obtain ⟨D, rfl⟩ : ∃ D', D = D' + 1 := ⟨D - 1, by omega⟩
    unfold leavesP at h
    split at h
    · rename_i k hu
      simp at h
      subst h
      obtain ⟨s, g, q1, q2, q3, q4⟩ := hx
      obtain ⟨s', g', p1, p2, p3, p4⟩ := hy
      have hg : g = false := by simp [aggP, hu] at q2; exact q2
      have hg' : g' = false := by simp [aggP, hu] at p2; exact p2
      subst hg; subst hg'
      simp only [Bool.false_eq_true, if_false] at q4 p4
      obtain ⟨_, c, q5, q6⟩ := q4
      obtain ⟨_, c', p5, p6⟩ := p4
      simp only [cellsEq, q5, p5] at hc
      split at hc
      · rename_i k1 a1 k2 a2 e1 e2
        simp at e1 e2
        subst e1; subst e2
        have f1 := q6.int_inv
        have f2 := p6.int_inv
        subst f1; subst f2
        split at hc
        · rename_i hk
          subst hk
          simp only [Op.equalIn, Sem.run_bind, run_underlying' hu, Result.andThen_ok, if_true, Sem.run_pure]
          by_cases hab : a1 = a2
          · subst hab; simp at hc; subst hc; simp
          · have : (a1 == a2) = false := by simpa using hab
            rw [this] at hc ⊢
            simp at hc
            subst hc
            rfl
        · simp at hc
      · simp at hc
    · rename_i fs hu
      split at h
      · simp at h
      · rename_i hst
        split at h
        · rename_i s hs
          obtain ⟨s1, g, q1, q2, q3, q4⟩ := hx
          obtain ⟨s2, g', p1, p2, p3, p4⟩ := hy
          have hg : g = true := by simp [aggP, hu] at q2; exact q2
          have hg' : g' = true := by simp [aggP, hu] at p2; exact p2
          subst hg; subst hg'
          have es1 : s1 = s := by rw [hs] at q1; simpa using q1.symm
          have es2 : s2 = s := by rw [hs] at p1; simpa using p1.symm
          obtain ⟨s0, hs0⟩ : ∃ s0, s0 = s := ⟨s, rfl⟩
          rw [← hs0] at es1 es2 h
          rw [es1] at q3 q4
          rw [es2] at p3 p4
          simp only [if_true] at q4 p4
          obtain ⟨xs, rfl, hxs⟩ := q4
          obtain ⟨ys, rfl, hys⟩ := p4
          have hst' : P.stoodInHeld t = false := by simp at hst; exact hst.1
          simp only [Op.equalIn, Sem.run_bind, run_underlying' hu, Result.andThen_ok, run_program, hst', Bool.false_eq_true, if_false]
          -- the loop over the fields
          have loop : ∀ (l : List Field) (ls : List Nat) (b : Bool), leavesL P (leavesP P d) s0 at_ l = some ls → cellsEq fx fy ls = some b →
              (forIn l ((none, ()) : Option Bool × Unit) (fun f __s =>
                if f.name ≠ "_" then do
                  let __do_lift ← part f.type xs f.offset
                  let __do_lift_1 ← part f.type ys f.offset
                  let __do_lift ← Op.equalIn D f.type __do_lift __do_lift_1
                  if (!__do_lift) = true then pure (ForInStep.done (some false, ()))
                    else pure (ForInStep.yield (none, ()))
                else pure (ForInStep.yield (none, ()))) : Sem (Option Bool × Unit)).run P w = .ok (if b then none else some false, ()) w := by
            intro l
            induction l with
            | nil => intro ls b h hc; simp [leavesL] at h; subst h; simp [cellsEq] at hc; subst hc; simp
            | cons f l ihl =>
              intro ls b h hc
              unfold leavesL at h
              split at h
              · simp at h
              · rename_i hname
                split at h
                · rename_i sf g l1 ls2 e1 e2 e3 e4
                  split at h
                  · rename_i hcond
                    simp at h
                    subst h
                    rw [cellsEq_append] at hc
                    obtain ⟨v1, r1, r2⟩ := part_at (t := t) e1 e2 hcond.2 hcond.1 q3 hxs
                    obtain ⟨v2, r3, r4⟩ := part_at (t := t) e1 e2 hcond.2 hcond.1 p3 hys
                    rw [List.forIn_cons, if_pos hname]
                    cases hb : cellsEq fx fy l1 with
                    | none => rw [hb] at hc; simp at hc
                    | some b1 =>
                      have := ih _ _ _ _ _ _ e3 hb D (by omega) _ _ r2 r4
                      rw [hb] at hc
                      simp only [Sem.run_bind, r1, r3, this, Result.andThen_ok]
                      cases b1 with
                      | true =>
                        simp only at hc
                        simp only [Bool.not_true, Bool.false_eq_true, if_false, Sem.run_pure, Result.andThen_ok]
                        exact ihl _ _ e4 hc
                      | false =>
                        simp at hc
                        subst hc
                        simp
                  · simp at h
                · simp at h
          have := loop fs.toList ls b h hc
          rw [← Array.forIn_toList]
          erw [this]
          cases b <;> simp
        · simp at h
    · simp at h

theorem ran_aggEq (hE : ERel (Imm S base φ H w) φ w env a) {X Y : Operand} {x y : Opnd} {op : BinOp} {t t' : TypeId} {s : Nat} {ls : List Nat} {b : Bool} {fs : Array Field} (hx : opndP X = some x) (hy : opndP Y = some y) (hu : P.underlying t = some (.struct fs)) (hls : leavesP P 8 t 0 = some ls) (hs : sizeP P t = some s)
    (hop : o.op = .binOp op t X Y t') (hopk : op = .eql ∨ op = .neq) (hax : (∃ cs, x.eval env = .agg cs) ∨ ∃ ps, x.eval env = .pure (.agg ps)) (hay : (∃ cs, y.eval env = .agg cs) ∨ ∃ ps, y.eval env = .pure (.agg ps))
    (hlx : (x.eval env).cells.length = s) (hly : (y.eval env).cells.length = s) (hc : cellsEq (x.eval env).cells (y.eval env).cells ls = some b) :
    Ran C S base φ H w (.val (.pure (.bool (b != (op == .neq))))) ((execOp a.eval o).run P w) := by
  have aux : ∀ {Z : Operand} {z : Opnd}, opndP Z = some z → ((∃ cs, z.eval env = .agg cs) ∨ ∃ ps, z.eval env = .pure (.agg ps)) → (z.eval env).cells.length = s → ∃ vs, a.eval Z = .agg vs ∧ ValAt P (Imm S base φ H w) φ w t 0 (z.eval env).cells (.agg vs) := by
    intro Z z hz haz hlz
    have hv := opnd_rel hE hz
    have hu' : z.eval env ≠ .undef := by rcases haz with ⟨cs, e⟩ | ⟨ps, e⟩ <;> rw [e] <;> simp
    have hcs := hv.cells hu'
    have hX : ∃ vs, a.eval Z = .agg vs := by
      rcases haz with ⟨cs, e⟩ | ⟨ps, e⟩ <;> rw [e] at hv
      · exact hv.agg_inv
      · exact hv.pure_inv.agg_inv
    obtain ⟨vs, hX⟩ := hX
    rw [hX] at hcs
    refine ⟨vs, hX, s, true, hs, by simp [aggP, hu], by omega, ?_⟩
    simp only [if_true]
    refine ⟨vs, rfl, ?_⟩
    rw [List.drop_zero, List.take_of_length_le (by omega)]
    exact hcs
  obtain ⟨vs, e1, r1⟩ := aux hx hax hlx
  obtain ⟨us, e2, r2⟩ := aux hy hay hly
  have heq := eq_run 8 t 0 ls _ _ b hls hc 10000 (by decide) _ _ r1 r2
  have hguard : P.eqGuardType P.depth t = false := by
    unfold leavesP at hls
    rw [hu] at hls
    simp only at hls
    split at hls
    · simp at hls
    · rename_i h; simp at h; exact h.2
  have hg : (eqGuard op t X Y (a.eval X) (a.eval Y)).run P w = .ok () w := by
    rw [e1, e2]
    rcases hopk with rfl | rfl <;> simp [eqGuard, hguard]
  refine ran_val (v := .bool (b != (op == .neq))) ?_ (.pure _ _ (.bool _))
  rcases hopk with rfl | rfl
  · simp only [execOp, hop, Sem.run_bind, hg, Result.andThen_ok]
    rw [e1, e2]
    simp [binOp, Op.equal, Op.maxDepth, heq]
    cases b <;> rfl
  · simp only [execOp, hop, Sem.run_bind, hg, Result.andThen_ok]
    rw [e1, e2]
    simp [binOp, Op.equal, Op.maxDepth, heq]
    try (cases b <;> rfl)
end
end Go.Proofs.YtjjkgamklbgnlaaGreat.Vm
