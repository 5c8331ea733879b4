/- Each operation of the machine does what the model's operation does: texts and bytes, make, clear, structs of numbers compared. -/
import Derived.Test.YtjjkgamklbgnlaaGreatVmOps5
namespace Go.Proofs.YtjjkgamklbgnlaaGreat.Vm
open Go Go.RowKit
set_option linter.unusedVariables false
set_option linter.unusedSimpArgs false

section
variable {C : Comp} {P : Program} {S : Bool → Nat → Prop} {base : Nat} {φ : Phi} {H : Heap} {w : World} {env : Env} {a : Act} {e : Eff} {o : Oper} {I : Bool → Nat → Prop}

theorem ran_convSame (hE : ERel (Imm S base φ H w) φ w env a) {X : Operand} {x : Opnd} {s t : TypeId} {b : ByteArray} (hx : opndP X = some x) (hs : P.underlying s = some .string) (ht : P.underlying t = some .string)
    (hop : o.op = .convert s t X) (hv : x.eval env = .pure (.str b)) : Ran C S base φ H w (.val (.pure (.str b))) ((execOp a.eval o).run P w) := by
  have h := opnd_rel hE hx
  rw [hv] at h
  refine ran_val (v := .string b) ?_ (.pure _ _ (.str _))
  simp only [execOp, hop, convert, Sem.run_bind, run_underlying' hs, run_underlying' ht, Result.andThen_ok, h.str_inv]
  rfl

theorem run_markStringish {b n : Nat} {e : TypeId} (h : w.shape? b = some (e, n)) : (markStringish ⟨b, 0, none⟩).run P w = .ok () (w.freeze ⟨b, n, none⟩ 1) := by
  simp [markStringish, h]

theorem ran_toBytes (hE : ERel (Imm S base φ H w) φ w env a) {X : Operand} {x : Opnd} {s t el : TypeId} {b : ByteArray} (hx : opndP X = some x) (hs : P.underlying s = some .string) (ht : P.underlying t = some (.slice el)) (he : P.underlying el = some (.int .u8)) (hsz : sizeP P el = some 1)
    (hop : o.op = .convert s t X) (hv : x.eval env = .pure (.str b)) :
    Ran C S base φ H w (.new (.cells true (b.data.toList.map fun b => .pure (.int .u8 b.toNat))) fun id => .row id 1 0 b.size) ((execOp a.eval o).run P w) := by
  have h := opnd_rel hE hx
  rw [hv] at h
  let cap := (Question.appendCap b.size 0 el).cut (w.tape w.drawn (.appendCap b.size 0 el))
  have hcap : b.size ≤ cap := by show b.size ≤ b.size + _; omega
  let c : Array Value := (b.data.map fun b => .int .u8 b.toNat) ++ Array.replicate (cap - b.size) (.int .u8 0)
  have hc : c.size = cap := by simp only [c, Array.size_append, Array.size_map, Array.size_replicate]; have : b.data.size = b.size := rfl; omega
  have hw : ((w.drew.alloc (.cells c el)).freeze ⟨w.heap.size, c.size, none⟩ 1) = { w.drew with heap := w.heap.push (.cells c el (c.size, c.size + 1)) } := by
    simp only [World.freeze]
    rw [if_neg (by decide)]
    show World.mk _ _ _ _ _ = World.mk _ _ _ _ _
    congr 1
    show (w.heap.push (.cells c el)).modify w.heap.size _ = _
    apply Array.ext_getElem?
    intro i
    rw [Array.getElem?_modify]
    by_cases hi : i = w.heap.size
    · subst hi; simp
    · rw [if_neg (fun h => hi h.symm)]
      rw [Array.getElem?_push, Array.getElem?_push]
      simp [hi]
  have hbelow : Below w.heap.size w { w.drew with heap := w.heap.push (.cells c el (c.size, c.size + 1)) } :=
    ⟨rfl, rfl, rfl, by simp, fun k hk => by show (w.heap.push _)[k]? = _; rw [Array.getElem?_push, if_neg (by omega)]⟩
  refine .inl ⟨.slice (some ⟨w.heap.size, 0, none⟩) b.size cap, { w.drew with heap := w.heap.push (.cells c el (c.size, c.size + 1)) }, ?_, w.heap.size, c.size, hbelow, Nat.le_refl _, by simp, ?_, fun I' φ' id hid => ?_⟩
  · rw [← hw]
    have hforced : (Question.appendCap b.size 0 el).forced = false := rfl
    have hdrew : ({ w with drawn := w.drawn + 1 } : World) = w.drew := rfl
    have hshape : (w.drew.alloc (.cells c el)).shape? w.heap.size = some (el, c.size) := by
      simp only [World.shape?, heap_alloc_new w.drew (.cells c el)]
      have := heap_alloc_new w.drew (.cells c el)
      rw [show w.drew.heap.size = w.heap.size from rfl] at this
      rw [this]
    have hrun : (Conv.stringToBytes el b).run P w = .ok (.slice (some ⟨w.heap.size, 0, none⟩) b.size cap) ((w.drew.alloc (.cells c el)).freeze ⟨w.heap.size, c.size, none⟩ 1) := by
      unfold Conv.stringToBytes
      rw [Sem.run_bind, run_choose, if_neg (by rw [hforced]; simp)]
      simp only [Result.andThen_ok]
      rw [Sem.run_bind]
      show Result.andThen (.ok (⟨w.heap.size, 0, none⟩ : Addr) (w.drew.alloc (.cells c el))) _ = _
      rw [Result.andThen_ok, Sem.run_bind, run_markStringish hshape]
      rfl
    simp only [execOp, hop, convert, Sem.run_bind, run_underlying' hs, run_underlying' ht, run_underlying' he, Result.andThen_ok, h.str_inv, hrun, Sem.run_pure]
  · refine ⟨c, el, (c.size, c.size + 1), by simp, rfl, by simp [hc]; exact hcap, fun j hj hh => by omega, fun j av v ha hv => ?_⟩
    rw [List.getElem?_map] at ha
    cases hq : b.data.toList[j]? with
    | none => rw [hq] at ha; simp at ha
    | some q =>
      rw [hq] at ha
      simp at ha
      subst ha
      have hj : j < b.data.size := by have := (List.getElem?_eq_some_iff.1 hq).1; simpa using this
      have : c[j]? = some (.int .u8 q.toNat) := by
        simp only [c]
        rw [Array.getElem?_append_left (by simpa using hj), Array.getElem?_map]
        rw [Array.getElem?_toList] at hq
        rw [hq]
        rfl
      rw [this] at hv
      simp at hv
      subst hv
      exact .pure _ _ (.int _ _)
  · exact .row id 1 0 b.size _ _ 0 cap hid rfl hcap (by simp [hc])

theorem bytes_run : ∀ {cs : List AV} {vs : List Value} {bs : List UInt8} (s : ByteArray), VRels I φ w cs vs → cs.mapM byteOf = some bs →
    (forIn vs s fun c s => match c with
      | .int .u8 n => pure (ForInStep.yield (s.push (UInt8.ofNat n.toNat)))
      | x => do
        stuck "bytesToString: byte expected"
        pure (ForInStep.yield s) : Sem ByteArray).run P w = .ok ⟨s.data ++ bs.toArray⟩ w
  | [], vs, bs, s, hr, h => by
    rw [hr.nil_inv]
    simp at h
    subst h
    simp
  | c :: cs, vs, bs, s, hr, h => by
    obtain ⟨v, vs', rfl, h1, h2⟩ := hr.cons_inv
    rw [List.mapM_cons] at h
    cases hb : byteOf c with
    | none => simp [hb] at h
    | some b =>
      cases hbs : cs.mapM byteOf with
      | none => simp [hb, hbs] at h
      | some bs' =>
        simp [hb, hbs] at h
        subst h
        unfold byteOf at hb
        split at hb
        · rename_i n
          simp at hb
          subst hb
          have hv := h1.int_inv
          subst hv
          rw [List.forIn_cons]
          simp only [Sem.run_bind, Sem.run_pure, Result.andThen_ok]
          rw [bytes_run (s.push (UInt8.ofNat n.toNat)) h2 hbs]
          simp [ByteArray.push]
        · simp at hb

theorem ran_toStr (hH : HRel C S base φ H w) (hE : ERel (Imm S base φ H w) φ w env a) {X : Operand} {x : Opnd} {s t el : TypeId} {cs : List AV} {m : Nat} {bs : List UInt8} (hx : opndP X = some x) (hs : P.underlying s = some (.slice el)) (ht : P.underlying t = some .string) (he : P.underlying el = some (.int .u8))
    (hop : o.op = .convert s t X) (hc : sliceCells H 1 (x.eval env) = some (cs, m)) (hb : cs.mapM byteOf = some bs) : Ran C S base φ H w (.val (.pure (.str ⟨bs.toArray⟩))) ((execOp a.eval o).run P w) := by
  obtain ⟨ad, cap, vs, f1, f2, f3, f4, f5⟩ := sliceCells_rel hH (by decide) (opnd_rel hE hx) hc
  have hvl : vs.length = m := by have := f2.1; omega
  refine ran_val (v := .string ⟨bs.toArray⟩) ?_ (.pure _ _ (.str _))
  simp only [execOp, hop, convert, Sem.run_bind, run_underlying' hs, run_underlying' ht, run_underlying' he, Result.andThen_ok, f1, Conv.bytesToString]
  cases ad with
  | none =>
    have hm := f4 rfl
    subst hm
    have : vs = [] := List.eq_nil_of_length_eq_zero hvl
    subst this
    have hcs : cs = [] := List.eq_nil_of_length_eq_zero (by have := f2.1; simpa using this)
    subst hcs
    simp at hb
    subst hb
    rfl
  | some ad =>
    have hl := run_loadCells_list (P := P) (w := w) ad vs (f5 ad rfl)
    rw [hvl] at hl
    simp only [Sem.run_bind, hl, Result.andThen_ok]
    have := bytes_run (P := P) ByteArray.empty f2 hb
    simp only [List.forIn_toArray]
    erw [this]
    simp
end
end Go.Proofs.YtjjkgamklbgnlaaGreat.Vm
