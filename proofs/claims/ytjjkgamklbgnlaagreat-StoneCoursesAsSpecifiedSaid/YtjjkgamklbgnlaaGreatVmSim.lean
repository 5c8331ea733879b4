/- What single operations of the machine of values come to, as rules for simp. -/
import Derived.Test.YtjjkgamklbgnlaaGreatVmWp
namespace Go.Proofs.YtjjkgamklbgnlaaGreat.Vm
open Go

@[simp] theorem wpIf_true {A B : Prop} {u} : wpIf true A B u ↔ A := Iff.rfl
@[simp] theorem wpIf_false {A B : Prop} {u} : wpIf false A B u ↔ B := by simp [wpIf]
theorem wpIf_intro {c : Bool} {A B : Prop} {u} (h1 : c = true → A) (h2 : c = false → B) : wpIf c A B u := by
  cases c with
  | true => exact h1 rfl
  | false => rw [wpIf_false]; exact h2 rfl
@[simp] theorem wpIf_not {c : Bool} {A B : Prop} {u} : wpIf (!c) A B u ↔ wpIf c B A .mk := by cases c <;> simp
@[simp] theorem wpIf_and {a b : Bool} {A B : Prop} {u} : wpIf (a && b) A B u ↔ wpIf a (wpIf b A B .mk) B .mk := by cases a <;> simp
@[simp] theorem wpIf_or {a b : Bool} {A B : Prop} {u} : wpIf (a || b) A B u ↔ wpIf a A (wpIf b A B .mk) .mk := by cases a <;> simp
/-- Each way with what is known of it, twice: as it stands, and to be simplified. -/
theorem wpIf_two {c : Bool} {A B : Prop} {u} (h1 : c = true → c = true → A) (h2 : c = false → c = false → B) : wpIf c A B u :=
  wpIf_intro (fun h => h1 h h) fun h => h2 h h
@[simp] theorem wpG_tup {b : Bool} {A B : Prop} {u} : wpG b (.tup []) A B u ↔ B := Iff.rfl
@[simp] theorem wpG_true {c : Bool} {A B : Prop} {u} : wpG true (.pure (.bool c)) A B u ↔ wpIf c A B .mk := by cases c <;> simp [wpG]
@[simp] theorem wpG_false {c : Bool} {A B : Prop} {u} : wpG false (.pure (.bool c)) A B u ↔ wpIf c B A .mk := by cases c <;> simp [wpG]
@[simp] theorem wpC_if {c : Bool} {A B : Prop} {u} : wpC (.pure (.bool c)) A B u ↔ wpIf c A B .mk := Iff.rfl
attribute [simp] seqQ_normal seqQ_ret seqQ_exit blockQ_normal blockQ_ret blockQ_same blockQ_other loopQ_normal loopQ_ret loopQ_exit
attribute [simp] wpE_val wpE_new wpE_upd wpO_nil wpO_cons wpO_guard upd_apply putAt_some putAt_none eval_tmp eval_const wp_skip wp_exit wp_ret wp_region wp_seq wp_cond wp_block wpR_ret wpR_normal

section
variable {cl : Callee} {env : Env} {H : Heap}

/-! ### Numbers -/
@[simp] theorem vbin_lss (d : EqK) (k : IntKind) (a b : Int) : vbin .lss d (.pure (.int k a)) (.pure (.int k b)) = some (.pure (.bool (decide (a < b)))) := by simp [vbin, intBin, intCmpB]
@[simp] theorem vbin_leq (d : EqK) (k : IntKind) (a b : Int) : vbin .leq d (.pure (.int k a)) (.pure (.int k b)) = some (.pure (.bool (decide (a ≤ b)))) := by simp [vbin, intBin, intCmpB]
@[simp] theorem vbin_gtr (d : EqK) (k : IntKind) (a b : Int) : vbin .gtr d (.pure (.int k a)) (.pure (.int k b)) = some (.pure (.bool (decide (b < a)))) := by simp [vbin, intBin, intCmpB]
@[simp] theorem vbin_geq (d : EqK) (k : IntKind) (a b : Int) : vbin .geq d (.pure (.int k a)) (.pure (.int k b)) = some (.pure (.bool (decide (b ≤ a)))) := by simp [vbin, intBin, intCmpB]
@[simp] theorem vbin_eql (d : EqK) (k : IntKind) (a b : Int) : vbin .eql d (.pure (.int k a)) (.pure (.int k b)) = some (.pure (.bool (decide (a = b)))) := by
  simp [vbin, intBin, intCmpB]
  by_cases h : a = b <;> simp [h]
@[simp] theorem vbin_neq (d : EqK) (k : IntKind) (a b : Int) : vbin .neq d (.pure (.int k a)) (.pure (.int k b)) = some (.pure (.bool (!decide (a = b)))) := by
  simp [vbin, intBin, intCmpB]
  by_cases h : a = b <;> simp [h]
@[simp] theorem vbin_add (d : EqK) (k : IntKind) (a b : Int) : vbin .add d (.pure (.int k a)) (.pure (.int k b)) = some (.pure (.int k (k.wrap (a + b)))) := by simp [vbin, intBin]
@[simp] theorem vbin_sub (d : EqK) (k : IntKind) (a b : Int) : vbin .sub d (.pure (.int k a)) (.pure (.int k b)) = some (.pure (.int k (k.wrap (a - b)))) := by simp [vbin, intBin]
@[simp] theorem vbin_mul (d : EqK) (k : IntKind) (a b : Int) : vbin .mul d (.pure (.int k a)) (.pure (.int k b)) = some (.pure (.int k (k.wrap (a * b)))) := by simp [vbin, intBin]
@[simp] theorem vun_not (b : Bool) : vun .not (.pure (.bool b)) = some (.pure (.bool (!b))) := rfl
@[simp] theorem vun_neg (k : IntKind) (n : Int) : vun .neg (.pure (.int k n)) = some (.pure (.int k (k.wrap (0 - n)))) := rfl

theorem wrap64 {n : Int} (h : -9223372036854775808 ≤ n) (h' : n < 9223372036854775808) : IntKind.i64.wrap n = n := wrap_i64 h h'

/-! ### Steps -/
@[simp] theorem st_mov (x : Opnd) : step cl env H (.mov x) = some (.val (x.eval env)) := rfl
@[simp] theorem st_bin (op : BinOp) (d : EqK) (x y : Opnd) : step cl env H (.bin op d x y) = (vbin op d (x.eval env) (y.eval env)).map .val := rfl
@[simp] theorem st_un (op : UnOp) (x : Opnd) : step cl env H (.un op x) = (vun op (x.eval env)).map .val := rfl
def pickV (c a b : AV) : Option Eff := match c with
  | .pure (.bool t) => some (.val (if t then a else b))
  | _ => none
@[simp] theorem st_pick (c a b : Opnd) : step cl env H (.pick c a b) = pickV (c.eval env) (a.eval env) (b.eval env) := by
  simp only [step, pickV]; rfl
@[simp] theorem pickV_bool (t : Bool) (a b : AV) : pickV (.pure (.bool t)) a b = some (.val (if t = true then a else b)) := rfl
def lenStrV (v : AV) : Option Eff := match v with
  | .pure (.str s) => some (.val (.pure (.int .i64 s.size)))
  | _ => none
@[simp] theorem st_lenStr (x : Opnd) : step cl env H (.lenStr x) = lenStrV (x.eval env) := rfl
@[simp] theorem lenStrV_str (s : ByteArray) : lenStrV (.pure (.str s)) = some (.val (.pure (.int .i64 s.size))) := rfl
def lenSlV (v : AV) : Option Eff := match v with
  | .pure .nils => some (.val (.pure (.int .i64 0)))
  | .pure (.slice _ _ es) => some (.val (.pure (.int .i64 es.length)))
  | .row _ _ _ n => some (.val (.pure (.int .i64 n)))
  | _ => none
@[simp] theorem st_lenSl (x : Opnd) : step cl env H (.lenSl x) = lenSlV (x.eval env) := rfl
@[simp] theorem lenSlV_nil : lenSlV (.pure .nils) = some (.val (.pure (.int .i64 0))) := rfl
@[simp] theorem lenSlV_pure (h : Bool) (sz : Nat) (es : List (List PV)) : lenSlV (.pure (.slice h sz es)) = some (.val (.pure (.int .i64 es.length))) := rfl
@[simp] theorem lenSlV_row (i sz o n : Nat) : lenSlV (.row i sz o n) = some (.val (.pure (.int .i64 n))) := rfl
def toIntV (k : IntKind) (v : AV) : Option Eff := match v with
  | .pure (.int _ n) => some (.val (.pure (.int k (k.wrap n))))
  | _ => none
@[simp] theorem st_toInt (k : IntKind) (x : Opnd) : step cl env H (.toInt k x) = toIntV k (x.eval env) := rfl
@[simp] theorem toIntV_int (k k' : IntKind) (n : Int) : toIntV k (.pure (.int k' n)) = some (.val (.pure (.int k (k.wrap n)))) := rfl
@[simp] theorem st_call (f : Opnd) (args : List Opnd) : step cl env H (.call f args) = doCall cl H (f.eval env) (args.map (·.eval env)) := rfl
@[simp] theorem st_load (g : Bool) (size : Nat) (x : Opnd) : step cl env H (.load g size x) = (loadCells H size (x.eval env)).bind fun cs => (ofCells g cs).map .val := by
  simp only [step]
  cases loadCells H size (x.eval env) <;> rfl
def addrV (sz : Nat) (v i : AV) : Option Eff := match i with
  | .pure (.int _ n) => if 0 ≤ n then match v with
        | .pure (.slice k s es) => if s = sz then match es[n.toNat]? with
          | some e => some (.val (.pure (.ptr k e 0)))
          | none => none else none
        | .row id s off len => if s = sz ∧ n < len then some (.val (.box id (off * sz + n.toNat * sz))) else none
        | _ => none
      else none
  | _ => none
@[simp] theorem st_indexAddr (sz : Nat) (x i : Opnd) : step cl env H (.indexAddr sz none x i) = addrV sz (x.eval env) (i.eval env) := by
  simp only [step, addrV]; rfl
@[simp] theorem addrV_row {k : IntKind} {n : Nat} {id sz off len : Nat} (h : n < len) : addrV sz (.row id sz off len) (.pure (.int k n)) = some (.val (.box id (off * sz + n * sz))) := by
  simp only [addrV]
  rw [if_pos (by omega)]
  have : (n : Int) < len := by omega
  simp [this]
theorem addrV_pure {k : IntKind} {n : Nat} {hot : Bool} {sz : Nat} {es : List (List PV)} {e : List PV} (h : es[n]? = some e) : addrV sz (.pure (.slice hot sz es)) (.pure (.int k n)) = some (.val (.pure (.ptr hot e 0))) := by
  simp only [addrV]
  rw [if_pos (by omega)]
  simp [h]
def byteV (v i : AV) : Option Eff := match v, i with
  | .pure (.str s), .pure (.int _ n) => if 0 ≤ n then match s[n.toNat]? with
      | some b => some (.val (.pure (.int .u8 b.toNat)))
      | none => none else none
  | _, _ => none
@[simp] theorem st_byteAt (x i : Opnd) : step cl env H (.byteAt x i) = byteV (x.eval env) (i.eval env) := by
  simp only [step, byteV]; rfl
def rowB (l : List UInt8) : List AV := l.map fun b => .pure (.int .u8 b.toNat)
@[simp] theorem rowB_length (l : List UInt8) : (rowB l).length = l.length := by simp [rowB]
/-- What is left of an object after a write. -/
def putIn (o : AObj) (size off : Nat) (vs : List AV) : Option AObj := match o with
  | .cells true cs => if vs.length = size ∧ size ≠ 0 ∧ vs.all AV.one = true ∧ off + size ≤ cs.length then some (.cells true (cs.take off ++ vs ++ cs.drop (off + size))) else none
  | _ => none
def storeV (H : Heap) (size : Nat) (a : AV) (vs : List AV) : Option Eff := match a with
  | .box id off => (putIn (H.get id) size off vs).map fun o => .upd (.tup []) (H.set id o)
  | _ => none
@[simp] theorem st_store (size : Nat) (a x : Opnd) : step cl env H (.store size a x) = storeV H size (a.eval env) (x.eval env).cells := by
  simp only [step, storeV]
  cases a.eval env <;> try rfl
  rename_i id off
  simp only [putIn]
  cases H.get id <;> try rfl
  rename_i own cs
  cases own with
  | false => rfl
  | true =>
    simp only
    split <;> rfl
@[simp] theorem storeV_box (size id off : Nat) (vs : List AV) : storeV H size (.box id off) vs = (putIn (H.get id) size off vs).map fun o => .upd (.tup []) (H.set id o) := rfl
theorem rowB_append (l m : List UInt8) : rowB (l ++ m) = rowB l ++ rowB m := by simp [rowB]
@[simp] theorem putIn_rowB {l : List UInt8} {i : Nat} {c : UInt8} (h : i < l.length) : putIn (.cells true (rowB l)) 1 i [.pure (.int .u8 c.toNat)] = some (.cells true (rowB (l.set i c))) := by
  simp only [putIn]
  rw [if_pos ⟨rfl, by simp, by simp [AV.one, PV.one], by simp; omega⟩]
  simp only [rowB, ← List.map_take, ← List.map_drop]
  rw [List.set_eq_take_append_cons_drop, if_pos h]
  simp
def toStrIn (o : AObj) (off n : Nat) : Option Eff := match o with
  | .cells _ cs => if off + n ≤ cs.length then match ((cs.drop off).take n).mapM byteOf with
      | some bs => some (.val (.pure (.str ⟨bs.toArray⟩)))
      | none => none else none
  | _ => none
def toStrV (H : Heap) (v : AV) : Option Eff := match sliceCells H 1 v with
    | some (cs, _) => match cs.mapM byteOf with
      | some bs => some (.val (.pure (.str ⟨bs.toArray⟩)))
      | none => none
    | none => none
@[simp] theorem st_toStr (x : Opnd) : step cl env H (.toStr x) = toStrV H (x.eval env) := rfl
@[simp] theorem toStrV_row (id off n : Nat) : toStrV H (.row id 1 off n) = toStrIn (H.get id) off n := by
  simp only [toStrV, sliceCells, toStrIn, if_true]
  cases H.get id <;> try rfl
  simp only [Nat.mul_one]
  split
  · rename_i h; split at h
    · rename_i hc; rw [if_pos hc]; simp at h; obtain ⟨rfl, _⟩ := h; rfl
    · simp at h
  · rename_i h; split at h
    · simp at h
    · rename_i hc; rw [if_neg hc]
theorem mapM_rowB : ∀ (l : List UInt8), (rowB l).mapM byteOf = some l
  | [] => rfl
  | c :: l => by
    have := mapM_rowB l
    simp only [rowB] at this
    simp [rowB, byteOf, this]
@[simp] theorem toStrIn_rowB {own : Bool} {l : List UInt8} {n : Nat} (h : l.length = n) : toStrIn (.cells own (rowB l)) 0 n = some (.val (.pure (.str ⟨l.toArray⟩))) := by
  subst h
  simp only [toStrIn]
  rw [if_pos (by simp)]
  have : ((rowB l).drop 0).take l.length = rowB l := by rw [List.drop_zero]; exact List.take_of_length_le (by simp)
  rw [this, mapM_rowB]
@[simp] theorem toStrV_nil : toStrV H (.pure .nils) = some (.val (.pure (.str ⟨#[]⟩))) := rfl
@[simp] theorem st_extract (i : Nat) (x : Opnd) : step cl env H (.extract i x) = match x.eval env with
    | .pure (.tup vs) => match vs[i]? with
      | some v => some (.val (.pure v))
      | none => none
    | .tup vs => match vs[i]? with
      | some v => some (.val v)
      | none => none
    | _ => none := rfl
@[simp] theorem st_idle (i : Nat) (x : Opnd) : step cl env H (.idle i x) = match x.eval env with
    | .pure (.tup vs) => match vs[i]? with
      | some _ => some (.val .undef)
      | none => none
    | .tup vs => match vs[i]? with
      | some _ => some (.val .undef)
      | none => none
    | _ => none := rfl
@[simp] theorem st_boxF (x : Opnd) : step cl env H (.boxF x) = match puresL (x.eval env).cells with
    | some ps => some (.val (.pure (.ptr false ps 0)))
    | none => none := rfl
@[simp] theorem st_fieldAddr (off : Nat) (x : Opnd) : step cl env H (.fieldAddr off x) = match x.eval env with
    | .pure (.ptr k cs o) => some (.val (.pure (.ptr k cs (o + off))))
    | .box id o => some (.val (.box id (o + off)))
    | _ => none := rfl
@[simp] theorem st_alloc (z : List PV) : step cl env H (.alloc z) = some (.new (.cells true (z.map .pure)) fun id => .box id 0) := rfl
@[simp] theorem st_box (x : Opnd) : step cl env H (.box x) = some (.new (.cells true (x.eval env).cells) fun id => .box id 0) := rfl
@[simp] theorem st_build (z : List PV) (ps : List (Nat × Nat × Opnd)) : step cl env H (.build z ps) = (fill (z.map .pure) (evalParts env ps)).map fun cs => .val (aggV cs) := by
  simp only [step]
  cases fill (z.map .pure) (evalParts env ps) <;> rfl
@[simp] theorem evalParts_nil : evalParts env [] = [] := rfl
@[simp] theorem evalParts_cons (o s : Nat) (x : Opnd) (ps : List (Nat × Nat × Opnd)) : evalParts env ((o, s, x) :: ps) = (o, s, x.eval env) :: evalParts env ps := rfl
@[simp] theorem fill_nil (cs : List AV) : fill cs [] = some cs := rfl
@[simp] theorem fill_cons (cs : List AV) (off size : Nat) (v : AV) (rest : List (Nat × Nat × AV)) : fill cs ((off, size, v) :: rest) = if v.cells.length = size ∧ size ≠ 0 ∧ off + size ≤ cs.length then fill (cs.take off ++ v.cells ++ cs.drop (off + size)) rest else none := by
  simp only [fill]
@[simp] theorem st_buildSlice (sz : Nat) (z : List PV) (ps : List (Nat × Nat × Opnd)) : step cl env H (.buildSlice sz z ps) = (fill (z.map .pure) (evalParts env ps)).map fun cs => .new (.cells true cs) fun id => .row id sz 0 (if sz = 0 then 0 else cs.length / sz) := by
  simp only [step]
  cases fill (z.map .pure) (evalParts env ps) <;> rfl
@[simp] theorem st_makeFunc (f : Nat) (caps : List Opnd) : step cl env H (.makeFunc f caps) = some (.val (funcV f (caps.map (·.eval env)))) := rfl
@[simp] theorem st_lenArr (n : Nat) : step cl env H (.lenArr n) = some (.val (.pure (.int .i64 n))) := rfl
@[simp] theorem st_append (sz b : Nat) (x y : Opnd) : step cl env H (.append sz b x y) = doAppend H sz b (x.eval env) (y.eval env) := rfl
def minmaxV (mx : Bool) (vs : List AV) : Option Eff := match vs with
  | .pure (.int k a) :: rest => (minmaxL mx k a rest).map fun n => .val (.pure (.int k n))
  | _ => none
@[simp] theorem st_minmax (mx : Bool) (xs : List Opnd) : step cl env H (.minmax mx xs) = minmaxV mx (xs.map fun x => x.eval env) := rfl
@[simp] theorem max_two (k k' : IntKind) (a b : Int) : minmaxV true [.pure (.int k a), .pure (.int k' b)] = some (.val (.pure (.int k (max a b)))) := by
  simp only [minmaxV, minmaxL, Option.map_some]
  congr 4
  simp only [if_true]
  split <;> omega
@[simp] theorem min_two (k k' : IntKind) (a b : Int) : minmaxV false [.pure (.int k a), .pure (.int k' b)] = some (.val (.pure (.int k (min a b)))) := by
  simp only [minmaxV, minmaxL, Option.map_some]
  congr 4
  simp only [Bool.false_eq_true, if_false]
  split <;> omega
@[simp] theorem vbin_eqlB (a b : Bool) : vbin .eql .bool (.pure (.bool a)) (.pure (.bool b)) = some (.pure (.bool (a == b))) := by
  simp [vbin, eqB, isNil]
@[simp] theorem vbin_neqB (a b : Bool) : vbin .neq .bool (.pure (.bool a)) (.pure (.bool b)) = some (.pure (.bool (!(a == b)))) := by
  simp [vbin, eqB, isNil]
theorem toList_mk (l : List UInt8) : (ByteArray.mk l.toArray).toList = l := by
  have main : ∀ (k i : Nat) (r : List UInt8), k = l.length - i → ByteArray.toList.loop (ByteArray.mk l.toArray) i r = r.reverse ++ l.drop i := by
    intro k
    induction k with
    | zero =>
      intro i r hk
      unfold ByteArray.toList.loop
      rw [if_neg (by simp [ByteArray.size]; omega), List.drop_eq_nil_of_le (by omega)]
      simp
    | succ k ih =>
      intro i r hk
      have hi : i < l.length := by omega
      unfold ByteArray.toList.loop
      rw [if_pos (by simpa [ByteArray.size] using hi), ih (i + 1) _ (by omega), List.drop_eq_getElem_cons hi]
      have : (ByteArray.mk l.toArray).get! i = l[i] := by
        simp [ByteArray.get!, hi]
      simp [this]
  have := main l.length 0 [] (by simp)
  simpa [ByteArray.toList] using this
@[simp] theorem vbin_eqlS (d : EqK) (a b : List UInt8) : vbin .eql d (.pure (.str ⟨a.toArray⟩)) (.pure (.str ⟨b.toArray⟩)) = some (.pure (.bool (decide (a = b)))) := by
  simp only [vbin, strBin, toList_mk, Option.map_some]
  congr 3
  by_cases h : a = b <;> simp [h]
@[simp] theorem puresL_nil : puresL [] = some [] := rfl
@[simp] theorem puresL_cons (p : PV) (vs : List AV) : puresL (.pure p :: vs) = (puresL vs).map (p :: ·) := rfl
theorem puresL_map : ∀ (ps : List PV), puresL (ps.map .pure) = some ps
  | [] => rfl
  | p :: ps => by simp [puresL_map ps]
@[simp] theorem cells_agg (ps : List PV) : AV.cells (.pure (.agg ps)) = ps.map .pure := rfl
@[simp] theorem cells_int (k : IntKind) (n : Int) : AV.cells (.pure (.int k n)) = [.pure (.int k n)] := rfl
@[simp] theorem cells_bool (b : Bool) : AV.cells (.pure (.bool b)) = [.pure (.bool b)] := rfl
@[simp] theorem cells_str (b : ByteArray) : AV.cells (.pure (.str b)) = [.pure (.str b)] := rfl
@[simp] theorem cells_nils : AV.cells (.pure .nils) = [.pure .nils] := rfl
@[simp] theorem cells_slice (h : Bool) (sz : Nat) (es : List (List PV)) : AV.cells (.pure (.slice h sz es)) = [.pure (.slice h sz es)] := rfl
@[simp] theorem cells_row (i sz o n : Nat) : AV.cells (.row i sz o n) = [.row i sz o n] := rfl
@[simp] theorem loadCells_ptr (size : Nat) (k : Bool) (cs : List PV) (off : Nat) : loadCells H size (.pure (.ptr k cs off)) = if off + size ≤ cs.length then some (((cs.drop off).take size).map .pure) else none := rfl
/-- What is loaded from an object of one's own. -/
def loadIn (o : AObj) (size off : Nat) : Option (List AV) := match o with
  | .cells _ cs => if off + size ≤ cs.length then some ((cs.drop off).take size) else none
  | _ => none
@[simp] theorem loadCells_own (size id off : Nat) : loadCells H size (.box id off) = loadIn (H.get id) size off := by
  simp only [loadCells, loadIn]; rfl
@[simp] theorem loadIn_rowB {own : Bool} {l : List UInt8} {i : Nat} (h : i < l.length) : loadIn (.cells own (rowB l)) 1 i = some [.pure (.int .u8 l[i].toNat)] := by
  simp only [loadIn]
  rw [if_pos (by simp; omega), rowB]
  rw [List.drop_eq_getElem_cons (by simpa using h)]
  simp
def bytesV (v : AV) : Option Eff := match v with
  | .pure (.str s) => some (.new (.cells true (s.data.toList.map fun b => .pure (.int .u8 b.toNat))) fun id => .row id 1 0 s.size)
  | _ => none
@[simp] theorem st_toBytes (x : Opnd) : step cl env H (.toBytes x) = bytesV (x.eval env) := rfl
@[simp] theorem bytesV_str (l : List UInt8) : bytesV (.pure (.str ⟨l.toArray⟩)) = some (.new (.cells true (rowB l)) fun id => .row id 1 0 l.length) := by
  simp [bytesV, rowB, ByteArray.size]
theorem loadCells_box {size id off : Nat} {own : Bool} {cs : List AV} (h : H.get id = .cells own cs) (hl : off + size ≤ cs.length) : loadCells H size (.box id off) = some ((cs.drop off).take size) := by
  simp only [loadCells, h, if_pos hl]
@[simp] theorem ofCells_agg (cs : List AV) : ofCells true cs = some (aggV cs) := rfl
@[simp] theorem aggV_map (ps : List PV) : aggV (ps.map .pure) = .pure (.agg ps) := by simp [aggV, puresL_map]
@[simp] theorem aggV_pures {cs : List AV} {ps : List PV} (h : puresL cs = some ps) : aggV cs = .pure (.agg ps) := by simp [aggV, h]
@[simp] theorem funcV_pures {f : Nat} {cs : List AV} {ps : List PV} (h : puresL cs = some ps) : funcV f cs = .pure (.func f ps) := by simp [funcV, h]
@[simp] theorem ofCells_one (c : AV) : ofCells false [c] = some c := rfl

/-! ### Results -/
@[simp] theorem results_one (t : Nat) : results env H [.tmp t] = some (env t) := rfl
@[simp] theorem results_two (t u : Nat) : results env H [.tmp t, .tmp u] = some (.tup [env t, env u]) := rfl
@[simp] theorem freeze_pure (h : Bool) (n : Nat) (p : PV) : freeze H h (n + 1) (.pure p) = some (p, []) := rfl
@[simp] theorem freeze12_pure (h : Bool) (p : PV) : freeze H h depthF (.pure p) = some (p, []) := rfl
@[simp] theorem freeze_tup (h : Bool) (n : Nat) (cs : List AV) : freeze H h (n + 1) (.tup cs) = (match freezeL (freeze H h n) cs with
      | some (ps, is) => some (.tup ps, is)
      | none => none) := rfl
@[simp] theorem freeze12_tup (h : Bool) (cs : List AV) : freeze H h depthF (.tup cs) = (match freezeL (freeze H h 11) cs with
      | some (ps, is) => some (.tup ps, is)
      | none => none) := rfl
theorem freezeL_pures (h : Bool) (n : Nat) : ∀ (ps : List PV), freezeL (freeze H h (n + 1)) (ps.map .pure) = some (ps, [])
  | [] => rfl
  | p :: ps => by simp [freezeL, freezeL_pures h n ps]
@[simp] theorem freezeL_nil (fr : AV → Option (PV × List Nat)) : freezeL fr [] = some ([], []) := rfl
@[simp] theorem freezeL_cons (fr : AV → Option (PV × List Nat)) (v : AV) (vs : List AV) : freezeL fr (v :: vs) = (match fr v with
    | none => none
    | some (p, is) => match freezeL fr vs with
      | none => none
      | some (ps, js) => some (p :: ps, is ++ js)) := by
  simp only [freezeL]; rfl

/-! ### The heap -/
@[simp] theorem nx_alloc (o : AObj) : (H.alloc o).nx = H.nx + 1 := by cases H; simp only [Heap.alloc]
@[simp] theorem nx_set (id : Nat) (o : AObj) : (H.set id o).nx = H.nx := by cases H; simp only [Heap.set]
@[simp] theorem get_set_own {id : Nat} {o : AObj} (h : id < H.nx) : (H.set id o).get id = o := get_set_same h
theorem nx_of_get {id : Nat} {own : Bool} {cs : List AV} (h : H.get id = .cells own cs) : id < H.nx := lt_of_get (by rw [h]; simp)
@[simp] theorem get_alloc_nx (o : AObj) : (H.alloc o).get H.nx = o := get_alloc_new
theorem get_alloc_lt {id : Nat} {o : AObj} (h : id < H.nx) : (H.alloc o).get id = H.get id := get_alloc_ne (by omega)

/-! ### Calls -/
/-- A function of data is called on data. -/
theorem call_pure {G : Prog} {n f : Nat} {ps : List PV} {r : PV} (hs : G.shared f = false) (h : callP G n f ps = some r) : doCall (calleeOf G n) H (.pure (.func f [])) (ps.map .pure) = some (.val (.pure r)) := by
  have h1 : freezeL (freeze H true depthF) (ps.map .pure) = some (ps, []) := freezeL_pures true 11 ps
  have h2 : (calleeOf G n).shared f = false := hs
  have h3 : (calleeOf G n).pure f ps = some r := h
  simp only [doCall, List.map_nil, List.append_nil, h2, Bool.false_eq_true, if_false, h1, h3, List.isEmpty_nil, Bool.true_or, if_true]
end
@[simp] theorem size_mk (l : List UInt8) : ByteArray.size ⟨l.toArray⟩ = l.length := by simp [ByteArray.size]
theorem getElem?_mk (l : List UInt8) (i : Nat) : (ByteArray.mk l.toArray)[i]? = l[i]? := by
  by_cases h : i < l.length
  · have h1 : i < (ByteArray.mk l.toArray).size := by rw [size_mk]; exact h
    rw [getElem?_pos (ByteArray.mk l.toArray) i h1, List.getElem?_eq_getElem h]
    rfl
  · have h1 : ¬ i < (ByteArray.mk l.toArray).size := by rw [size_mk]; exact h
    rw [getElem?_neg (ByteArray.mk l.toArray) i h1, List.getElem?_eq_none (by omega)]
@[simp] theorem byteV_at {k : IntKind} {n : Nat} {l : List UInt8} (h : n < l.length) : byteV (.pure (.str ⟨l.toArray⟩)) (.pure (.int k n)) = some (.val (.pure (.int .u8 l[n].toNat))) := by
  simp only [byteV]
  rw [if_pos (by omega)]
  simp only [Int.toNat_natCast, getElem?_mk, List.getElem?_eq_getElem h]
@[simp] theorem wrap_nat {n : Nat} (h : n < 9223372036854775807) : IntKind.i64.wrap ((n : Int) + 1) = ((n + 1 : Nat) : Int) := by
  rw [wrap64 (by omega) (by omega)]; simp
@[simp] theorem wrap_byte (c : UInt8) : IntKind.i64.wrap (c.toNat : Int) = c.toNat := wrap64 (by omega) (by have := c.toNat_lt; omega)
end Go.Proofs.YtjjkgamklbgnlaaGreat.Vm
