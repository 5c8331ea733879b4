/- Each operation of the machine does what the model's operation does: texts and bytes, make, append, clear, the comparison of structs of numbers. -/
import Derived.Test.YtjjkgamklbgnlaaGreatVmOps4
import Derived.Laws.Append
namespace Go.Proofs.YtjjkgamklbgnlaaGreat.Vm
open Go Go.RowKit
set_option linter.unusedVariables false
set_option linter.unusedSimpArgs false

section
variable {C : Comp} {P : Program} {S : Bool → Nat → Prop} {base : Nat} {φ : Phi} {H : Heap} {w : World} {env : Env} {a : Act} {e : Eff} {o : Oper} {I : Bool → Nat → Prop}

theorem flatten_get {α : Type} {sz : Nat} : ∀ {es : List (List α)}, (∀ e ∈ es, e.length = sz) → ∀ {j : Nat} {p : α}, es.flatten[j]? = some p → 0 < sz → ∃ e, es[j / sz]? = some e ∧ e[j % sz]? = some p
  | [], _, j, p, h, _ => by simp at h
  | e :: es, hz, j, p, h, h0 => by
    rw [List.flatten_cons] at h
    have he := hz e (List.mem_cons_self ..)
    by_cases hj : j < sz
    · rw [List.getElem?_append_left (by omega)] at h
      exact ⟨e, by rw [Nat.div_eq_of_lt hj]; rfl, by rw [Nat.mod_eq_of_lt hj]; exact h⟩
    · rw [List.getElem?_append_right (by omega), he] at h
      obtain ⟨e', h1, h2⟩ := flatten_get (fun x hx => hz x (List.mem_cons_of_mem _ hx)) h h0
      refine ⟨e', ?_, ?_⟩
      · have : j / sz = (j - sz) / sz + 1 := by
          rw [show j = (j - sz) + sz by omega, Nat.add_div_right _ h0]
          simp
        rw [this]
        simpa using h1
      · rw [Nat.mod_eq_sub_mod (by omega)]
        exact h2
theorem flatten_length {α : Type} {sz : Nat} : ∀ {es : List (List α)}, (∀ e ∈ es, e.length = sz) → es.flatten.length = es.length * sz
  | [], _ => by simp
  | e :: es, hz => by
    rw [List.flatten_cons, List.length_append, hz e (List.mem_cons_self ..), flatten_length fun x hx => hz x (List.mem_cons_of_mem _ hx), List.length_cons, Nat.add_mul]
    omega

/-- The cells of a slice. -/
theorem sliceCells_rel (hH : HRel C S base φ H w) {sz m : Nat} {av : AV} {v : Value} {cs : List AV} (h0 : 0 < sz) (hv : VRel (Imm S base φ H w) φ w av v) (h : sliceCells H sz av = some (cs, m)) :
    ∃ ad cap vs, v = .slice ad m cap ∧ VRels (Imm S base φ H w) φ w cs vs ∧ cs.length = m * sz ∧ (ad = none → m = 0) ∧ ∀ a, ad = some a → ∀ (j : Nat) u, vs[j]? = some u → w.cell? (a.add j) = some u := by
  unfold sliceCells at h
  split at h
  · simp at h
    obtain ⟨rfl, rfl⟩ := h
    exact ⟨none, 0, [], hv.pure_inv.nils_inv, .nil, by simp, (fun _ => rfl), (fun a ha => by cases ha)⟩
  · rename_i s es
    split at h
    · rename_i hall
      simp only [Option.some.injEq, Prod.mk.injEq] at h
      obtain ⟨rfl, rfl⟩ := h
      obtain ⟨b, q, cap, val, f1, f2, f3, f4, f5⟩ := hv.pure_inv.slice_inv
      have hz : ∀ e ∈ es, e.length = sz := fun e he => by
        have := List.all_eq_true.1 hall e he
        simpa using this
      -- the sizes agree where there is an element
      have hs : ∀ (i : Nat) e, es[i]? = some e → s = sz := fun i e he => (f3 i e he).symm.trans (hz e (List.mem_of_getElem? he))
      have hlen := flatten_length hz
      refine ⟨some ⟨b, q, none⟩, cap, (List.range (es.length * sz)).map fun j => val (j / sz) (j % sz), f1, ⟨by rw [List.length_map, hlen]; simp, fun i p u hp hu => ?_⟩, by rw [List.length_map, hlen], ⟨(fun h => by cases h), fun a ha j u hu => ?_⟩⟩
      · rw [List.getElem?_map] at hp
        cases hq : es.flatten[i]? with
        | none => rw [hq] at hp; simp at hp
        | some p' =>
          rw [hq] at hp
          simp at hp
          subst hp
          obtain ⟨e, g1, g2⟩ := flatten_get hz hq h0
          have hi : i < es.length * sz := by have := (List.getElem?_eq_some_iff.1 hu).1; simpa using this
          simp [hi] at hu
          subst hu
          exact .pure _ _ (f5 _ _ _ _ g1 g2)
      · have hi : j < es.length * sz := by have := (List.getElem?_eq_some_iff.1 hu).1; simpa using this
        simp [hi] at hu
        subst hu
        simp at ha
        subst ha
        have hq : es.flatten[j]? = some (es.flatten[j]'(by omega)) := List.getElem?_eq_getElem (by omega)
        obtain ⟨e, g1, g2⟩ := flatten_get hz hq h0
        rw [addr_add]
        have := (f4 _ _ _ _ g1 g2).2
        rw [hs _ _ g1] at this
        rw [← this]
        congr 2
        have := Nat.div_add_mod j sz
        rw [Nat.mul_comm] at this
        omega
    · simp at h
  · rename_i id s off len
    split at h
    · rename_i hss
      subst hss
      split at h
      · rename_i own ds hg
        split at h
        · rename_i hle
          simp at h
          obtain ⟨rfl, rfl⟩ := h
          obtain ⟨b, n, cap, hid, f2, f3, f4⟩ := hv.row_inv
          have ho := hH.obj _ _ _ hid
          rw [hg] at ho
          obtain ⟨c, t, fz, h1, h2, h3, h4, h5⟩ := ho
          refine ⟨some ⟨b, off * s, none⟩, cap, (c.toList.drop (off * s)).take (len * s), f2, ⟨by simp; omega, fun i p u hp hu => ?_⟩, by simp; omega, ⟨(fun h => by cases h), fun a ha j u hu => ?_⟩⟩
          · have hi : i < len * s := by have := (List.getElem?_eq_some_iff.1 hp).1; simp at this; omega
            rw [List.getElem?_take_of_lt hi, List.getElem?_drop] at hp hu
            exact h5 _ _ _ hp (by simpa using hu)
          · have hi : j < len * s := by have := (List.getElem?_eq_some_iff.1 hu).1; simp at this; omega
            rw [List.getElem?_take_of_lt hi, List.getElem?_drop] at hu
            simp at ha
            subst ha
            rw [addr_add]
            simp only [World.cell?, h1]
            simpa using hu
        · simp at h
      · simp at h
    · simp at h
  · simp at h

theorem firstCells_run {ad : Option Addr} {m cap size : Nat} {vs : List Value} (hl : vs.length = m * size) (hn : ad = none → m = 0) (hc : ∀ a, ad = some a → ∀ (j : Nat) u, vs[j]? = some u → w.cell? (a.add j) = some u) :
    (Builtin.firstCells size m (.slice ad m cap)).run P w = .ok vs.toArray w := by
  cases ad with
  | none =>
    have := hn rfl
    subst this
    have : vs = [] := List.eq_nil_of_length_eq_zero (by simpa using hl)
    subst this
    rfl
  | some a =>
    simp only [Builtin.firstCells]
    rw [← hl]
    exact run_loadCells_list (w := w) a vs (hc a rfl)

theorem oneCells {cs : List AV} {vs : List Value} (h : VRels I φ w cs vs) (h1 : cs.all AV.one = true) : ∀ v ∈ vs, v.oneCell' = true := fun v hv => by
  obtain ⟨i, hi⟩ := List.getElem?_of_mem hv
  have hil : i < cs.length := by have := (List.getElem?_eq_some_iff.1 hi).1; have := h.1; omega
  exact (h.2 i _ _ (List.getElem?_eq_getElem hil) hi).one (List.all_eq_true.1 h1 _ (List.getElem_mem hil))

/-- What append asks of its types. -/
structure AppT (P : Program) (t u : TypeId) (s b : Nat) : Prop where
  ex : ∃ e e' : TypeId, P.underlying t = some (.slice e) ∧ P.underlying u = some (.slice e') ∧ sizeP P e = some s ∧ bytesP P e = some b ∧ ∃ z, zerosP P e = some z ∧ z.length = s
  pos : 0 < s
  bpos : 0 < b

/-- The builtin's run where a new row is laid. -/
theorem append_grow {t u ty : TypeId} {s b : Nat} (hT : AppT P t u s b) {x y : Value} {bs : Option Addr} {n cap m cap' : Nat} {ad : Option Addr} {olds news : List Value} (hx : x = .slice bs n cap) (hy : y = .slice ad m cap') (hn : ¬ n + m ≤ cap) (hncap : n ≤ cap)
    (hbytes : (n + m) * b ≤ 140737488355328) (hold : (Builtin.firstCells s n x).run P w.drew = .ok olds.toArray w.drew) (hnew : (Builtin.firstCells s m y).run P w.drew = .ok news.toArray w.drew)
    (hol : olds.length = n * s) (hnl : news.length = m * s) :
    ∃ (c : Array Value) (e : TypeId) (cp : Nat), (Builtin.append_ #[t, u] ty #[x, y]).run P w = .ok (.slice (some ⟨w.heap.size, 0, none⟩) (n + m) cp) ((w.drew).alloc (.cells c e)) ∧ n + m ≤ cp ∧ c.size = cp * s ∧
      ∃ rest, c.toList = olds ++ news ++ rest := by
  obtain ⟨e, e', ht, hu, hs, hb, z, hz, hzl⟩ := hT.ex
  have hi : ∃ i, P.info? e = some i ∧ i.size = s ∧ i.bytes = b := by
    unfold sizeP at hs
    unfold bytesP at hb
    cases hi : P.info? e with
    | none => simp [hi] at hs
    | some i => simp [hi] at hs hb; exact ⟨i, rfl, hs, hb⟩
  obtain ⟨i, hi, his, hib⟩ := hi
  obtain ⟨zv, hzv, hzc, hzs⟩ := zeros_run (w := w.drew) hz
  have hzsz : zv.cells.size = s := by
    have := (constL_rep (I := fun _ _ => True) (w := w) hzc).1
    simp at this
    omega
  subst hx
  subst hy
  have hgrow := growslice_fits (bytes := b) (by omega : cap < n + m) hbytes
  have hforced : (Question.appendCap (n + m) cap e).forced = false := rfl
  let cp := (Question.appendCap (n + m) cap e).cut (w.tape w.drawn (.appendCap (n + m) cap e))
  have hcp : n + m ≤ cp := by show n + m ≤ (n + m) + _; omega
  let rest := Builtin.zeroCells zv.cells (cp - (n + m))
  have hrs : rest.size = (cp - (n + m)) * s := by simp [rest, Builtin.zeroCells, hzsz]
  refine ⟨olds.toArray ++ news.toArray ++ rest, e, cp, ?_, hcp, ?_, rest.toList, by simp⟩
  · have hsz : ∀ w, (sizeOf e).run P w = .ok s w := fun w => run_sizeOf' hs
    have htI : ∀ w, (typeInfo e).run P w = .ok i w := fun w => run_typeInfo' hi
    simp only [Builtin.append_, List.getElem?_toArray, List.getElem?_cons_zero, List.getElem?_cons_succ, Sem.run_bind, run_underlying' ht, run_underlying' hu, Result.andThen_ok, hsz, Sem.run_pure, Builtin.lenOf]
    rw [if_neg (by simp)]
    simp only [pure_bind]
    rw [if_neg hn]
    simp only [Sem.run_bind, htI, Result.andThen_ok]
    rw [if_neg (by
      rintro ⟨_, h⟩
      rcases h with h | h
      · cases h
      · rw [hib] at h
        have := hT.bpos
        omega)]
    simp only [Sem.run_bind, htI, Result.andThen_ok]
    rw [if_neg (by rw [hib]; omega)]
    have hdrew : ({ w with drawn := w.drawn + 1 } : World) = w.drew := rfl
    simp only [Sem.run_bind, Sem.run_pure, run_choose, hforced, Bool.false_eq_true, if_false, Result.andThen_ok, htI, run_askRoom, hdrew, hold, Bool.not_false, if_true, hnew, hzv, newRow, run_newObj]
    rfl
  · simp only [Array.size_append, List.size_toArray, hrs, hol, hnl]
    have h3 : cp = n + m + (cp - (n + m)) := by omega
    rw [h3, Nat.add_mul, Nat.add_mul]
    simp

theorem append_fits {t u ty : TypeId} {s b : Nat} (hT : AppT P t u s b) {x y : Value} {ba : Addr} {n cap m cap' : Nat} {ad : Option Addr} {news : List Value} (hx : x = .slice (some ba) n cap) (hy : y = .slice ad m cap') (hn : n + m ≤ cap)
    (hnew : (Builtin.firstCells s m y).run P w = .ok news.toArray w) {w' : World} (hst : (storeCells (ba.add (n * s)) news).run P w = .ok () w') :
    (Builtin.append_ #[t, u] ty #[x, y]).run P w = .ok (.slice (some ba) (n + m) cap) w' := by
  obtain ⟨e, e', ht, hu, hs, hb, z, hz, hzl⟩ := hT.ex
  subst hx
  subst hy
  have hsz : ∀ w, (sizeOf e).run P w = .ok s w := fun w => run_sizeOf' hs
  simp only [Builtin.append_, List.getElem?_toArray, List.getElem?_cons_zero, List.getElem?_cons_succ, Sem.run_bind, run_underlying' ht, run_underlying' hu, Result.andThen_ok, hsz, Sem.run_pure, Builtin.lenOf]
  rw [if_neg (by simp)]
  simp only [pure_bind]
  rw [if_pos hn]
  simp only [Sem.run_bind, Bool.not_false, if_true, hnew, Result.andThen_ok, hst, Sem.run_pure]
theorem lt_alloc_drew (w : World) (o : Obj) : w.heap.size < (w.drew.alloc o).heap.size := by
  rw [World.size_alloc]
  exact Nat.lt_succ_self _

theorem run_append {t u : TypeId} {c : Call} {X Y : Operand} (hop : o.op = .call c) (hc : c.callee = .builtin .append) (h1 : c.args.toList = [X, Y]) (h2 : c.argTypes.toList = [t, u]) {v : Value} {w' : World}
    (h : (Builtin.append_ #[t, u] o.type #[a.eval X, a.eval Y]).run P w = .ok v w') : (execOp a.eval o).run P w = .ok (.value v) w' := by
  have ha : c.args = #[X, Y] := by rw [← h1]
  have hb : c.argTypes = #[t, u] := by rw [← h2]
  simp only [execOp, hop, resolve, hc, invoke, builtin, ha, hb, Sem.run_bind, Sem.run_pure, Result.andThen_ok, List.map_toArray, List.map_cons, List.map_nil, h]

theorem ran_append (hH : HRel C S base φ H w) (hE : ERel (Imm S base φ H w) φ w env a) {X Y : Operand} {x y : Opnd} {t u : TypeId} {s b : Nat} {c : Call} (hx : opndP X = some x) (hy : opndP Y = some y) (hT : AppT P t u s b)
    (hop : o.op = .call c) (hc : c.callee = .builtin .append) (h1 : c.args.toList = [X, Y]) (h2 : c.argTypes.toList = [t, u]) (hfr : φ H.nx = none) (h : doAppend H s b (x.eval env) (y.eval env) = some e) :
    Ran C S base φ H w e ((execOp a.eval o).run P w) := by
  have hxv := opnd_rel hE hx
  have hyv := opnd_rel hE hy
  have hpos := hT.pos
  unfold doAppend at h
  split at h
  · simp at h
  · rename_i new m hsc
    obtain ⟨ad, cap', news, f1, f2, f3, f4, f5⟩ := sliceCells_rel hH hpos hyv hsc
    have hnl : news.length = m * s := by have := f2.1; omega
    split at h
    · simp at h
    · rename_i hone
      have hone' : new.all AV.one = true := by simpa using hone
      have hfc : ∀ w' : World, (∀ a, ad = some a → ∀ (j : Nat) v, news[j]? = some v → w'.cell? (a.add j) = some v) → (Builtin.firstCells s m (.slice ad m cap')).run P w' = .ok news.toArray w' := fun w' hc' => firstCells_run hnl f4 hc'
      split at h
      · -- onto nothing
        rename_i heq
        rw [heq] at hxv
        have hX := hxv.pure_inv.nils_inv
        split at h
        · rename_i hm
          subst hm
          simp at h
          subst h
          have hnews : news = [] := List.eq_nil_of_length_eq_zero (by simpa using hnl)
          refine ran_val (v := .slice none 0 0) (run_append hop hc h1 h2 ?_) (.pure _ _ .nils)
          obtain ⟨e, e', ht, hu, hs, hb, z, hz, hzl⟩ := hT.ex
          have hsz : ∀ w, (sizeOf e).run P w = .ok s w := fun w => run_sizeOf' hs
          rw [hX, f1]
          simp only [Builtin.append_, List.getElem?_toArray, List.getElem?_cons_zero, List.getElem?_cons_succ, Sem.run_bind, run_underlying' ht, run_underlying' hu, Result.andThen_ok, hsz, Sem.run_pure, Builtin.lenOf]
          rw [if_neg (by simp)]
          simp only [pure_bind, Nat.add_zero, Nat.le_refl, if_true, Bool.not_false, Sem.run_bind, hfc w f5, Result.andThen_ok, Sem.run_pure]
        · rename_i hm
          split at h
          · rename_i hmax
            simp at h
            subst h
            have hb' : (0 + m) * b ≤ 140737488355328 := by rw [Nat.zero_add]; have := hmax.2; simp only [maxCells] at this; omega
            obtain ⟨c', e, cp, g1, g2, g3, rest, g4⟩ := append_grow (ty := o.type) (olds := []) hT hX f1 (by omega) (Nat.le_refl 0) hb' (by rw [hX]; rfl) (by rw [f1]; exact hfc _ f5) (by simp) hnl
            have hlen : new.length ≤ c'.size := by
              have : c'.toList.length = c'.size := by simp
              rw [g4] at this
              simp at this
              have := f2.1
              omega
            refine .inl ⟨_, _, run_append hop hc h1 h2 g1, w.heap.size, c'.size, ((Below.refl _ w).drew).alloc (Nat.le_refl _) _, Nat.le_refl _, lt_alloc_drew w _, ?_, fun I' φ' id hid => ?_⟩
            · refine ⟨c', e, (0, 0), heap_alloc_new w.drew _, rfl, hlen, fun j _ hj => by simp at hj, fun j av v ha hv => ?_⟩
              have hj : j < news.length := by have := (List.getElem?_eq_some_iff.1 ha).1; have := f2.1; omega
              rw [← Array.getElem?_toList, g4, List.nil_append, List.getElem?_append_left hj] at hv
              exact VRel.mono (w := w) (fun _ b hb => ⟨hb, Below.heap_alloc w.drew _ b hb.2.1⟩) (fun _ _ h => h) (f2.2 j av v ha hv)
            · have : (0 + m) = m := by omega
              rw [this] at g2 ⊢
              exact .row id s 0 m _ _ 0 cp hid (by simp) g2 (by simp [g3])
          · simp at h
      · -- onto a row
        rename_i id s' off n heq
        rw [heq] at hxv
        obtain ⟨bb, nb, cap, hid, hX, hcap, hfull⟩ := hxv.row_inv
        split at h
        · rename_i hss
          subst hss
          split at h
          · rename_i ds hg
            have ho := hH.obj _ _ _ hid
            rw [hg] at ho
            obtain ⟨c0, t0, fz, q1, q2, q3, q4, q5⟩ := ho
            split at h
            · -- room within what is known
              rename_i hroom
              simp only [Option.some.injEq] at h
              subst h
              have hle : off * s' + n * s' + new.length ≤ ds.length := by rw [Nat.add_mul] at hroom; omega
              obtain ⟨w', e1, e2, e3⟩ := store_rel (P := P) (off := off * s' + n * s') hH hid hg f2 hone' hle
              have hfit : n + m ≤ cap := by
                have h3 : (off + (n + m)) * s' ≤ (off + cap) * s' := by rw [Nat.add_mul, hfull]; omega
                have := Nat.le_of_mul_le_mul_right h3 hpos
                omega
              refine .inl ⟨_, w', run_append hop hc h1 h2 (append_fits hT hX f1 hfit (by rw [f1]; exact hfc w f5) (by rw [addr_add]; exact e1)), φ, ?_⟩
              have e9 : off * s' + (n + m) * s' = off * s' + n * s' + new.length := by rw [Nat.add_mul, f3]; omega
              rw [e9]
              exact ⟨e2, e3, .row id s' off (n + m) bb nb _ cap hid rfl hfit hfull⟩
            · rename_i hroom
              split at h
              · rename_i hcond
                obtain ⟨rfl, hn, hm1, hm2⟩ := hcond
                simp at h
                subst h
                have hbytes : (n + m) * b ≤ 140737488355328 := by simp only [maxCells] at hm2; omega
                have hcells : VRels (Imm S base φ H w) φ w ds (c0.toList.take ds.length) := ⟨by simp; omega, fun i p u hp hu => by
                  have hi : i < ds.length := (List.getElem?_eq_some_iff.1 hp).1
                  rw [List.getElem?_take_of_lt hi] at hu
                  exact q5 i p u hp (by simpa using hu)⟩
                by_cases hfit : n + m ≤ cap
                · -- in place: the row gets a new name
                  -- first as a longer piece of memory under the old name
                  have hbig : (n + m) * s' ≤ c0.size := by
                    rw [q2, ← hfull]
                    exact Nat.mul_le_mul_right _ (by omega)
                  obtain ⟨w', c', e1, e2, e3, e4, e5, e6, e7, e8⟩ := run_storeCells' (P := P) bb (0 * s' + n * s') t0 fz news 0 c0 w q1 (by rw [Nat.add_mul] at hbig; omega) (oneCells f2 hone') (fun j hj => q4 j (by omega))
                  have hc's : c'.size = nb := by
                    have : c'.toList.length = nb := by rw [e8]; rw [Nat.add_mul] at hbig; simp; omega
                    simpa using this
                  have hImm : ∀ k c, Imm S base φ H w k c → c ≠ bb := fun k c hc e => hc.2.2 ⟨id, nb, e ▸ hid, by rw [hg]; rfl⟩
                  have hw := hH.write (o := .cells true (ds ++ new)) hid (by rw [hg]; rfl) e2 e3 e4 e5 e6 ⟨c', t0, fz, e7, hc's, by rw [List.length_append, f3, ← hn]; rw [Nat.add_mul] at hbig; omega, fun j hj => q4 j hj, fun j av v ha hv => by
                    have hmix := hcells.append f2
                    refine (hmix.2 j av v ha ?_).mono (fun k c hc => ⟨hc, e6 c (hImm k c hc)⟩) (fun _ _ h => h)
                    rw [← Array.getElem?_toList, e8] at hv
                    rw [← hv]
                    have hj : j < ds.length + new.length := by have := (List.getElem?_eq_some_iff.1 ha).1; simpa using this
                    have e10 : 0 * s' + n * s' + 0 = ds.length := by omega
                    have hlt : (c0.toList.take ds.length).length = ds.length := by rw [List.length_take]; simp; omega
                    rw [e10]
                    exact (List.getElem?_append_left (l₁ := c0.toList.take ds.length ++ news) (by rw [List.length_append, hlt]; have := f2.1; omega)).symm⟩
                  have hr := hw.2.rename (id := id) (o := .cells true (ds ++ new)) hid (get_set_same (hH.nx _ _ hid)) rfl (by exact hfr)
                  have hheap : ((H.set id (.cells true (ds ++ new))).set id .dead).alloc (.cells true (ds ++ new)) = (H.set id .dead).alloc (.cells true (ds ++ new)) := by
                    refine Heap.ext' rfl fun i => ?_
                    simp only [Heap.alloc, Heap.set, upd]
                    by_cases hi : i = H.nx
                    · simp [hi]
                    · by_cases hi2 : i = id <;> simp [hi, hi2]
                  rw [hheap] at hr
                  refine .inl ⟨_, w', run_append hop hc h1 h2 (append_fits hT hX f1 hfit (by rw [f1]; exact hfc w f5) (by rw [addr_add]; exact e1)), _, hw.1.trans hr.1, hr.2, ?_⟩
                  exact .row H.nx s' 0 (n + m) bb nb _ cap (phiSet_same _ _) rfl hfit hfull
                · -- a new row
                  have holds : (Builtin.firstCells s' n (.slice (some ⟨bb, 0 * s', none⟩) n cap)).run P w.drew = .ok (c0.toList.take ds.length).toArray w.drew := by
                    refine firstCells_run (by simp; omega) (fun h => by cases h) fun a ha j u hu => ?_
                    simp at ha
                    subst ha
                    rw [addr_add]
                    have hi : j < ds.length := by have := (List.getElem?_eq_some_iff.1 hu).1; simp at this; omega
                    rw [List.getElem?_take_of_lt hi] at hu
                    show w.drew.cell? _ = _
                    have hq1 : w.drew.heap[bb]? = some (.cells c0 t0 fz) := q1
                    simp only [World.cell?, hq1]
                    simpa using hu
                  obtain ⟨c', e, cp, g1, g2, g3, rest, g4⟩ := append_grow (ty := o.type) (olds := c0.toList.take ds.length) hT hX f1 hfit hcap hbytes (by rw [hX]; exact holds) (by rw [f1]; exact hfc _ f5) (by simp; omega) hnl
                  have hk := hH.kill id
                  have hlen : (ds ++ new).length ≤ c'.size := by
                    have : c'.toList.length = c'.size := by simp
                    rw [g4] at this
                    simp at this ⊢
                    have := f2.1
                    omega
                  have hmix := hcells.append f2
                  have hnew := hk.2.new (H' := (H.set id .dead).alloc (.cells true (ds ++ new))) (w' := w.drew.alloc (.cells c' e)) (id := H.nx) (b := w.heap.size) (n := c'.size) (o := .cells true (ds ++ new))
                    (((Below.refl _ w).drew).alloc (Nat.le_refl _) _) hfr (get_alloc_new (H := H.set id .dead)) (fun i hi _ => get_alloc_ne (H := H.set id .dead) hi) (Nat.lt_succ_self _) (Nat.le_succ _) (Nat.le_refl _) (lt_alloc_drew w _)
                    ⟨c', e, (0, 0), heap_alloc_new w.drew _, rfl, hlen, fun j _ hj => by simp at hj, fun j av v ha hv => by
                      have hj : j < ds.length + new.length := by have := (List.getElem?_eq_some_iff.1 ha).1; simpa using this
                      rw [← Array.getElem?_toList, g4, List.getElem?_append_left (by have := f2.1; simp; omega)] at hv
                      exact VRel.mono (w := w) (fun _ b hb => ⟨(hk.1.imm hb).1, Below.heap_alloc w.drew _ b hb.2.1⟩) (fun _ _ h => h) (hmix.2 j av v ha hv)⟩
                  refine .inl ⟨_, _, run_append hop hc h1 h2 g1, _, hk.1.trans hnew.1, hnew.2, ?_⟩
                  exact .row H.nx s' 0 (n + m) _ _ 0 cp (phiSet_same _ _) (by simp) g2 (by simp [g3])
              · simp at h
          · simp at h
        · simp at h
      · simp at h
end
end Go.Proofs.YtjjkgamklbgnlaaGreat.Vm
