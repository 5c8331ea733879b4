/- The law SearchCorners: tiny boxes, and the choice behind a choice. What a law says of the corners of boxes: plain Lean. -/
import Derived.Test.YtmghcpdpilgplaaPk16
import Derived.Test.YtmghcpdpilgplaaPk18
import Derived.Test.YtmghcpdpilgplaaPk19
import Derived.Test.YtmghcpdpilgplaaPk17
namespace Go.Proofs.Ytmghcpdpilgplaa.Vm
open Go
set_option linter.unusedSimpArgs false
set_option linter.unusedVariables false
set_option maxHeartbeats 4000000
set_option maxRecDepth 4000

def okT (b : Box) : Bool := decide (b.x.lo ≤ b.x.hi) && decide (b.y.lo ≤ b.y.hi) && decide (-1000 ≤ b.x.lo) && decide (b.x.hi ≤ 1000) && decide (-1000 ≤ b.y.lo) && decide (b.y.hi ≤ 1000) && decide (b.x.hi - b.x.lo ≤ 60) && decide (b.y.hi - b.y.lo ≤ 60)
theorem okT_iff {b : Box} : okT b = true ↔ b.x.lo ≤ b.x.hi ∧ b.y.lo ≤ b.y.hi ∧ -1000 ≤ b.x.lo ∧ b.x.hi ≤ 1000 ∧ -1000 ≤ b.y.lo ∧ b.y.hi ≤ 1000 ∧ b.x.hi - b.x.lo ≤ 60 ∧ b.y.hi - b.y.lo ≤ 60 := by
  unfold okT
  simp only [Bool.and_eq_true, decide_eq_true_eq, and_assoc]
def tinyF : List Box → Int → Option Int
  | [], n => some n
  | b :: l, n => if okT b = true then (if 3000 < n * (b.x.hi - b.x.lo + 1) * (b.y.hi - b.y.lo + 1) then none else tinyF l (n * (b.x.hi - b.x.lo + 1) * (b.y.hi - b.y.lo + 1))) else none
theorem tinyF_cons (b : Box) (l : List Box) (n : Int) : tinyF (b :: l) n = if okT b = true then (if 3000 < n * (b.x.hi - b.x.lo + 1) * (b.y.hi - b.y.lo + 1) then none else tinyF l (n * (b.x.hi - b.x.lo + 1) * (b.y.hi - b.y.lo + 1))) else none := rfl
def tinyB (l : List Box) : Bool := (tinyF l 1).isSome && decide (l.length = 3)
theorem tinyF_ok : ∀ {l : List Box} {n : Int}, (tinyF l n).isSome = true → ∀ b ∈ l, okT b = true
  | [], n, _, b, h => by simp at h
  | a :: l, n, h, b, hb => by
    unfold tinyF at h
    split at h
    · rename_i ha
      split at h
      · simp at h
      · rcases List.mem_cons.1 hb with rfl | hb
        · exact ha
        · exact tinyF_ok h b hb
    · simp at h
theorem mul3_bd {n a b : Int} (h1 : 1 ≤ n) (h2 : n ≤ 3000) (a1 : 1 ≤ a) (a2 : a ≤ 61) (b1 : 1 ≤ b) (b2 : b ≤ 61) : (1 ≤ n * a ∧ n * a ≤ 183000) ∧ (1 ≤ n * a * b ∧ n * a * b ≤ 11163000) := by
  have e1 : 1 * 1 ≤ n * a := Int.mul_le_mul h1 a1 (by omega) (by omega)
  have e2 : n * a ≤ 3000 * 61 := Int.mul_le_mul h2 a2 (by omega) (by omega)
  have e3 : 1 * 1 ≤ n * a * b := Int.mul_le_mul (by omega) b1 (by omega) (by omega)
  have e4 : n * a * b ≤ 183000 * 61 := Int.mul_le_mul (by omega) b2 (by omega) (by omega)
  omega
theorem sh13 : G.shared 13 = false := by decide
theorem e13 (n : Nat) (l : Sl Box) (hl : l.xs.length ≤ 9223372036854775807) : callP G (n + 1) 13 [l.pv Box.cells 4] = some (.bool (tinyB l.xs)) := by
  refine callP_of (ext_none _) rfl g13 rfl ?_
  generalize hR : tinyB l.xs = R
  have hR := Hide.mk hR
  (repeat' first | simp [*, initEnv, c13] | (refine wpIf_two (fun _ h => ?_) (fun _ h => ?_) <;> try simp [-Nat.le_zero_eq] at h))
  refine wp_loopF [(2, 96)] (fun (i : Nat) env H => env 4 = .pure (.int .i64 i) ∧ i ≤ l.xs.length ∧ ∃ m : Int, env 3 = .pure (.int .i64 m) ∧ (1 ≤ m ∧ m ≤ 3000) ∧ Hide (tinyF l.xs 1 = tinyF (l.xs.drop i) m)) (fun i => l.xs.length - i) 0 ?_ ?_ ?_ ?_
  · decide
  · exact ⟨by simp, by omega, 1, by simp, by omega, ⟨rfl⟩⟩
  · simp only [loopFuel]; omega
  rintro i env H ⟨g0, hi, m, g3, hm, hn⟩
  by_cases hlt : i < l.xs.length
  · have w0 : IntKind.i64.wrap ((i : Int) + 1) = (i + 1 : Nat) := by rw [wrap64 (by omega) (by omega)]; omega
    have hlI : (i : Int) < l.xs.length := by omega
    have hn := hn.h
    rw [List.drop_eq_getElem_cons hlt, tinyF_cons] at hn
    by_cases hok : okT l.xs[i] = true
    · rw [if_pos hok] at hn
      obtain ⟨k1, k2, k3, k4, k5, k6, k7, k8⟩ := okT_iff.1 hok
      have hb := mul3_bd (a := l.xs[i].x.hi - l.xs[i].x.lo + 1) (b := l.xs[i].y.hi - l.xs[i].y.lo + 1) hm.1 hm.2 (by omega) (by omega) (by omega) (by omega)
      have w1 : IntKind.i64.wrap (l.xs[i].x.hi - l.xs[i].x.lo) = l.xs[i].x.hi - l.xs[i].x.lo := wrap64 (by omega) (by omega)
      have w2 : IntKind.i64.wrap (l.xs[i].y.hi - l.xs[i].y.lo) = l.xs[i].y.hi - l.xs[i].y.lo := wrap64 (by omega) (by omega)
      have w3 : IntKind.i64.wrap (l.xs[i].x.hi - l.xs[i].x.lo + 1) = l.xs[i].x.hi - l.xs[i].x.lo + 1 := wrap64 (by omega) (by omega)
      have w4 : IntKind.i64.wrap (l.xs[i].y.hi - l.xs[i].y.lo + 1) = l.xs[i].y.hi - l.xs[i].y.lo + 1 := wrap64 (by omega) (by omega)
      have w5 : IntKind.i64.wrap (m * (l.xs[i].x.hi - l.xs[i].x.lo + 1)) = m * (l.xs[i].x.hi - l.xs[i].x.lo + 1) := wrap64 (by omega) (by omega)
      have w6 : IntKind.i64.wrap (m * (l.xs[i].x.hi - l.xs[i].x.lo + 1) * (l.xs[i].y.hi - l.xs[i].y.lo + 1)) = m * (l.xs[i].x.hi - l.xs[i].x.lo + 1) * (l.xs[i].y.hi - l.xs[i].y.lo + 1) := wrap64 (by omega) (by omega)
      have n1 : ¬ l.xs[i].x.hi < l.xs[i].x.lo := by omega
      have n2 : ¬ l.xs[i].y.hi < l.xs[i].y.lo := by omega
      have n3 : ¬ l.xs[i].x.lo < -1000 := by omega
      have n4 : ¬ 1000 < l.xs[i].x.hi := by omega
      have n5 : ¬ l.xs[i].y.lo < -1000 := by omega
      have n6 : ¬ 1000 < l.xs[i].y.hi := by omega
      have n7 : ¬ 60 < l.xs[i].x.hi - l.xs[i].x.lo := by omega
      have n8 : ¬ 60 < l.xs[i].y.hi - l.xs[i].y.lo := by omega
      clear k1 k2 k3 k4 k5 k6 k7 k8
      by_cases h3 : 3000 < m * (l.xs[i].x.hi - l.xs[i].x.lo + 1) * (l.xs[i].y.hi - l.xs[i].y.lo + 1)
      · rw [if_pos h3] at hn
        have hRf : R = false := by rw [← hR.h]; unfold tinyB; rw [hn]; rfl
        subst hRf
        clear hn hR hok hb
        (repeat' first | simp [*, initEnv, Box.cells, Span.cells] | (refine wpIf_two (fun _ h => ?_) (fun _ h => ?_) <;> try simp [-Nat.le_zero_eq] at h))
      · rw [if_neg h3] at hn
        have hn' : Hide (tinyF l.xs 1 = tinyF (l.xs.drop (i + 1)) (m * (l.xs[i].x.hi - l.xs[i].x.lo + 1) * (l.xs[i].y.hi - l.xs[i].y.lo + 1))) := ⟨hn⟩
        have hb1 : 1 ≤ m * (l.xs[i].x.hi - l.xs[i].x.lo + 1) * (l.xs[i].y.hi - l.xs[i].y.lo + 1) := hb.2.1
        clear hn hR hok hb
        (repeat' first | simp [*, initEnv, Box.cells, Span.cells] | (refine wpIf_two (fun _ h => ?_) (fun _ h => ?_) <;> try simp [-Nat.le_zero_eq] at h))
        exact ⟨i + 1, by omega, rfl, by omega, by omega, hn'⟩
    · have hok : okT l.xs[i] = false := by simpa using hok
      rw [hok, if_neg (by simp)] at hn
      have hRf : R = false := by rw [← hR.h]; unfold tinyB; rw [hn]; rfl
      subst hRf
      have hk : ¬ (l.xs[i].x.lo ≤ l.xs[i].x.hi ∧ l.xs[i].y.lo ≤ l.xs[i].y.hi ∧ -1000 ≤ l.xs[i].x.lo ∧ l.xs[i].x.hi ≤ 1000 ∧ -1000 ≤ l.xs[i].y.lo ∧ l.xs[i].y.hi ≤ 1000 ∧ l.xs[i].x.hi - l.xs[i].x.lo ≤ 60 ∧ l.xs[i].y.hi - l.xs[i].y.lo ≤ 60) := fun h => by rw [okT_iff.2 h] at hok; simp at hok
      clear hn hR hok
      have hk' := Hide.mk hk
      clear hk
      by_cases c1 : l.xs[i].x.hi < l.xs[i].x.lo
      · (repeat' first | simp [*, initEnv, Box.cells, Span.cells] | (refine wpIf_two (fun _ h => ?_) (fun _ h => ?_) <;> try simp [-Nat.le_zero_eq] at h))
      by_cases c2 : l.xs[i].y.hi < l.xs[i].y.lo
      · (repeat' first | simp [*, initEnv, Box.cells, Span.cells] | (refine wpIf_two (fun _ h => ?_) (fun _ h => ?_) <;> try simp [-Nat.le_zero_eq] at h))
      by_cases c3 : l.xs[i].x.lo < -1000
      · (repeat' first | simp [*, initEnv, Box.cells, Span.cells] | (refine wpIf_two (fun _ h => ?_) (fun _ h => ?_) <;> try simp [-Nat.le_zero_eq] at h))
      by_cases c4 : 1000 < l.xs[i].x.hi
      · (repeat' first | simp [*, initEnv, Box.cells, Span.cells] | (refine wpIf_two (fun _ h => ?_) (fun _ h => ?_) <;> try simp [-Nat.le_zero_eq] at h))
      by_cases c5 : l.xs[i].y.lo < -1000
      · (repeat' first | simp [*, initEnv, Box.cells, Span.cells] | (refine wpIf_two (fun _ h => ?_) (fun _ h => ?_) <;> try simp [-Nat.le_zero_eq] at h))
      by_cases c6 : 1000 < l.xs[i].y.hi
      · (repeat' first | simp [*, initEnv, Box.cells, Span.cells] | (refine wpIf_two (fun _ h => ?_) (fun _ h => ?_) <;> try simp [-Nat.le_zero_eq] at h))
      have w1 : IntKind.i64.wrap (l.xs[i].x.hi - l.xs[i].x.lo) = l.xs[i].x.hi - l.xs[i].x.lo := wrap64 (by omega) (by omega)
      have w2 : IntKind.i64.wrap (l.xs[i].y.hi - l.xs[i].y.lo) = l.xs[i].y.hi - l.xs[i].y.lo := wrap64 (by omega) (by omega)
      by_cases c7 : 60 < l.xs[i].x.hi - l.xs[i].x.lo
      · (repeat' first | simp [*, initEnv, Box.cells, Span.cells] | (refine wpIf_two (fun _ h => ?_) (fun _ h => ?_) <;> try simp [-Nat.le_zero_eq] at h))
      have c8 : 60 < l.xs[i].y.hi - l.xs[i].y.lo := by
        have := hk'.h
        omega
      clear hk'
      (repeat' first | simp [*, initEnv, Box.cells, Span.cells] | (refine wpIf_two (fun _ h => ?_) (fun _ h => ?_) <;> try simp [-Nat.le_zero_eq] at h))
  · have hil : i = l.xs.length := by omega
    subst hil
    have hd : decide (l.xs.length = 3) = decide ((l.xs.length : Int) = 3) := by rw [decide_eq_decide]; omega
    have hRf : R = decide ((l.xs.length : Int) = 3) := by
      rw [← hR.h]
      unfold tinyB
      rw [hn.h, List.drop_length, ← hd]
      simp [tinyF]
    subst hRf
    clear hn hR hd
    (repeat' first | simp [*, initEnv] | (refine wpIf_two (fun _ h => ?_) (fun _ h => ?_) <;> try simp [-Nat.le_zero_eq] at h))
@[simp] theorem d13 (n : Nat) (H : Heap) (l : Sl Box) (hl : l.xs.length ≤ 9223372036854775807) : doCall (calleeOf G (n + 1)) H (.pure (.func 13 [])) [.pure (l.pv Box.cells 4)] = some (.val (.pure (.bool (tinyB l.xs)))) :=
  call_pureC (ps := [_]) (caps := []) sh13 (e13 n l hl)
theorem putIn_px {l : List Pt} {i : Nat} (h : i < l.length) (v : Int) : putIn (.cells true (rowOf Pt.cells l)) 1 (i * 2) [.pure (.int .i64 v)] = some (.cells true (rowOf Pt.cells (l.set i ⟨v, l[i].y⟩))) :=
  putIn_rowP (off := 0) (f := Pt.cells) (sz := 2) (vs := [.int .i64 v]) (b := ⟨v, l[i].y⟩) (fun _ => rfl) rfl (by decide) h (by decide) rfl rfl
theorem putIn_py {l : List Pt} {i : Nat} (h : i < l.length) (v : Int) : putIn (.cells true (rowOf Pt.cells l)) 1 (i * 2 + 1) [.pure (.int .i64 v)] = some (.cells true (rowOf Pt.cells (l.set i ⟨l[i].x, v⟩))) :=
  putIn_rowP (off := 1) (f := Pt.cells) (sz := 2) (vs := [.int .i64 v]) (b := ⟨l[i].x, v⟩) (fun _ => rfl) rfl (by decide) h (by decide) rfl rfl
def boxIn (M : Int) (b : Box) : Prop := (-M ≤ b.x.lo ∧ b.x.lo ≤ M ∧ -M ≤ b.x.hi ∧ b.x.hi ≤ M) ∧ (-M ≤ b.y.lo ∧ b.y.lo ≤ M ∧ -M ≤ b.y.hi ∧ b.y.hi ≤ M)
/-- Where the loop stands: the first points are low again. -/
structure AfterJ (l : List Box) (c : List Pt) (i : Nat) (t : List Pt) : Prop where
  len : t.length = l.length
  val : t = (l.take i).map lowB ++ c.drop i
  res : stepL l c = (stepL (l.drop i) (c.drop i)).map fun u => (l.take i).map lowB ++ u
theorem AfterJ.start {l : List Box} {c : List Pt} (h : c.length = l.length) : AfterJ l c 0 c := ⟨h, by simp, by simp⟩
theorem AfterJ.cur {l : List Box} {c t : List Pt} {i : Nat} (h : AfterJ l c i t) (hi : i < l.length) (hc : c.length = l.length) : ∃ h' : i < t.length, t[i] = c[i] := by
  have ht : i < t.length := by rw [h.len]; exact hi
  refine ⟨ht, ?_⟩
  have hl : ((l.take i).map lowB).length = i := by simp; omega
  have e : t[i]? = c[i]? := by
    rw [h.val, List.getElem?_append_right (by omega), hl, Nat.sub_self, List.getElem?_drop]
    simp
  rw [List.getElem?_eq_getElem ht, List.getElem?_eq_getElem (by omega)] at e
  simpa using e
theorem AfterJ.setAt {l : List Box} {c t : List Pt} {i : Nat} (h : AfterJ l c i t) (hi : i < l.length) (hc : c.length = l.length) (p : Pt) : t.set i p = (l.take i).map lowB ++ (p :: c.drop (i + 1)) := by
  have hl : ((l.take i).map lowB).length = i := by simp; omega
  rw [h.val, List.set_append_right _ _ (by omega), hl, Nat.sub_self, List.drop_eq_getElem_cons (show i < c.length by omega)]
  rfl
theorem AfterJ.stepX' {l : List Box} {c t : List Pt} {i : Nat} (h : AfterJ l c i t) (hi : i < l.length) (hc : c.length = l.length) : stepL l c = match stepX l[i] (c[i]'(by omega)) with
    | some q => some (t.set i q)
    | none => (stepL (l.drop (i + 1)) (c.drop (i + 1))).map fun u => (l.take (i + 1)).map lowB ++ u := by
  rw [h.res, List.drop_eq_getElem_cons hi, List.drop_eq_getElem_cons (show i < c.length by omega)]
  simp only [stepL]
  cases hs : stepX l[i] c[i] with
  | some q => simp only [Option.map_some]; rw [h.setAt hi hc]
  | none =>
    simp only [Option.map_map]
    congr 1
    funext u
    show (l.take i).map lowB ++ lowB l[i] :: u = (l.take (i + 1)).map lowB ++ u
    rw [← take_succ' hi, List.map_append, List.append_assoc]
    rfl
theorem AfterJ.next {l : List Box} {c t : List Pt} {i : Nat} (h : AfterJ l c i t) (hi : i < l.length) (hc : c.length = l.length) (hs : stepX l[i] (c[i]'(by omega)) = none) : AfterJ l c (i + 1) (t.set i (lowB l[i])) := by
  refine ⟨by simp [h.len], ?_, ?_⟩
  · rw [h.setAt hi hc, ← take_succ' hi, List.map_append, List.append_assoc]
    rfl
  · rw [h.stepX' hi hc, hs]
theorem AfterJ.stop {l : List Box} {c t : List Pt} (h : AfterJ l c l.length t) (hc : c.length = l.length) : stepL l c = none := by
  rw [h.res, List.drop_length, ← hc, List.drop_length]
  rfl
theorem sh_after : G.shared 17 = true := by decide
theorem after_call {n : Nat} {H : Heap} {id : Nat} {l : Sl Box} {c : List Pt} {k : AV → Heap → Prop} (hg : H.get id = .cells true (rowOf Pt.cells c)) (hc : c.length = l.xs.length) (hb : ∀ b ∈ l.xs, boxIn 1048576 b) (hcb : ∀ p ∈ c, okP p) (hlen : l.xs.length < 1000) {m : Nat} (hm : m = l.xs.length)
    (hk : ∀ b H' t, H'.nx = H.nx → (∀ j, j ≠ id → H'.get j = H.get j) → H'.get id = .cells true (rowOf Pt.cells t) → t.length = c.length → (b = true → stepL l.xs c = some t) → (b = false → stepL l.xs c = none) → k (.pure (.bool b)) H') :
    ∃ v H', Vm.call G (n + 1) (.fn 17) [.pure (l.pv Box.cells 4), .row id 2 0 m] H = some (v, H') ∧ k v H' := by
  subst hm
  refine call_of rfl g17 rfl ?_
  have hk := Hide.mk hk
  have hb := Hide.mk hb
  have hcb := Hide.mk hcb
  have hcl := Hide.mk hc
  clear hc
  (repeat' first | simp [*, initEnv, c17] | (refine wpIf_two (fun _ h => ?_) (fun _ h => ?_) <;> try simp [-Nat.le_zero_eq] at h))
  refine wp_loopF [(4, 71)] (fun (i : Nat) env H' => env 5 = .pure (.int .i64 i) ∧ i ≤ l.xs.length ∧ H'.nx = H.nx ∧ Hide (∀ j, j ≠ id → H'.get j = H.get j) ∧ ∃ t, H'.get id = .cells true (rowOf Pt.cells t) ∧ Hide (AfterJ l.xs c i t)) (fun i => l.xs.length - i) 0 ?_ ?_ ?_ ?_
  · decide
  · exact ⟨by simp, by omega, rfl, ⟨fun _ _ => rfl⟩, c, hg, ⟨AfterJ.start hcl.h⟩⟩
  · simp only [loopFuel]; omega
  rintro i env H' ⟨g0, hi, hnx, hsame, t, hg', hJ⟩
  by_cases hlt : i < l.xs.length
  · have w0 : IntKind.i64.wrap ((i : Int) + 1) = (i + 1 : Nat) := by rw [wrap64 (by omega) (by omega)]; omega
    obtain ⟨ht, hti⟩ := hJ.h.cur hlt hcl.h
    have hid := nx_of_get hg'
    have p1 := putIn_px ht
    have p2 := putIn_py ht
    have hlI : (i : Int) < l.xs.length := by omega
    have hcl' := hcl.h
    obtain ⟨⟨o1, o2⟩, o3, o4⟩ := hcb.h _ (List.getElem_mem (show i < c.length by omega))
    rw [← hti] at o1 o2 o3 o4
    have ob := hb.h _ (List.getElem_mem hlt)
    unfold boxIn at ob
    have w1 : IntKind.i64.wrap (t[i].x + 1) = t[i].x + 1 := wrap64 (by omega) (by omega)
    have w2 : IntKind.i64.wrap (t[i].y + 1) = t[i].y + 1 := wrap64 (by omega) (by omega)
    clear o1 o2 o3 o4 ob
    have hst := hJ.h.stepX' hlt hcl'
    have hne := hJ.h.next hlt hcl'
    have htl := hJ.h.len
    rw [← hti] at hst hne
    have htl' : ∀ p, (t.set i p).length = c.length := fun p => by rw [List.length_set, htl, hcl']
    have htl' := Hide.mk htl'
    clear htl
    have gs : ∀ o, (H'.set id o).get id = o := fun o => get_set_own hid
    have gs2 : ∀ o o2, ((H'.set id o).set id o2).get id = o2 := fun o o2 => get_set_own (by simpa using hid)
    have p3 : ∀ v, putIn (.cells true (rowOf Pt.cells (t.set i ⟨l.xs[i].x.lo, t[i].y⟩))) 1 (i * 2 + 1) [.pure (.int .i64 v)] = some (.cells true (rowOf Pt.cells (t.set i ⟨l.xs[i].x.lo, v⟩))) := fun v => by
      have := putIn_py (l := t.set i ⟨l.xs[i].x.lo, t[i].y⟩) (i := i) (by simpa using ht) v
      rw [List.set_set] at this
      simpa using this
    have q3 : loadIn (.cells true (rowOf Pt.cells (t.set i ⟨l.xs[i].x.lo, t[i].y⟩))) 1 (i * 2 + 1) = some [.pure (.int .i64 t[i].y)] := by
      rw [loadIn_rowF (f := Pt.cells) (sz := 2) (fun _ => rfl) (by simpa using ht) (by decide)]
      simp
    by_cases hx : t[i].x < l.xs[i].x.hi
    · have hs : stepX l.xs[i] t[i] = some ⟨t[i].x + 1, t[i].y⟩ := by unfold stepX; rw [if_pos hx]
      rw [hs] at hst
      have hst := Hide.mk hst
      clear hne hti hs hJ hcl'
      (repeat' first | simp [*, initEnv] | (refine wpIf_two (fun _ h => ?_) (fun _ h => ?_) <;> try simp [-Nat.le_zero_eq] at h))
      refine hk.h true _ (t.set i ⟨t[i].x + 1, t[i].y⟩) hnx (fun j hj => ?_) (get_set_own hid) (htl'.h _) (fun _ => hst.h) (fun h => by cases h)
      rw [get_set_ne hj]; exact hsame.h j hj
    · by_cases hy : t[i].y < l.xs[i].y.hi
      · have hs : stepX l.xs[i] t[i] = some ⟨l.xs[i].x.lo, t[i].y + 1⟩ := by unfold stepX; rw [if_neg hx, if_pos hy]
        rw [hs] at hst
        have hst := Hide.mk hst
        clear hne hti hs hJ hcl'
        (repeat' first | simp [*, initEnv] | (refine wpIf_two (fun _ h => ?_) (fun _ h => ?_) <;> try simp [-Nat.le_zero_eq] at h))
        refine hk.h true _ (t.set i ⟨l.xs[i].x.lo, t[i].y + 1⟩) hnx (fun j hj => ?_) (gs2 _ _) (htl'.h _) (fun _ => hst.h) (fun h => by cases h)
        rw [get_set_ne hj, get_set_ne hj]; exact hsame.h j hj
      · have hs : stepX l.xs[i] t[i] = none := by unfold stepX; rw [if_neg hx, if_neg hy]
        have hne := Hide.mk (hne hs)
        clear hst hti hs hJ hcl'
        (repeat' first | simp [*, initEnv] | (refine wpIf_two (fun _ h => ?_) (fun _ h => ?_) <;> try simp [-Nat.le_zero_eq] at h))
        refine ⟨i + 1, by omega, by omega, by omega, ⟨fun j hj => ?_⟩, t.set i (lowB l.xs[i]), rfl, hne⟩
        rw [get_set_ne hj, get_set_ne hj]; exact hsame.h j hj
  · have hil : i = l.xs.length := by omega
    subst hil
    have hst := hJ.h.stop hcl.h
    have hst := Hide.mk hst
    have htl := hJ.h.len
    have hcl' := hcl.h
    clear hJ
    (repeat' first | simp [*, initEnv] | (refine wpIf_two (fun _ h => ?_) (fun _ h => ?_) <;> try simp [-Nat.le_zero_eq] at h))
    exact hk.h false _ t hnx hsame.h hg' (by omega) (fun h => by cases h) (fun _ => hst.h)
end Go.Proofs.Ytmghcpdpilgplaa.Vm

namespace Go.Proofs.Ytmghcpdpilgplaa.Vm
open Go
set_option linter.unusedSimpArgs false
set_option linter.unusedVariables false
set_option linter.unusedSectionVars false
set_option maxHeartbeats 4000000

def withNot (f : Fact) (b : Bool) : Fact := { f with nt := b }
theorem formed_not (f : Fact) (b : Bool) (n : Int) : formedB (withNot f b) n = formedB f n := rfl
theorem bare_not (f : Fact) (b : Bool) (l : List Box) : bareS (withNot f b) l = bareS f l := rfl
theorem fine_not (f : Fact) (b : Bool) (l : List Box) : fineB (withNot f b) l = fineB f l := rfl
theorem okT_box {b : Box} (h : okT b = true) : boxB b = true ∧ wfB b ∧ boxIn 1048576 b := by
  have := okT_iff.1 h
  refine ⟨?_, ⟨by omega, by omega⟩, ?_⟩
  · unfold boxB validB spanB
    simp only [Bool.and_eq_true, decide_eq_true_eq]
    omega
  · unfold boxIn; omega
/-- The value of a bare fact at points. -/
def atV (f : Fact) (c : List Pt) : Bool := (bareS f (c.map atB)).1
theorem named_of {f : Fact} {n : Nat} (h : formedB f n = true) : Named f n := by
  have h' := (formedB_iff f n).1 h
  refine ⟨by omega, by omega, ?_⟩
  by_cases hk : f.kind = 2
  · have := h'.2.2.2.2.2.1 hk; omega
  · have := h'.2.2.2.2.2.2 hk; omega
theorem bare3_noC {f : Fact} (hk : ¬ f.kind = 2) (a b c c' : Box) : bare3 f a b c = bare3 f a b c' := by unfold bare3; simp only [if_neg hk]
section
variable {f : Fact} {l : List Box} (hok : ∀ b ∈ l, okT b = true) (hf : fineB f l = true)
include hok
theorem corn_in {c : List Pt} (hc : c ∈ allX l) : c.length = l.length ∧ ∀ k (h : k < l.length) (h' : k < c.length), inB' c[k] l[k] := mem_allX.1 hc
theorem corn_okP {c : List Pt} (hc : c ∈ allX l) : ∀ p ∈ c, okP p := by
  obtain ⟨h1, h2⟩ := corn_in hok hc
  intro p hp
  obtain ⟨i, hi, rfl⟩ := List.mem_iff_getElem.1 hp
  have h3 := h2 i (by omega) hi
  have h4 := okT_iff.1 (hok _ (List.getElem_mem (show i < l.length by omega)))
  unfold inB' at h3
  unfold okP
  omega
theorem corn_valid {c : List Pt} (hc : c ∈ allX l) : ∀ b ∈ c.map atB, validB b = true := by
  intro b hb
  obtain ⟨p, hp, rfl⟩ := List.mem_map.1 hb
  have := corn_okP hok hc p hp
  rw [valid_iff]
  unfold okP at this
  simp only [atB]
  omega
include hf
theorem corn_fine {c : List Pt} (hc : c ∈ allX l) : fineB f (c.map atB) = true := by
  have h1 := (corn_in hok hc).1
  unfold fineB at hf ⊢
  rw [Bool.and_eq_true] at hf ⊢
  exact ⟨List.all_eq_true.2 (corn_valid hok hc), by rw [List.length_map, h1]; exact hf.2⟩
theorem corn_holds {c : List Pt} (hc : c ∈ allX l) : holdsB (withNot f false) c = atV f c ∧ holdsB (withNot f true) c = !atV f c := by
  have hfi := corn_fine hok hf hc
  have h2 := bareS_at (fine_ok hfi)
  unfold holdsB failsS atV
  rw [fine_not, fine_not, hfi, bare_not, bare_not]
  exact ⟨by simp [withNot], by simp [withNot, h2]⟩
theorem corn_tight {c : List Pt} (hc : c ∈ allX l) : tight (bareS f (c.map atB)) (bareS f l) := by
  obtain ⟨h1, h2⟩ := corn_in hok hc
  have hn : Named f l.length := by
    unfold fineB at hf
    rw [Bool.and_eq_true] at hf
    exact named_of hf.2
  refine bare_tight hn ⟨by simp [h1], fun i h h' => ?_⟩ (fun b hb => ?_) (fun b hb => (okT_box (hok b hb)).2.1)
  · have h3 := h2 i h' (by simpa using h)
    rw [List.getElem_map]
    unfold inB' at h3
    unfold subB subS atB
    simp only
    omega
  · obtain ⟨p, hp, rfl⟩ := List.mem_map.1 hb
    exact ⟨Int.le_refl _, Int.le_refl _⟩
theorem corn_pick (h3 : l.length = 3) {p q r : Pt} {a b c : Nat} (ha : a < 3) (hb : b < 3) (hc : c < 3) (hab : a ≠ b) (hp : inB' p (l[a]'(by omega))) (hq : inB' q (l[b]'(by omega))) (hr : c ≠ a → c ≠ b → inB' r (l[c]'(by omega))) :
    ∃ t, t ∈ allX l ∧ t.length = 3 ∧ t[a]? = some p ∧ t[b]? = some q ∧ (c ≠ a → c ≠ b → t[c]? = some r) := by
  have hlow : ∀ i (h : i < l.length), inB' (lowB l[i]) l[i] := fun i h => by
    have := okT_iff.1 (hok _ (List.getElem_mem h))
    unfold inB' lowB
    simp only
    omega
  let t0 : List Pt := l.map lowB
  let t : List Pt := ((t0.set c r).set b q).set a p
  have ht : t.length = 3 := by simp [t, t0, h3]
  by_cases hcc : c ≠ a ∧ c ≠ b
  · refine ⟨t, mem_allX.2 ⟨by omega, fun k h h' => ?_⟩, ht, ?_, ?_, fun _ _ => ?_⟩
    · simp only [t, List.getElem_set]
      split
      · rename_i e; subst e; exact hp
      · split
        · rename_i e; subst e; exact hq
        · split
          · rename_i e; subst e; exact hr hcc.1 hcc.2
          · simp only [t0, List.getElem_map]; exact hlow k h
    · simp [t, t0, List.getElem?_set, h3, ha]
    · simp [t, t0, List.getElem?_set, h3, hb, hab]
    · simp [t, t0, List.getElem?_set, h3, hc, hcc.1, hcc.2, Ne.symm hcc.1, Ne.symm hcc.2]
  · let u : List Pt := (t0.set b q).set a p
    have hu : u.length = 3 := by simp [u, t0, h3]
    refine ⟨u, mem_allX.2 ⟨by omega, fun k h h' => ?_⟩, hu, ?_, ?_, fun h1 h2 => absurd ⟨h1, h2⟩ hcc⟩
    · simp only [u, List.getElem_set]
      split
      · rename_i e; subst e; exact hp
      · split
        · rename_i e; subst e; exact hq
        · simp only [t0, List.getElem_map]; exact hlow k h
    · simp [u, t0, List.getElem?_set, h3, ha]
    · simp [u, t0, List.getElem?_set, h3, hb, hab]
theorem corn_idx (h3 : l.length = 3) : ∃ a b : Nat, a < 3 ∧ b < 3 ∧ a ≠ b ∧ f.a.toNat = a ∧ f.b.toNat = b ∧ (f.kind = 2 → f.c.toNat < 3 ∧ f.c.toNat ≠ a ∧ f.c.toNat ≠ b) := by
  unfold fineB at hf
  rw [Bool.and_eq_true] at hf
  have h := (formedB_iff f l.length).1 hf.2
  exact ⟨f.a.toNat, f.b.toNat, by omega, by omega, by omega, rfl, rfl, fun hk => by have := h.2.2.2.2.2.1 hk; omega⟩
omit hok hf in
theorem corn_at {a b : Nat} (ea : f.a.toNat = a) (eb : f.b.toNat = b) {t : List Pt} {p q r : Pt} (hp : t[a]? = some p) (hq : t[b]? = some q) (hr : f.kind = 2 → t[f.c.toNat]? = some r) : atV f t = bareV f p q r := by
  have g : ∀ (i : Nat) (x : Pt), t[i]? = some x → (t.map atB)[i]! = atB x := fun i x hx => by
    rw [getElem!_def, List.getElem?_map, hx]; rfl
  unfold atV
  rw [bareS_3, ea, eb, g _ _ hp, g _ _ hq]
  by_cases hk : f.kind = 2
  · rw [g _ _ (hr hk), bare3_at]
  · rw [bare3_noC hk _ _ _ (atB r), bare3_at]
theorem corn_must (h3 : l.length = 3) : (bareS f l).2 = true ↔ ∀ c ∈ allX l, atV f c = true := by
  constructor
  · intro h c hc
    unfold atV
    rw [bareS_at (fine_ok (corn_fine hok hf hc))]
    exact (corn_tight hok hf hc).2 h
  · intro h
    obtain ⟨a, b, ha, hb, hab, ea, eb, hc⟩ := corn_idx hok hf h3
    have hw : ∀ i (h : i < l.length), wfB l[i] := fun i h => (okT_box (hok _ (List.getElem_mem h))).2.1
    rw [bareS_3, ea, eb, getElem!_pos l a (by omega), getElem!_pos l b (by omega)]
    by_cases hk : f.kind = 2
    · obtain ⟨h1, h2, h4⟩ := hc hk
      rw [getElem!_pos l f.c.toNat (by omega)]
      refine must_of_all (hw _ _) (hw _ _) (hw _ _) fun p q r hp hq hr => ?_
      obtain ⟨t, t1, t2, t3, t4, t5⟩ := corn_pick hok hf h3 ha hb h1 hab hp hq (fun _ _ => hr)
      rw [← corn_at ea eb t3 t4 (fun _ => t5 h2 h4)]
      exact h t t1
    · rw [bare3_noC hk _ _ _ l[a]]
      refine must_of_all (hw _ _) (hw _ _) (hw _ _) fun p q r hp hq hr => ?_
      obtain ⟨t, t1, t2, t3, t4, t5⟩ := corn_pick (r := r) hok hf h3 ha hb ha hab hp hq (fun h => absurd rfl h)
      rw [← corn_at ea eb t3 t4 (fun h => absurd h hk)]
      exact h t t1
theorem corn_can {c : List Pt} (hc : c ∈ allX l) (h : atV f c = true) : (bareS f l).1 = true := (corn_tight hok hf hc).1 h
theorem corn_exact (h3 : l.length = 3) (hk : f.kind = 3 ∨ f.kind = 4 ∨ f.kind = 5 ∨ f.kind = 6) (h : (bareS f l).1 = true) : ∃ c ∈ allX l, atV f c = true := by
  obtain ⟨a, b, ha, hb, hab, ea, eb, hc⟩ := corn_idx hok hf h3
  have hw : ∀ i (h : i < l.length), wfB l[i] := fun i h => (okT_box (hok _ (List.getElem_mem h))).2.1
  have hk2 : ¬ f.kind = 2 := by omega
  have hsp : f.span.lo ≤ f.span.hi := by
    unfold fineB at hf
    rw [Bool.and_eq_true] at hf
    have := (formedB_iff f l.length).1 hf.2
    omega
  rw [bareS_3, ea, eb, getElem!_pos l a (by omega), getElem!_pos l b (by omega), bare3_noC hk2 _ _ _ l[a]] at h
  obtain ⟨p, q, r, hp, hq, hr, hv⟩ := can_ex (hw _ _) (hw _ _) (hw _ _) hk hsp h
  obtain ⟨t, t1, t2, t3, t4, t5⟩ := corn_pick (r := r) hok hf h3 ha hb ha hab hp hq (fun h => absurd rfl h)
  exact ⟨t, t1, by rw [corn_at (r := r) ea eb t3 t4 (fun h => absurd h hk2)]; exact hv⟩
end
end Go.Proofs.Ytmghcpdpilgplaa.Vm
