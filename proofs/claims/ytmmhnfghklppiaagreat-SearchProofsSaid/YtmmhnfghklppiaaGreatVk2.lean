/- How the machine of values stands to the model's memory: the relations, and what keeps them. -/
import Derived.Test.YtmmhnfghklppiaaGreatVk1
import Derived.Below
set_option linter.unusedVariables false
set_option linter.unusedSimpArgs false
namespace Go.Proofs.YtmmhnfghklppiaaGreat.Vm
open Go Go.RowKit
inductive bA (I:Bool->Nat->Prop) (w:World):PV->Value->Prop
 | int (k:IntKind) (n:Int):bA I w (.int k n) (.int k n)
 | bool (b:Bool):bA I w (.bool b) (.bool b)
 | str (s:ByteArray):bA I w (.str s) (.string s)
 | agg (cs:List PV) (vs:Array Value) (hl:cs.length=vs.size) (h:∀ (i:Nat) p v,cs[i]?=some p->vs[i]?=some v->bA I w p v):bA I w (.agg cs) (.agg vs)
 | aM (cs:List PV) (vs:Array Value) (hl:cs.length=vs.size) (h:∀ (i:Nat) p v,cs[i]?=some p->vs[i]?=some v->bA I w p v):bA I w (.aM cs) (.tuple vs)
 | nils:bA I w .nils (.slice none 0 0)
 | slice (k:Bool) (sz:Nat) (es:List (List PV)) (b o len cap:Nat) (val:Nat->Nat->Value) (hlen:es.length=len) (hc:len<=cap)
   (hz:∀ (i:Nat) e,es[i]?=some e->e.length=sz)
   (hm:∀ (i:Nat) e (j:Nat) p,es[i]?=some e->e[j]?=some p->I k b/\w.cell? ⟨b,o+i*sz+j,none⟩=some (val i j))
   (h:∀ (i:Nat) e (j:Nat) p,es[i]?=some e->e[j]?=some p->bA I w p (val i j)):bA I w (.slice k sz es) (.slice (some ⟨b,o,none⟩) len cap)
 | jU:bA I w .jU (.pointer none)
 | ptr (k:Bool) (cs:List PV) (off b o o':Nat) (val:Nat->Value) (ho:o'=o+off)
   (hm:∀ (j:Nat) p,cs[j]?=some p->I k b/\w.cell? ⟨b,o+j,none⟩=some (val j))
   (h:∀ (j:Nat) p,cs[j]?=some p->bA I w p (val j)):bA I w (.ptr k cs off) (.pointer (some ⟨b,o',none⟩))
 | func (f:Nat) (cs:List PV) (vs:Array Value) (hl:cs.length=vs.size) (h:∀ (i:Nat) p v,cs[i]?=some p->vs[i]?=some v->bA I w p v):bA I w (.func f cs) (.func (.func f) #[] vs)
 | jV:bA I w .jV .nilFunc
 | jH (f:Nat) (cs:List PV) (vs:Array Value) (hl:cs.length=vs.size) (h:∀ (i:Nat) p v,cs[i]?=some p->vs[i]?=some v->bA I w p v):bA I w (.jH f cs) (.func (.func f) vs #[])
theorem bA.mono {I I':Bool->Nat->Prop} {w w':World} (hI:∀ k b,I k b->I' k b/\w'.heap[b]?=w.heap[b]?) {p:PV} {v:Value} (h:bA I w p v):bA I' w' p v:=by
 induction h with
 | int k n=>exact .int k n
 | bool b=>exact .bool b
 | str s=>exact .str s
 | agg cs vs hl _ ih=>exact .agg cs vs hl ih
 | aM cs vs hl _ ih=>exact .aM cs vs hl ih
 | nils=>exact .nils
 | slice k sz es b o len cap val hlen hc hz hm _ ih =>
  refine .slice k sz es b o len cap val hlen hc hz (fun i e j p he hp=>?_) ih
  obtain ⟨h1,h2⟩:=hm i e j p he hp;exact ⟨(hI _ _ h1).1,(World.cell?_of_block (a:=⟨b,o+i*sz+j,none⟩) (hI _ _ h1).2).trans h2⟩
 | jU=>exact .jU
 | ptr k cs off b o o' val ho hm _ ih =>
  refine .ptr k cs off b o o' val ho (fun j p hp=>?_) ih
  obtain ⟨h1,h2⟩:=hm j p hp;exact ⟨(hI _ _ h1).1,(World.cell?_of_block (a:=⟨b,o+j,none⟩) (hI _ _ h1).2).trans h2⟩
 | func f cs vs hl _ ih=>exact .func f cs vs hl ih
 | jV=>exact .jV
 | jH f cs vs hl _ ih=>exact .jH f cs vs hl ih
abbrev iX:=Nat->Option (Nat×Nat)
inductive aA (I:Bool->Nat->Prop) (φ:iX) (w:World):AV->Value->Prop
 | undef (v:Value):aA I φ w .undef v
 | pure (p:PV) (v:Value) (h:bA I w p v):aA I φ w (.pure p) v
 | box (id off b n:Nat) (h:φ id=some (b,n)):aA I φ w (.box id off) (.pointer (some ⟨b,off,none⟩))
 | row (id sz off len b n o cap:Nat) (h:φ id=some (b,n)) (ho:o=off*sz) (hc:len<=cap) (hn:(off+cap)*sz=n):aA I φ w (.row id sz off len) (.slice (some ⟨b,o,none⟩) len cap)
 | agg (cs:List AV) (vs:Array Value) (hl:cs.length=vs.size) (h:∀ (i:Nat) p v,cs[i]?=some p->vs[i]?=some v->aA I φ w p v):aA I φ w (.agg cs) (.agg vs)
 | aM (cs:List AV) (vs:Array Value) (hl:cs.length=vs.size) (h:∀ (i:Nat) p v,cs[i]?=some p->vs[i]?=some v->aA I φ w p v):aA I φ w (.aM cs) (.tuple vs)
 | func (f:Nat) (cs:List AV) (vs:Array Value) (hl:cs.length=vs.size) (h:∀ (i:Nat) p v,cs[i]?=some p->vs[i]?=some v->aA I φ w p v):aA I φ w (.func f cs) (.func (.func f) #[] vs)
 | yield (id b n:Nat) (h:φ id=some (b,n)):aA I φ w (.yield id) (.func (.yield b) #[] #[])
 | void (id sz b:Nat) (h:φ id=some (b,0)):aA I φ w (.void id sz) (.slice (some ⟨b,0,none⟩) 0 0)
 | jr (id b n:Nat) (h:φ id=some (b,n)):aA I φ w (.jr id) (.map (some b))
 | jI (id sz off len b n o:Nat) (h:φ id=some (b,n)) (ho:o=off*sz):aA I φ w (.jI id sz off len) (.slice (some ⟨b,o,none⟩) len len)
theorem aA.mono {I I':Bool->Nat->Prop} {φ φ':iX} {w w':World} (hI:∀ k b,I k b->I' k b/\w'.heap[b]?=w.heap[b]?) (hφ:∀ id x,φ id=some x->φ' id=some x)
  {a:AV} {v:Value} (h:aA I φ w a v):aA I' φ' w' a v:=by
 induction h with
 | undef v=>exact .undef v
 | pure p v h=>exact .pure p v (h.mono hI)
 | box id off b n h=>exact .box id off b n (hφ _ _ h)
 | row id sz off len b n o cap h ho hc hn=>exact .row id sz off len b n o cap (hφ _ _ h) ho hc hn
 | agg cs vs hl _ ih=>exact .agg cs vs hl ih
 | aM cs vs hl _ ih=>exact .aM cs vs hl ih
 | func f cs vs hl _ ih=>exact .func f cs vs hl ih
 | yield id b n h=>exact .yield id b n (hφ _ _ h)
 | void id sz b h=>exact .void id sz b (hφ _ _ h)
 | jr id b n h=>exact .jr id b n (hφ _ _ h)
 | jI id sz off len b n o h ho=>exact .jI id sz off len b n o (hφ _ _ h) ho
section
variable {I:Bool->Nat->Prop} {φ:iX} {w:World} {v:Value}
theorem bA.bf {k:IntKind} {n:Int} (h:bA I w (.int k n) v):v=.int k n:=by cases h;rfl
theorem bA.fM {b:Bool} (h:bA I w (.bool b) v):v=.bool b:=by cases h;rfl
theorem bA.iF {s:ByteArray} (h:bA I w (.str s) v):v=.string s:=by cases h;rfl
theorem bA.iG (h:bA I w .nils v):v=.slice none 0 0:=by cases h;rfl
theorem bA.Ei (h:bA I w .jU v):v=.pointer none:=by cases h;rfl
theorem bA.Ej (h:bA I w .jV v):v=.nilFunc:=by cases h;rfl
theorem aA.au {p:PV} (h:aA I φ w (.pure p) v):bA I w p v:=by cases h;assumption
theorem aA.bf {k:IntKind} {n:Int} (h:aA I φ w (.pure (.int k n)) v):v=.int k n:=h.au.bf
theorem aA.fM {b:Bool} (h:aA I φ w (.pure (.bool b)) v):v=.bool b:=h.au.fM
theorem aA.iF {s:ByteArray} (h:aA I φ w (.pure (.str s)) v):v=.string s:=h.au.iF
theorem aA.jP {id off:Nat} (h:aA I φ w (.box id off) v):∃ b n,φ id=some (b,n)/\v=.pointer (some ⟨b,off,none⟩):=by
 cases h with
 | box _ _ b n h=>exact ⟨b,n,h,rfl⟩
theorem aA.iq {id sz off len:Nat} (h:aA I φ w (.row id sz off len) v) :
  ∃ b n cap,φ id=some (b,n)/\v=.slice (some ⟨b,off*sz,none⟩) len cap/\len<=cap/\(off+cap)*sz=n:=by
 cases h with
 | row _ _ _ _ b n o cap h ho hc hn=>exact ⟨b,n,cap,h,by rw [ho],hc,hn⟩
theorem aA.CE {id:Nat} (h:aA I φ w (.yield id) v):∃ b n,φ id=some (b,n)/\v=.func (.yield b) #[] #[]:=by
 cases h with
 | yield _ b n h=>exact ⟨b,n,h,rfl⟩
theorem aA.rE {id:Nat} (h:aA I φ w (.jr id) v):∃ b n,φ id=some (b,n)/\v=.map (some b):=by
 cases h with
 | jr _ b n h=>exact ⟨b,n,h,rfl⟩
theorem aA.vT {id sz off len:Nat} (h:aA I φ w (.jI id sz off len) v):∃ b n,φ id=some (b,n)/\v=.slice (some ⟨b,off*sz,none⟩) len len:=by
 cases h with
 | jI _ _ _ _ b n o h ho=>exact ⟨b,n,h,by rw [ho]⟩
theorem aA.Em {id sz:Nat} (h:aA I φ w (.void id sz) v):∃ b,φ id=some (b,0)/\v=.slice (some ⟨b,0,none⟩) 0 0:=by
 cases h with
 | void _ _ b h=>exact ⟨b,h,rfl⟩
theorem aA.jA {f:Nat} {cs:List AV} (h:aA I φ w (.func f cs) v):∃ vs,v=.func (.func f) #[] vs/\cs.length=vs.size/\∀ (i:Nat) p v,cs[i]?=some p->vs[i]?=some v->aA I φ w p v:=by
 cases h with
 | func _ _ vs hl h=>exact ⟨vs,rfl,hl,h⟩
theorem aA.qW {cs:List AV} (h:aA I φ w (.aM cs) v):∃ vs,v=.tuple vs/\cs.length=vs.size/\∀ (i:Nat) p v,cs[i]?=some p->vs[i]?=some v->aA I φ w p v:=by
 cases h with
 | aM _ vs hl h=>exact ⟨vs,rfl,hl,h⟩
theorem bA.qW {cs:List PV} (h:bA I w (.aM cs) v):∃ vs,v=.tuple vs/\cs.length=vs.size/\∀ (i:Nat) p v,cs[i]?=some p->vs[i]?=some v->bA I w p v:=by
 cases h with
 | aM _ vs hl h=>exact ⟨vs,rfl,hl,h⟩
theorem bA.jA {f:Nat} {cs:List PV} (h:bA I w (.func f cs) v):∃ vs,v=.func (.func f) #[] vs/\cs.length=vs.size/\∀ (i:Nat) p v,cs[i]?=some p->vs[i]?=some v->bA I w p v:=by
 cases h with
 | func _ _ vs hl h=>exact ⟨vs,rfl,hl,h⟩
theorem bA.En {f:Nat} {cs:List PV} (h:bA I w (.jH f cs) v):∃ vs,v=.func (.func f) vs #[]/\cs.length=vs.size/\∀ (i:Nat) p v,cs[i]?=some p->vs[i]?=some v->bA I w p v:=by
 cases h with
 | jH _ _ vs hl h=>exact ⟨vs,rfl,hl,h⟩
end
def az (I:Bool->Nat->Prop) (φ:iX) (w:World) (cs:List AV) (vs:List Value):Prop :=
 cs.length=vs.length/\∀ (i:Nat) p v,cs[i]?=some p->vs[i]?=some v->aA I φ w p v
section
variable {I:Bool->Nat->Prop} {φ:iX} {w:World}
theorem az.nil:az I φ w [] []:=⟨rfl,fun i p v h=>by simp at h⟩
theorem az.cons {c:AV} {v:Value} {cs:List AV} {vs:List Value} (h:aA I φ w c v) (hs:az I φ w cs vs):az I φ w (c::cs) (v::vs) :=
 ⟨by simp [hs.1],fun i p u hp hu=>by
  cases i with
  | zero=>simp at hp hu;subst hp;subst hu;exact h
  | succ i=>simp at hp hu;exact hs.2 i p u hp hu⟩
theorem az.cons_inv {c:AV} {cs:List AV} {vs:List Value} (h:az I φ w (c::cs) vs):∃ v vs',vs=v::vs'/\aA I φ w c v/\az I φ w cs vs':=by
 cases vs with
 | nil=>have:=h.1;simp at this
 | cons v vs=>exact ⟨v,vs,rfl,h.2 0 c v rfl rfl,by have:=h.1;simpa using this,fun i p u hp hu=>h.2 (i+1) p u (by simpa using hp) (by simpa using hu)⟩
theorem az.lQ {vs:List Value} (h:az I φ w [] vs):vs=[]:=List.eq_nil_of_length_eq_zero h.1.symm
theorem az.mono {I':Bool->Nat->Prop} {φ':iX} {w':World} (hI:∀ k b,I k b->I' k b/\w'.heap[b]?=w.heap[b]?) (hφ:∀ id x,φ id=some x->φ' id=some x) {cs:List AV} {vs:List Value}
  (h:az I φ w cs vs):az I' φ' w' cs vs:=⟨h.1,fun i p v hp hv=>(h.2 i p v hp hv).mono hI hφ⟩
theorem az.append {cs ds:List AV} {vs us:List Value} (h:az I φ w cs vs) (k:az I φ w ds us):az I φ w (cs++ds) (vs++us) :=
 ⟨by simp [h.1,k.1],fun i p v hp hv=>by
  by_cases hi:i < cs.length
  .rw [List.getElem?_append_left hi] at hp;rw [List.getElem?_append_left (by rw [<- h.1];exact hi)] at hv;exact h.2 i p v hp hv
  .rw [List.getElem?_append_right (by omega)] at hp;rw [List.getElem?_append_right (by rw [<- h.1];omega),<- h.1] at hv;exact k.2 _ p v hp hv⟩
theorem az.drop {cs:List AV} {vs:List Value} (h:az I φ w cs vs) (n:Nat):az I φ w (cs.drop n) (vs.drop n) :=
 ⟨by simp [h.1],fun i p v hp hv=>h.2 (n+i) p v (by simpa using hp) (by simpa using hv)⟩
theorem az.take {cs:List AV} {vs:List Value} (h:az I φ w cs vs) (n:Nat):az I φ w (cs.take n) (vs.take n) :=
 ⟨by simp [h.1],fun i p v hp hv=>by
  have hi:i < n:=by
   have:=(List.getElem?_eq_some_iff.1 hp).1;simp at this;omega
  rw [List.getElem?_take_of_lt hi] at hp hv;exact h.2 i p v hp hv⟩
theorem az.pG {cs:List AV} {vs:Array Value} (hl:cs.length=vs.size) (h:∀ (i:Nat) p v,cs[i]?=some p->vs[i]?=some v->aA I φ w p v):az I φ w cs vs.toList :=
 ⟨by simpa using hl,fun i p v hp hv=>h i p v hp (by simpa using hv)⟩
theorem az.nD {ps:List PV} {vs:List Value} (hl:ps.length=vs.length) (h:∀ (i:Nat) p v,ps[i]?=some p->vs[i]?=some v->bA I w p v):az I φ w (ps.map .pure) vs :=
 ⟨by simpa using hl,fun i p v hp hv=>by
  rw [List.getElem?_map] at hp
  cases hq:ps[i]? with
  | none=>rw [hq] at hp;simp at hp
  | some q=>rw [hq] at hp;simp at hp;subst hp;exact .pure q v (h i q v hq hv)⟩
theorem aA.cells {a:AV} {v:Value} (h:aA I φ w a v) (ha:a≠.undef):az I φ w a.cells v.cells.toList:=by
 cases h with
 | undef=>exact absurd rfl ha
 | agg cs vs hl h=>exact .pG hl h
 | pure p v h =>
  cases h with
  | agg cs vs hl h =>
   exact az.nD (by simpa [Value.cells] using hl) fun i p v hp hv=>h i p v hp (by simpa [Value.cells] using hv)
  | int=>exact .cons (.pure _ _ (.int ..)) .nil
  | bool=>exact .cons (.pure _ _ (.bool ..)) .nil
  | str=>exact .cons (.pure _ _ (.str ..)) .nil
  | aM cs vs hl h=>exact .cons (.pure _ _ (.aM cs vs hl h)) .nil
  | nils=>exact .cons (.pure _ _ .nils) .nil
  | slice k sz es b o len cap val hlen hc hz hm h=>exact .cons (.pure _ _ (.slice k sz es b o len cap val hlen hc hz hm h)) .nil
  | jU=>exact .cons (.pure _ _ .jU) .nil
  | ptr k cs off b o o' val ho hm h=>exact .cons (.pure _ _ (.ptr k cs off b o o' val ho hm h)) .nil
  | func f cs vs hl h=>exact .cons (.pure _ _ (.func f cs vs hl h)) .nil
  | jV=>exact .cons (.pure _ _ .jV) .nil
  | jH f cs vs hl h=>exact .cons (.pure _ _ (.jH f cs vs hl h)) .nil
 | box id off b n h=>exact .cons (.box id off b n h) .nil
 | row id sz off len b n o cap h ho hc hn=>exact .cons (.row id sz off len b n o cap h ho hc hn) .nil
 | aM cs vs hl h=>exact .cons (.aM cs vs hl h) .nil
 | func f cs vs hl h=>exact .cons (.func f cs vs hl h) .nil
 | yield id b n h=>exact .cons (.yield id b n h) .nil
 | void id sz b h=>exact .cons (.void id sz b h) .nil
 | jr id b n h=>exact .cons (.jr id b n h) .nil
 | jI id sz off len b n o h ho=>exact .cons (.jI id sz off len b n o h ho) .nil
theorem aA.one {a:AV} {v:Value} (h:aA I φ w a v) (ha:a.one=true):v.oneCell'=true:=by
 cases h with
 | undef=>simp [AV.one] at ha
 | agg=>simp [AV.one] at ha
 | aM=>simp [AV.one] at ha
 | pure p v h=>cases h<;>first|rfl|simp [AV.one] at ha
 | _=>rfl
end
section
variable {H:Heap} {id i:Nat} {o:aR}
theorem zi3:(H.alloc o).get i=if i=H.nx then o else H.get i:=by
 unfold Heap.get Heap.alloc upd
 by_cases h:i=H.nx
 .subst h;simp
 .simp only [h,if_false]
  by_cases h2:i < H.nx
  .rw [if_pos h2,if_pos (by omega)]
  .rw [if_neg h2,if_neg (by omega)]
theorem KT:(H.alloc o).get H.nx=o:=by rw [zi3,if_pos rfl]
theorem Jm (h:i≠H.nx):(H.alloc o).get i=H.get i:=by rw [zi3,if_neg h]
theorem zh (h:i≠id):(H.set id o).get i=H.get i:=by
 unfold Heap.get Heap.set upd;simp [h]
theorem Jn (h:id < H.nx):(H.set id o).get id=o:=by
 unfold Heap.get Heap.set upd;simp [h]
theorem zid (ids:List Nat):(H.freeze ids).get i=if ids.contains i then (H.get i).freeze else H.get i:=by
 unfold Heap.get Heap.freeze
 by_cases h:i < H.nx
 .simp [h]
 .simp [h,aR.freeze]
theorem O5 (h:H.get i≠.dead):i < H.nx:=by
 unfold Heap.get at h
 split at h
 .assumption
 .exact absurd rfl h
end
def aR.live:aR->Bool
 | .cells true _|.loop _|.raw _|.iC _=>true
 | _=>false
def aR.bQ:aR->Bool
 | .dead=>true
 | _=>false
def Bo (φ:iX) (H:Heap) (b:Nat):Prop:=∃ id n,φ id=some (b,n)/\(H.get id).live=true
def aQ (S:Bool->Nat->Prop) (base:Nat) (φ:iX) (H:Heap) (w:World) (k:Bool) (b:Nat):Prop:=(S k b\/base<=b)/\b < w.heap.size/\¬ Bo φ H b
def Vu:bW->Exit
 | .normal=>.normal
 | .exit id=>.exit id
 | .ret=>.ret
def zqW:bW->Option Code
 | .normal=>none
 | .exit id=>some (.exit id)
 | .ret=>some .ret
def zon:yu->LoopState
 | .ready=>.ready
 | .busy=>.busy
 | .done=>.done
abbrev iT:=Nat->Code->aP->Prop
def sQ (C:iT) (I:Bool->Nat->Prop) (φ:iX) (w:World) (o:aR) (b n:Nat):Prop :=
 match o with
 | .dead=>True
 | .cells _ cs=>∃ (c:Array Value) (e:TypeId) (fz:Nat×Nat),w.heap[b]?=some (.cells c e fz)/\c.size=n/\cs.length<=n/\(∀ j,j < n->¬ (fz.1<=j/\j < fz.2)) /\
   ∀ (j:Nat) a v,cs[j]?=some a->c[j]?=some v->aA I φ w a v
 | .raw z=>∃ (c:Array Value) (e:TypeId) (fz:Nat×Nat),w.heap[b]?=some (.cells c e fz)/\c.size=n/\(z.map AV.pure).length<=n/\(∀ j,j < n->¬ (fz.1<=j/\j < fz.2)) /\
   ∀ (j:Nat) a v,(z.map AV.pure)[j]?=some a->c[j]?=some v->aA I φ w a v
 | .iC es=>∃ (ms:Array MapEntry) (clock:Nat),w.heap[b]?=some (.map ms clock)/\ms.size=es.length /\
   ∀ (j:Nat) k v m,es[j]?=some (k,v)->ms[j]?=some m->bA I w k m.key/\bA I w v m.val
 | .loop r=>∃ l:Loop,w.heap[b]?=some (.loop l)/\l.state=zon r.state/\l.pending=zqW r.pending/\l.params.toList=r.params/\C l.tmps.size l.assign r.assign/\C l.tmps.size l.body r.body /\
   (∀ t,aA I φ w (r.env t) (l.tmps.getD t undef))/\(∀ t,t∈r.params->t < l.tmps.size)
structure aN (C:iT) (S:Bool->Nat->Prop) (base:Nat) (φ:iX) (H:Heap) (w:World):Prop where
 sz:base<=w.heap.size
 out:∀ k b,S k b->b < base
 nx:∀ id x,φ id=some x->id < H.nx
 lt:∀ id b n,φ id=some (b,n)->base<=b/\b < w.heap.size
 obj:∀ id b n,φ id=some (b,n)->sQ C (aQ S base φ H w) φ w (H.get id) b n
 inj:∀ id id' b n n',φ id=some (b,n)->φ id'=some (b,n')->(H.get id).bQ=false->(H.get id').bQ=false->id=id'
structure bY (φ:iX) (H:Heap) (w:World) (φ':iX) (H':Heap) (w':World):Prop where
 phi:∀ id x,φ id=some x->φ' id=some x
 os:w'.os=w.os
 tape:w'.tape=w.tape
 output:w'.output=w.output
 size:w.heap.size<=w'.heap.size
 same:∀ b,b < w.heap.size->¬ Bo φ H b->w'.heap[b]?=w.heap[b]?
 Eo:∀ b,b < w.heap.size->Bo φ' H' b->Bo φ H b
 nx:H.nx<=H'.nx
section
variable {C:iT} {S:Bool->Nat->Prop} {base:Nat} {φ φ' φ'':iX} {H H' H'':Heap} {w w' w'':World}
theorem bY.refl:bY φ H w φ H w:=⟨fun _ _ h=>h,rfl,rfl,rfl,Nat.le_refl _,fun _ _ _=>rfl,fun _ _ h=>h,Nat.le_refl _⟩
theorem bY.trans (h:bY φ H w φ' H' w') (k:bY φ' H' w' φ'' H'' w''):bY φ H w φ'' H'' w'' :=
 ⟨fun id x hx=>k.phi _ _ (h.phi _ _ hx),k.os.trans h.os,k.tape.trans h.tape,k.output.trans h.output,Nat.le_trans h.size k.size,
  fun b hb hm=>(k.same b (Nat.lt_of_lt_of_le hb h.size) fun F4=>hm (h.Eo b hb F4)).trans (h.same b hb hm),
  fun b hb hm=>h.Eo b hb (k.Eo b (Nat.lt_of_lt_of_le hb h.size) hm),Nat.le_trans h.nx k.nx⟩
theorem bY.Bq (h:bY φ H w φ' H' w') {k:Bool} {b:Nat} (hi:aQ S base φ H w k b):aQ S base φ' H' w' k b/\w'.heap[b]?=w.heap[b]? :=
 ⟨⟨hi.1,Nat.lt_of_lt_of_le hi.2.1 h.size,fun hm=>hi.2.2 (h.Eo b hi.2.1 hm)⟩,h.same b hi.2.1 hi.2.2⟩
theorem bY.uQ (h:bY φ H w φ' H' w') {a:AV} {v:Value} (hv:aA (aQ S base φ H w) φ w a v):aA (aQ S base φ' H' w') φ' w' a v :=
 hv.mono (fun _ _ hi=>h.Bq hi) h.phi
theorem bY.of_below (h:Below w.heap.size w w'):bY φ H w φ H w' :=
 ⟨fun _ _ h=>h,h.os,h.tape,h.output,h.size,fun b hb _=>h.block b hb,fun _ _ h=>h,Nat.le_refl _⟩
theorem sQ.mono {I I':Bool->Nat->Prop} {o:aR} {b n:Nat} (hI:∀ k b,I k b->I' k b/\w'.heap[b]?=w.heap[b]?) (hφ:∀ id x,φ id=some x->φ' id=some x) (hb:w'.heap[b]?=w.heap[b]?)
  (h:sQ C I φ w o b n):sQ C I' φ' w' o b n:=by
 cases o with
 | dead=>trivial
 | cells own cs =>
  obtain ⟨c,e,fz,h1,h2,h3,h4,h5⟩:=h;exact ⟨c,e,fz,hb.trans h1,h2,h3,h4,fun j a v ha hv=>(h5 j a v ha hv).mono hI hφ⟩
 | raw z =>
  obtain ⟨c,e,fz,h1,h2,h3,h4,h5⟩:=h;exact ⟨c,e,fz,hb.trans h1,h2,h3,h4,fun j a v ha hv=>(h5 j a v ha hv).mono hI hφ⟩
 | iC es =>
  obtain ⟨ms,ck,h1,h2,h3⟩:=h;exact ⟨ms,ck,hb.trans h1,h2,fun j k v m hk hm=>⟨(h3 j k v m hk hm).1.mono hI,(h3 j k v m hk hm).2.mono hI⟩⟩
 | loop r =>
  obtain ⟨l,h1,h2,h3,h4,h5,h6,h7,h8⟩:=h;exact ⟨l,hb.trans h1,h2,h3,h4,h5,h6,fun t=>(h7 t).mono hI hφ,h8⟩
theorem aN.below (h:aN C S base φ H w) (hb:Below w.heap.size w w'):aN C S base φ H w' :=
 ⟨Nat.le_trans h.sz hb.size,h.out,h.nx,fun id b n aj=>⟨(h.lt id b n aj).1,Nat.lt_of_lt_of_le (h.lt id b n aj).2 hb.size⟩,
  fun id b n aj=>(h.obj id b n aj).mono (fun _ _ hi=>(bY.of_below hb).Bq hi) (fun _ _ h=>h) (hb.block b (h.lt id b n aj).2),h.inj⟩
def Br (φ:iX) (id:Nat) (x:Nat×Nat):iX:=fun i=>if i=id then some x else φ i
theorem yx (id:Nat) (x:Nat×Nat):Br φ id x id=some x:=by simp [Br]
theorem zW {id i:Nat} (x:Nat×Nat) (h:i≠id):Br φ id x i=φ i:=by simp [Br,h]
theorem Nz {id:Nat} {x:Nat×Nat} (h:φ id=none):∀ i y,φ i=some y->Br φ id x i=some y:=fun i y hy=>by
 rw [zW x (fun e=>by rw [e,h] at hy;cases hy)];exact hy
theorem aN.new (h:aN C S base φ H w) (hb:Below w.heap.size w w') {id b n:Nat} {o:aR} (aj:φ id=none) (hH:H'.get id=o) (hold:∀ i,i≠id->φ i≠none->H'.get i=H.get i)
  (fD:id < H'.nx) (yz:H.nx<=H'.nx) (O6:w.heap.size<=b) (NA:b < w'.heap.size) (ho:sQ C (aQ S base φ H w) φ w' o b n) :
  bY φ H w (Br φ id (b,n)) H' w'/\aN C S base (Br φ id (b,n)) H' w':=by
 have aS:∀ i x,φ i=some x->i≠id/\H'.get i=H.get i:=fun i x hx=>by
  have bL:i≠id:=fun e=>by rw [e,aj] at hx;cases hx
  exact ⟨bL,hold i bL (by rw [hx];simp)⟩
 have Ep:∀ c,c < w.heap.size->Bo (Br φ id (b,n)) H' c->Bo φ H c:=by
  rintro c hc ⟨i,m,hi,hl⟩
  by_cases oU:i=id
  .subst oU;rw [yx] at hi;simp at hi;omega
  .rw [zW _ oU] at hi;exact ⟨i,m,hi,by rw [<- (aS i _ hi).2];exact hl⟩
 have mJ:bY φ H w (Br φ id (b,n)) H' w' :=
  ⟨Nz aj,hb.os,hb.tape,hb.output,hb.size,fun c hc _=>hb.block c hc,Ep,yz⟩
 refine ⟨mJ,Nat.le_trans h.sz hb.size,h.out,?_,?_,?_,?_⟩
 .intro i x hx
  by_cases oU:i=id
  .rw [oU];exact fD
  .rw [zW _ oU] at hx;exact Nat.lt_of_lt_of_le (h.nx _ _ hx) yz
 .intro i c m hx
  by_cases oU:i=id
  .subst oU;rw [yx] at hx;simp at hx;have:=h.sz;omega
  .rw [zW _ oU] at hx;have:=h.lt _ _ _ hx;have:=hb.size;omega
 .intro i c m hx
  by_cases oU:i=id
  .subst oU;rw [yx] at hx;simp at hx;obtain ⟨rfl,rfl⟩:=hx;rw [hH];exact ho.mono (fun _ c hc=>⟨(mJ.Bq hc).1,rfl⟩) (Nz aj) rfl
  .rw [zW _ oU] at hx;rw [(aS i _ hx).2];exact (h.obj _ _ _ hx).mono (fun _ c hc=>mJ.Bq hc) (Nz aj) (hb.block c (h.lt _ _ _ hx).2)
 .intro i j c m m' hi hj di dj
  by_cases oU:i=id<;>by_cases Tt:j=id
  .rw [oU,Tt]
  .subst oU;rw [yx] at hi;rw [zW _ Tt] at hj;have:=(h.lt _ _ _ hj).2;simp at hi;omega
  .subst Tt;rw [yx] at hj;rw [zW _ oU] at hi;have:=(h.lt _ _ _ hi).2;simp at hj;omega
  .rw [zW _ oU] at hi;rw [zW _ Tt] at hj;rw [(aS i _ hi).2] at di;rw [(aS j _ hj).2] at dj;exact h.inj _ _ _ _ _ hi hj di dj
theorem aN.write (h:aN C S base φ H w) {id b n:Nat} {o:aR} (aj:φ id=some (b,n)) (vU:(H.get id).live=true)
  (hos:w'.os=w.os) (O7:w'.tape=w.tape) (bZ:w'.output=w.output) (Jo:w'.heap.size=w.heap.size) (ag:∀ c,c≠b->w'.heap[c]?=w.heap[c]?)
  (ho:sQ C (aQ S base φ H w) φ w' o b n) :
  bY φ H w φ (H.set id o) w'/\aN C S base φ (H.set id o) w':=by
 have vV:(H.get id).bQ=false:=by cases hg:H.get id<;>rw [hg] at vU<;>first|rfl|simp [aR.live] at vU
 have sS:∀ i,i≠id->(H.set id o).get i=H.get i:=fun i hi=>zh hi;have Bt:(H.set id o).get id=o:=Jn (h.nx _ _ aj);have Jp:Bo φ H b:=⟨id,n,aj,vU⟩
 have Ep:∀ c,Bo φ (H.set id o) c->Bo φ H c:=by
  rintro c ⟨i,m,hi,hl⟩
  by_cases oU:i=id
  .subst oU;rw [aj] at hi;simp at hi;rw [<- hi.1];exact Jp
  .exact ⟨i,m,hi,by rw [<- sS i oU];exact hl⟩
 have mJ:bY φ H w φ (H.set id o) w' :=
  ⟨fun _ _ h=>h,hos,O7,bZ,by omega,fun c _ hm=>ag c (fun e=>hm (e ▸ Jp)),fun c _=>Ep c,Nat.le_refl _⟩
 refine ⟨mJ,by rw [Jo];exact h.sz,h.out,fun i x hx=>h.nx i x hx,fun i c m hx=>by rw [Jo];exact h.lt _ _ _ hx,?_,?_⟩
 .intro i c m hx
  by_cases oU:i=id
  .subst oU;rw [aj] at hx;simp at hx;obtain ⟨rfl,rfl⟩:=hx;rw [Bt];exact ho.mono (fun _ c hc=>⟨(mJ.Bq hc).1,rfl⟩) (fun _ _ h=>h) rfl
  .rw [sS i oU]
   by_cases hd:(H.get i).bQ=true
   .cases hg:H.get i<;>rw [hg] at hd<;>first|trivial|simp [aR.bQ] at hd
   .have hcb:c≠b:=fun e=>oU (h.inj _ _ _ _ _ hx (e ▸ aj) (by simpa using hd) vV);exact (h.obj _ _ _ hx).mono (fun _ c hc=>mJ.Bq hc) (fun _ _ h=>h) (ag c hcb)
 .intro i j c m m' hi hj di dj;have aux:∀ k,((H.set id o).get k).bQ=false->(H.get k).bQ=false:=fun k hk=>by
   by_cases Bv:k=id
   .rw [Bv];exact vV
   .rw [sS k Bv] at hk;exact hk
  exact h.inj _ _ _ _ _ hi hj (aux i di) (aux j dj)
theorem Heap.ext' {A B:Heap} (h1:A.nx=B.nx) (h2:∀ i,A.arr i=B.arr i):A=B:=by
 cases A;cases B;simp at h1 h2;subst h1;congr;exact funext h2
theorem aN.kill (h:aN C S base φ H w) (id:Nat):bY φ H w φ (H.set id .dead) w/\aN C S base φ (H.set id .dead) w:=by
 have aS:∀ i,(H.set id .dead).get i=H.get i\/(H.set id .dead).get i=.dead:=fun i=>by
  by_cases hi:i=id
  .subst hi
   by_cases aK:i < H.nx
   .exact .inr (Jn aK)
   .exact .inr (by unfold Heap.get Heap.set;simp [aK])
  .exact .inl (zh hi)
 have mJ:bY φ H w φ (H.set id .dead) w :=
  ⟨fun _ _ h=>h,rfl,rfl,rfl,Nat.le_refl _,fun _ _ _=>rfl,fun c _ ⟨i,m,hi,hl⟩=>⟨i,m,hi,by rcases aS i with e|e<;>rw [e] at hl;exact hl;simp [aR.live] at hl⟩,Nat.le_refl _⟩
 refine ⟨mJ,h.sz,h.out,h.nx,h.lt,?_,?_⟩
 .intro i c m hx;rcases aS i with e|e<;>rw [e]
  .exact (h.obj _ _ _ hx).mono (w':=w) (fun _ c hc=>mJ.Bq hc) (fun _ _ h=>h) rfl
  .trivial
 .intro i j c m m' hi hj di dj;have aux:∀ k,((H.set id .dead).get k).bQ=false->(H.get k).bQ=false:=fun k hk=>by
   rcases aS k with e|e<;>rw [e] at hk
   .exact hk
   .simp [aR.bQ] at hk
  exact h.inj _ _ _ _ _ hi hj (aux i di) (aux j dj)
theorem aN.rename (h:aN C S base φ H w) {id b n:Nat} {o:aR} (aj:φ id=some (b,n)) (hg:H.get id=o) (hd:o.bQ=false) (oz:φ H.nx=none) :
  bY φ H w (Br φ H.nx (b,n)) ((H.set id .dead).alloc o) w/\aN C S base (Br φ H.nx (b,n)) ((H.set id .dead).alloc o) w:=by
 have O8:id < H.nx:=h.nx _ _ aj;have aS:∀ i,i≠H.nx->i≠id->((H.set id .dead).alloc o).get i=H.get i:=fun i h1 h2=>by rw [Jm (by exact h1),zh h2]
 have yG:((H.set id .dead).alloc o).get id=.dead:=by rw [Jm (by show id≠H.nx;omega),Jn O8]
 have O9:((H.set id .dead).alloc o).get H.nx=o:=KT (H:=H.set id .dead);have Ep:∀ c,Bo (Br φ H.nx (b,n)) ((H.set id .dead).alloc o) c->Bo φ H c:=by
  rintro c ⟨i,m,hi,hl⟩
  by_cases h1:i=H.nx
  .subst h1;rw [O9] at hl;rw [yx] at hi;simp at hi;exact ⟨id,n,by rw [<- hi.1];exact aj,by rw [hg];exact hl⟩
  .by_cases h2:i=id
   .subst h2;rw [yG] at hl;simp [aR.live] at hl
   .rw [aS i h1 h2] at hl;rw [zW _ h1] at hi;exact ⟨i,m,hi,hl⟩
 have mJ:bY φ H w (Br φ H.nx (b,n)) ((H.set id .dead).alloc o) w :=
  ⟨Nz oz,rfl,rfl,rfl,Nat.le_refl _,fun _ _ _=>rfl,fun c _=>Ep c,Nat.le_succ _⟩
 refine ⟨mJ,h.sz,h.out,?_,?_,?_,?_⟩
 .intro i x hx;show i < H.nx+1
  by_cases h1:i=H.nx
  .omega
  .rw [zW _ h1] at hx;have:=h.nx _ _ hx;omega
 .intro i c m hx
  by_cases h1:i=H.nx
  .subst h1;rw [yx] at hx;simp at hx;obtain ⟨rfl,rfl⟩:=hx;exact h.lt _ _ _ aj
  .rw [zW _ h1] at hx;exact h.lt _ _ _ hx
 .intro i c m hx
  by_cases h1:i=H.nx
  .subst h1;rw [yx] at hx;simp at hx;obtain ⟨rfl,rfl⟩:=hx;rw [O9];have ho:=h.obj _ _ _ aj;rw [hg] at ho;exact ho.mono (fun _ c hc=>mJ.Bq hc) (Nz oz) rfl
  .rw [zW _ h1] at hx
   by_cases h2:i=id
   .subst h2;rw [yG]
    trivial
   .rw [aS i h1 h2];exact (h.obj _ _ _ hx).mono (fun _ c hc=>mJ.Bq hc) (Nz oz) rfl
 .intro i j c m m' hi hj di dj;have hod:(H.get id).bQ=false:=by rw [hg];exact hd
  have Tu:∀ k,(((H.set id .dead).alloc o).get k).bQ=false->k≠id:=fun k hk e=>by rw [e,yG] at hk;simp [aR.bQ] at hk
  by_cases h1:i=H.nx<;>by_cases h2:j=H.nx
  .rw [h1,h2]
  .exfalso;subst h1;rw [yx] at hi;simp at hi;rw [zW _ h2] at hj;have ng:=Tu j dj;rw [aS j h2 ng] at dj;exact ng (h.inj _ _ _ _ _ hj (by rw [<- hi.1];exact aj) dj hod)
  .exfalso;subst h2;rw [yx] at hj;simp at hj;rw [zW _ h1] at hi;have bT:=Tu i di;rw [aS i h1 bT] at di;exact bT (h.inj _ _ _ _ _ hi (by rw [<- hj.1];exact aj) di hod)
  .rw [zW _ h1] at hi;rw [zW _ h2] at hj;have bT:=Tu i di;have ng:=Tu j dj;rw [aS i h1 bT] at di;rw [aS j h2 ng] at dj;exact h.inj _ _ _ _ _ hi hj di dj
theorem aN.freeze (h:aN C S base φ H w) (ids:List Nat):bY φ H w φ (H.freeze ids) w/\aN C S base φ (H.freeze ids) w:=by
 have aS:∀ i,(H.freeze ids).get i=H.get i\/(H.freeze ids).get i=(H.get i).freeze:=fun i=>by
  rw [zid]
  cases ids.contains i
  .exact .inl rfl
  .exact .inr rfl
 have vU:∀ i,((H.freeze ids).get i).live=true->(H.get i).live=true:=fun i hl=>by
  rcases aS i with e|e<;>rw [e] at hl
  .exact hl
  .cases hg:H.get i<;>rw [hg] at hl<;>simp [aR.freeze,aR.live] at hl ⊢
 have vV:∀ i,((H.freeze ids).get i).bQ=(H.get i).bQ:=fun i=>by
  rcases aS i with e|e<;>rw [e]
  cases hg:H.get i<;>rfl
 have mJ:bY φ H w φ (H.freeze ids) w :=
  ⟨fun _ _ h=>h,rfl,rfl,rfl,Nat.le_refl _,fun _ _ _=>rfl,fun c _ ⟨i,m,hi,hl⟩=>⟨i,m,hi,vU i hl⟩,Nat.le_refl _⟩
 refine ⟨mJ,h.sz,h.out,h.nx,h.lt,?_,fun i j c m m' hi hj di dj=>h.inj _ _ _ _ _ hi hj (by rw [<- vV];exact di) (by rw [<- vV];exact dj)⟩
 intro i c m hx;have ho:=(h.obj _ _ _ hx).mono (w':=w) (fun _ c hc=>mJ.Bq hc) (fun _ _ h=>h) rfl;rcases aS i with e|e<;>rw [e]
 .exact ho
 .cases hg:H.get i<;>rw [hg] at ho<;>exact ho
end
end Go.Proofs.YtmmhnfghklppiaaGreat.Vm
