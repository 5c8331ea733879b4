/- How the machine of values stands to the model's memory: the relations, and what keeps them. -/
import Derived.Test.YtmmhnfghklppiaaGreatWk1
import Derived.Below
set_option linter.unusedVariables false
set_option linter.unusedSimpArgs false
namespace Go.Proofs.YtmmhnfghklppiaaGreat.Vm
open Go Go.RowKit
inductive bK (I:Bool->Nat->Prop) (w:World):PV->Value->Prop
 | int (k:IntKind) (n:Int):bK I w (.int k n) (.int k n)
 | bool (b:Bool):bK I w (.bool b) (.bool b)
 | str (s:ByteArray):bK I w (.str s) (.string s)
 | agg (cs:List PV) (vs:Array Value) (hl:cs.length=vs.size) (h:∀ (i:Nat) p v,cs[i]?=some p->vs[i]?=some v->bK I w p v):bK I w (.agg cs) (.agg vs)
 | aQ (cs:List PV) (vs:Array Value) (hl:cs.length=vs.size) (h:∀ (i:Nat) p v,cs[i]?=some p->vs[i]?=some v->bK I w p v):bK I w (.aQ cs) (.tuple vs)
 | nils:bK I w .nils (.slice none 0 0)
 | slice (k:Bool) (sz:Nat) (es:List (List PV)) (b o len cap:Nat) (val:Nat->Nat->Value) (hlen:es.length=len) (hc:len<=cap)
   (hz:∀ (i:Nat) e,es[i]?=some e->e.length=sz)
   (hm:∀ (i:Nat) e (j:Nat) p,es[i]?=some e->e[j]?=some p->I k b/\w.cell? ⟨b,o+i*sz+j,none⟩=some (val i j))
   (h:∀ (i:Nat) e (j:Nat) p,es[i]?=some e->e[j]?=some p->bK I w p (val i j)):bK I w (.slice k sz es) (.slice (some ⟨b,o,none⟩) len cap)
 | mD:bK I w .mD (.pointer none)
 | ptr (k:Bool) (cs:List PV) (off b o o':Nat) (val:Nat->Value) (ho:o'=o+off)
   (hm:∀ (j:Nat) p,cs[j]?=some p->I k b/\w.cell? ⟨b,o+j,none⟩=some (val j))
   (h:∀ (j:Nat) p,cs[j]?=some p->bK I w p (val j)):bK I w (.ptr k cs off) (.pointer (some ⟨b,o',none⟩))
 | func (f:Nat) (cs:List PV) (vs:Array Value) (hl:cs.length=vs.size) (h:∀ (i:Nat) p v,cs[i]?=some p->vs[i]?=some v->bK I w p v):bK I w (.func f cs) (.func (.func f) #[] vs)
 | mE:bK I w .mE .nilFunc
 | lQ (f:Nat) (cs:List PV) (vs:Array Value) (hl:cs.length=vs.size) (h:∀ (i:Nat) p v,cs[i]?=some p->vs[i]?=some v->bK I w p v):bK I w (.lQ f cs) (.func (.func f) vs #[])
theorem bK.mono {I I':Bool->Nat->Prop} {w w':World} (hI:∀ k b,I k b->I' k b/\w'.heap[b]?=w.heap[b]?) {p:PV} {v:Value} (h:bK I w p v):bK I' w' p v:=by
 induction h with
 | int k n=>exact .int k n
 | bool b=>exact .bool b
 | str s=>exact .str s
 | agg cs vs hl _ ih=>exact .agg cs vs hl ih
 | aQ cs vs hl _ ih=>exact .aQ cs vs hl ih
 | nils=>exact .nils
 | slice k sz es b o len cap val hlen hc hz hm _ ih =>
  refine .slice k sz es b o len cap val hlen hc hz (fun i e j p he hp=>?_) ih
  obtain ⟨h1,h2⟩:=hm i e j p he hp;exact ⟨(hI _ _ h1).1,(World.cell?_of_block (a:=⟨b,o+i*sz+j,none⟩) (hI _ _ h1).2).trans h2⟩
 | mD=>exact .mD
 | ptr k cs off b o o' val ho hm _ ih =>
  refine .ptr k cs off b o o' val ho (fun j p hp=>?_) ih
  obtain ⟨h1,h2⟩:=hm j p hp;exact ⟨(hI _ _ h1).1,(World.cell?_of_block (a:=⟨b,o+j,none⟩) (hI _ _ h1).2).trans h2⟩
 | func f cs vs hl _ ih=>exact .func f cs vs hl ih
 | mE=>exact .mE
 | lQ f cs vs hl _ ih=>exact .lQ f cs vs hl ih
abbrev jO:=Nat->Option (Nat×Nat)
inductive aG (I:Bool->Nat->Prop) (φ:jO) (w:World):AV->Value->Prop
 | undef (v:Value):aG I φ w .undef v
 | pure (p:PV) (v:Value) (h:bK I w p v):aG I φ w (.pure p) v
 | box (id off b n:Nat) (h:φ id=some (b,n)):aG I φ w (.box id off) (.pointer (some ⟨b,off,none⟩))
 | row (id sz off len b n o cap:Nat) (h:φ id=some (b,n)) (ho:o=off*sz) (hc:len<=cap) (hn:(off+cap)*sz=n):aG I φ w (.row id sz off len) (.slice (some ⟨b,o,none⟩) len cap)
 | agg (cs:List AV) (vs:Array Value) (hl:cs.length=vs.size) (h:∀ (i:Nat) p v,cs[i]?=some p->vs[i]?=some v->aG I φ w p v):aG I φ w (.agg cs) (.agg vs)
 | aQ (cs:List AV) (vs:Array Value) (hl:cs.length=vs.size) (h:∀ (i:Nat) p v,cs[i]?=some p->vs[i]?=some v->aG I φ w p v):aG I φ w (.aQ cs) (.tuple vs)
 | func (f:Nat) (cs:List AV) (vs:Array Value) (hl:cs.length=vs.size) (h:∀ (i:Nat) p v,cs[i]?=some p->vs[i]?=some v->aG I φ w p v):aG I φ w (.func f cs) (.func (.func f) #[] vs)
 | yield (id b n:Nat) (h:φ id=some (b,n)):aG I φ w (.yield id) (.func (.yield b) #[] #[])
 | void (id sz b:Nat) (h:φ id=some (b,0)):aG I φ w (.void id sz) (.slice (some ⟨b,0,none⟩) 0 0)
 | lq (id b n:Nat) (h:φ id=some (b,n)):aG I φ w (.lq id) (.map (some b))
 | lS (id sz off len b n o:Nat) (h:φ id=some (b,n)) (ho:o=off*sz):aG I φ w (.lS id sz off len) (.slice (some ⟨b,o,none⟩) len len)
theorem aG.mono {I I':Bool->Nat->Prop} {φ φ':jO} {w w':World} (hI:∀ k b,I k b->I' k b/\w'.heap[b]?=w.heap[b]?) (hφ:∀ id x,φ id=some x->φ' id=some x)
  {a:AV} {v:Value} (h:aG I φ w a v):aG I' φ' w' a v:=by
 induction h with
 | undef v=>exact .undef v
 | pure p v h=>exact .pure p v (h.mono hI)
 | box id off b n h=>exact .box id off b n (hφ _ _ h)
 | row id sz off len b n o cap h ho hc hn=>exact .row id sz off len b n o cap (hφ _ _ h) ho hc hn
 | agg cs vs hl _ ih=>exact .agg cs vs hl ih
 | aQ cs vs hl _ ih=>exact .aQ cs vs hl ih
 | func f cs vs hl _ ih=>exact .func f cs vs hl ih
 | yield id b n h=>exact .yield id b n (hφ _ _ h)
 | void id sz b h=>exact .void id sz b (hφ _ _ h)
 | lq id b n h=>exact .lq id b n (hφ _ _ h)
 | lS id sz off len b n o h ho=>exact .lS id sz off len b n o (hφ _ _ h) ho
section
variable {I:Bool->Nat->Prop} {φ:jO} {w:World} {v:Value}
theorem bK.bF {k:IntKind} {n:Int} (h:bK I w (.int k n) v):v=.int k n:=by cases h;rfl
theorem bK.iF {b:Bool} (h:bK I w (.bool b) v):v=.bool b:=by cases h;rfl
theorem bK.jv {s:ByteArray} (h:bK I w (.str s) v):v=.string s:=by cases h;rfl
theorem bK.jw (h:bK I w .nils v):v=.slice none 0 0:=by cases h;rfl
theorem bK.Gz (h:bK I w .mD v):v=.pointer none:=by cases h;rfl
theorem bK.GA (h:bK I w .mE v):v=.nilFunc:=by cases h;rfl
theorem aG.aA {p:PV} (h:aG I φ w (.pure p) v):bK I w p v:=by cases h;assumption
theorem aG.bF {k:IntKind} {n:Int} (h:aG I φ w (.pure (.int k n)) v):v=.int k n:=h.aA.bF
theorem aG.iF {b:Bool} (h:aG I φ w (.pure (.bool b)) v):v=.bool b:=h.aA.iF
theorem aG.jv {s:ByteArray} (h:aG I φ w (.pure (.str s)) v):v=.string s:=h.aA.jv
theorem aG.l7 {id off:Nat} (h:aG I φ w (.box id off) v):∃ b n,φ id=some (b,n)/\v=.pointer (some ⟨b,off,none⟩):=by
 cases h with
 | box _ _ b n h=>exact ⟨b,n,h,rfl⟩
theorem aG.iY {id sz off len:Nat} (h:aG I φ w (.row id sz off len) v) :
  ∃ b n cap,φ id=some (b,n)/\v=.slice (some ⟨b,off*sz,none⟩) len cap/\len<=cap/\(off+cap)*sz=n:=by
 cases h with
 | row _ _ _ _ b n o cap h ho hc hn=>exact ⟨b,n,cap,h,by rw [ho],hc,hn⟩
theorem aG.ER {id:Nat} (h:aG I φ w (.yield id) v):∃ b n,φ id=some (b,n)/\v=.func (.yield b) #[] #[]:=by
 cases h with
 | yield _ b n h=>exact ⟨b,n,h,rfl⟩
theorem aG.uz {id:Nat} (h:aG I φ w (.lq id) v):∃ b n,φ id=some (b,n)/\v=.map (some b):=by
 cases h with
 | lq _ b n h=>exact ⟨b,n,h,rfl⟩
theorem aG.yw {id sz off len:Nat} (h:aG I φ w (.lS id sz off len) v):∃ b n,φ id=some (b,n)/\v=.slice (some ⟨b,off*sz,none⟩) len len:=by
 cases h with
 | lS _ _ _ _ b n o h ho=>exact ⟨b,n,h,by rw [ho]⟩
theorem aG.GD {id sz:Nat} (h:aG I φ w (.void id sz) v):∃ b,φ id=some (b,0)/\v=.slice (some ⟨b,0,none⟩) 0 0:=by
 cases h with
 | void _ _ b h=>exact ⟨b,h,rfl⟩
theorem aG.lD {f:Nat} {cs:List AV} (h:aG I φ w (.func f cs) v):∃ vs,v=.func (.func f) #[] vs/\cs.length=vs.size/\∀ (i:Nat) p v,cs[i]?=some p->vs[i]?=some v->aG I φ w p v:=by
 cases h with
 | func _ _ vs hl h=>exact ⟨vs,rfl,hl,h⟩
theorem aG.tN {cs:List AV} (h:aG I φ w (.aQ cs) v):∃ vs,v=.tuple vs/\cs.length=vs.size/\∀ (i:Nat) p v,cs[i]?=some p->vs[i]?=some v->aG I φ w p v:=by
 cases h with
 | aQ _ vs hl h=>exact ⟨vs,rfl,hl,h⟩
theorem bK.tN {cs:List PV} (h:bK I w (.aQ cs) v):∃ vs,v=.tuple vs/\cs.length=vs.size/\∀ (i:Nat) p v,cs[i]?=some p->vs[i]?=some v->bK I w p v:=by
 cases h with
 | aQ _ vs hl h=>exact ⟨vs,rfl,hl,h⟩
theorem bK.lD {f:Nat} {cs:List PV} (h:bK I w (.func f cs) v):∃ vs,v=.func (.func f) #[] vs/\cs.length=vs.size/\∀ (i:Nat) p v,cs[i]?=some p->vs[i]?=some v->bK I w p v:=by
 cases h with
 | func _ _ vs hl h=>exact ⟨vs,rfl,hl,h⟩
theorem bK.GG {f:Nat} {cs:List PV} (h:bK I w (.lQ f cs) v):∃ vs,v=.func (.func f) vs #[]/\cs.length=vs.size/\∀ (i:Nat) p v,cs[i]?=some p->vs[i]?=some v->bK I w p v:=by
 cases h with
 | lQ _ _ vs hl h=>exact ⟨vs,rfl,hl,h⟩
end
def aC (I:Bool->Nat->Prop) (φ:jO) (w:World) (cs:List AV) (vs:List Value):Prop :=
 cs.length=vs.length/\∀ (i:Nat) p v,cs[i]?=some p->vs[i]?=some v->aG I φ w p v
section
variable {I:Bool->Nat->Prop} {φ:jO} {w:World}
theorem aC.nil:aC I φ w [] []:=⟨rfl,fun i p v h=>by simp at h⟩
theorem aC.cons {c:AV} {v:Value} {cs:List AV} {vs:List Value} (h:aG I φ w c v) (hs:aC I φ w cs vs):aC I φ w (c::cs) (v::vs) :=
 ⟨by simp [hs.1],fun i p u hp hu=>by
  cases i with
  | zero=>simp at hp hu;subst hp;subst hu;exact h
  | succ i=>simp at hp hu;exact hs.2 i p u hp hu⟩
theorem aC.cons_inv {c:AV} {cs:List AV} {vs:List Value} (h:aC I φ w (c::cs) vs):∃ v vs',vs=v::vs'/\aG I φ w c v/\aC I φ w cs vs':=by
 cases vs with
 | nil=>have:=h.1;simp at this
 | cons v vs=>exact ⟨v,vs,rfl,h.2 0 c v rfl rfl,by have:=h.1;simpa using this,fun i p u hp hu=>h.2 (i+1) p u (by simpa using hp) (by simpa using hu)⟩
theorem aC.nk {vs:List Value} (h:aC I φ w [] vs):vs=[]:=List.eq_nil_of_length_eq_zero h.1.symm
theorem aC.mono {I':Bool->Nat->Prop} {φ':jO} {w':World} (hI:∀ k b,I k b->I' k b/\w'.heap[b]?=w.heap[b]?) (hφ:∀ id x,φ id=some x->φ' id=some x) {cs:List AV} {vs:List Value}
  (h:aC I φ w cs vs):aC I' φ' w' cs vs:=⟨h.1,fun i p v hp hv=>(h.2 i p v hp hv).mono hI hφ⟩
theorem aC.append {cs ds:List AV} {vs us:List Value} (h:aC I φ w cs vs) (k:aC I φ w ds us):aC I φ w (cs++ds) (vs++us) :=
 ⟨by simp [h.1,k.1],fun i p v hp hv=>by
  by_cases hi:i < cs.length
  .rw [List.getElem?_append_left hi] at hp;rw [List.getElem?_append_left (by rw [<- h.1];exact hi)] at hv;exact h.2 i p v hp hv
  .rw [List.getElem?_append_right (by omega)] at hp;rw [List.getElem?_append_right (by rw [<- h.1];omega),<- h.1] at hv;exact k.2 _ p v hp hv⟩
theorem aC.drop {cs:List AV} {vs:List Value} (h:aC I φ w cs vs) (n:Nat):aC I φ w (cs.drop n) (vs.drop n) :=
 ⟨by simp [h.1],fun i p v hp hv=>h.2 (n+i) p v (by simpa using hp) (by simpa using hv)⟩
theorem aC.take {cs:List AV} {vs:List Value} (h:aC I φ w cs vs) (n:Nat):aC I φ w (cs.take n) (vs.take n) :=
 ⟨by simp [h.1],fun i p v hp hv=>by
  have hi:i < n:=by
   have:=(List.getElem?_eq_some_iff.1 hp).1;simp at this;omega
  rw [List.getElem?_take_of_lt hi] at hp hv;exact h.2 i p v hp hv⟩
theorem aC.rO {cs:List AV} {vs:Array Value} (hl:cs.length=vs.size) (h:∀ (i:Nat) p v,cs[i]?=some p->vs[i]?=some v->aG I φ w p v):aC I φ w cs vs.toList :=
 ⟨by simpa using hl,fun i p v hp hv=>h i p v hp (by simpa using hv)⟩
theorem aC.pK {ps:List PV} {vs:List Value} (hl:ps.length=vs.length) (h:∀ (i:Nat) p v,ps[i]?=some p->vs[i]?=some v->bK I w p v):aC I φ w (ps.map .pure) vs :=
 ⟨by simpa using hl,fun i p v hp hv=>by
  rw [List.getElem?_map] at hp
  cases hq:ps[i]? with
  | none=>rw [hq] at hp;simp at hp
  | some q=>rw [hq] at hp;simp at hp;subst hp;exact .pure q v (h i q v hq hv)⟩
theorem aG.cells {a:AV} {v:Value} (h:aG I φ w a v) (ha:a≠.undef):aC I φ w a.cells v.cells.toList:=by
 cases h with
 | undef=>exact absurd rfl ha
 | agg cs vs hl h=>exact .rO hl h
 | pure p v h =>
  cases h with
  | agg cs vs hl h =>
   exact aC.pK (by simpa [Value.cells] using hl) fun i p v hp hv=>h i p v hp (by simpa [Value.cells] using hv)
  | int=>exact .cons (.pure _ _ (.int ..)) .nil
  | bool=>exact .cons (.pure _ _ (.bool ..)) .nil
  | str=>exact .cons (.pure _ _ (.str ..)) .nil
  | aQ cs vs hl h=>exact .cons (.pure _ _ (.aQ cs vs hl h)) .nil
  | nils=>exact .cons (.pure _ _ .nils) .nil
  | slice k sz es b o len cap val hlen hc hz hm h=>exact .cons (.pure _ _ (.slice k sz es b o len cap val hlen hc hz hm h)) .nil
  | mD=>exact .cons (.pure _ _ .mD) .nil
  | ptr k cs off b o o' val ho hm h=>exact .cons (.pure _ _ (.ptr k cs off b o o' val ho hm h)) .nil
  | func f cs vs hl h=>exact .cons (.pure _ _ (.func f cs vs hl h)) .nil
  | mE=>exact .cons (.pure _ _ .mE) .nil
  | lQ f cs vs hl h=>exact .cons (.pure _ _ (.lQ f cs vs hl h)) .nil
 | box id off b n h=>exact .cons (.box id off b n h) .nil
 | row id sz off len b n o cap h ho hc hn=>exact .cons (.row id sz off len b n o cap h ho hc hn) .nil
 | aQ cs vs hl h=>exact .cons (.aQ cs vs hl h) .nil
 | func f cs vs hl h=>exact .cons (.func f cs vs hl h) .nil
 | yield id b n h=>exact .cons (.yield id b n h) .nil
 | void id sz b h=>exact .cons (.void id sz b h) .nil
 | lq id b n h=>exact .cons (.lq id b n h) .nil
 | lS id sz off len b n o h ho=>exact .cons (.lS id sz off len b n o h ho) .nil
theorem aG.one {a:AV} {v:Value} (h:aG I φ w a v) (ha:a.one=true):v.oneCell'=true:=by
 cases h with
 | undef=>simp [AV.one] at ha
 | agg=>simp [AV.one] at ha
 | aQ=>simp [AV.one] at ha
 | pure p v h=>cases h<;>first|rfl|simp [AV.one] at ha
 | _=>rfl
end
section
variable {H:Heap} {id i:Nat} {o:aU}
theorem zkj:(H.alloc o).get i=if i=H.nx then o else H.get i:=by
 unfold Heap.get Heap.alloc upd
 by_cases h:i=H.nx
 .subst h;simp
 .simp only [h,if_false]
  by_cases h2:i < H.nx
  .rw [if_pos h2,if_pos (by omega)]
  .rw [if_neg h2,if_neg (by omega)]
theorem NN:(H.alloc o).get H.nx=o:=by rw [zkj,if_pos rfl]
theorem Lx (h:i≠H.nx):(H.alloc o).get i=H.get i:=by rw [zkj,if_neg h]
theorem zf (h:i≠id):(H.set id o).get i=H.get i:=by
 unfold Heap.get Heap.set upd;simp [h]
theorem LB (h:id < H.nx):(H.set id o).get id=o:=by
 unfold Heap.get Heap.set upd;simp [h]
theorem zh9 (ids:List Nat):(H.freeze ids).get i=if ids.contains i then (H.get i).freeze else H.get i:=by
 unfold Heap.get Heap.freeze
 by_cases h:i < H.nx
 .simp [h]
 .simp [h,aU.freeze]
theorem Rx (h:H.get i≠.dead):i < H.nx:=by
 unfold Heap.get at h
 split at h
 .assumption
 .exact absurd rfl h
end
def aU.live:aU->Bool
 | .cells true _|.loop _|.raw _|.jh _=>true
 | _=>false
def aU.fM:aU->Bool
 | .dead=>true
 | _=>false
def DX (φ:jO) (H:Heap) (b:Nat):Prop:=∃ id n,φ id=some (b,n)/\(H.get id).live=true
def aW (S:Bool->Nat->Prop) (base:Nat) (φ:jO) (H:Heap) (w:World) (k:Bool) (b:Nat):Prop:=(S k b\/base<=b)/\b < w.heap.size/\¬ DX φ H b
def XT:fZ->Exit
 | .normal=>.normal
 | .exit id=>.exit id
 | .ret=>.ret
def zqM:fZ->Option Code
 | .normal=>none
 | .exit id=>some (.exit id)
 | .ret=>some .ret
def zoO:BQ->LoopState
 | .ready=>.ready
 | .busy=>.busy
 | .done=>.done
abbrev jH:=Nat->Code->aV->Prop
def vM (C:jH) (I:Bool->Nat->Prop) (φ:jO) (w:World) (o:aU) (b n:Nat):Prop :=
 match o with
 | .dead=>True
 | .cells _ cs=>∃ (c:Array Value) (e:TypeId) (fz:Nat×Nat),w.heap[b]?=some (.cells c e fz)/\c.size=n/\cs.length<=n/\(∀ j,j < n->¬ (fz.1<=j/\j < fz.2)) /\
   ∀ (j:Nat) a v,cs[j]?=some a->c[j]?=some v->aG I φ w a v
 | .raw z=>∃ (c:Array Value) (e:TypeId) (fz:Nat×Nat),w.heap[b]?=some (.cells c e fz)/\c.size=n/\(z.map AV.pure).length<=n/\(∀ j,j < n->¬ (fz.1<=j/\j < fz.2)) /\
   ∀ (j:Nat) a v,(z.map AV.pure)[j]?=some a->c[j]?=some v->aG I φ w a v
 | .jh es=>∃ (ms:Array MapEntry) (clock:Nat),w.heap[b]?=some (.map ms clock)/\ms.size=es.length /\
   ∀ (j:Nat) k v m,es[j]?=some (k,v)->ms[j]?=some m->bK I w k m.key/\bK I w v m.val
 | .loop r=>∃ l:Loop,w.heap[b]?=some (.loop l)/\l.state=zoO r.state/\l.pending=zqM r.pending/\l.params.toList=r.params/\C l.tmps.size l.assign r.assign/\C l.tmps.size l.body r.body /\
   (∀ t,aG I φ w (r.env t) (l.tmps.getD t undef))/\(∀ t,t∈r.params->t < l.tmps.size)
structure aS (C:jH) (S:Bool->Nat->Prop) (base:Nat) (φ:jO) (H:Heap) (w:World):Prop where
 sz:base<=w.heap.size
 out:∀ k b,S k b->b < base
 nx:∀ id x,φ id=some x->id < H.nx
 lt:∀ id b n,φ id=some (b,n)->base<=b/\b < w.heap.size
 obj:∀ id b n,φ id=some (b,n)->vM C (aW S base φ H w) φ w (H.get id) b n
 inj:∀ id id' b n n',φ id=some (b,n)->φ id'=some (b,n')->(H.get id).fM=false->(H.get id').fM=false->id=id'
structure ig (φ:jO) (H:Heap) (w:World) (φ':jO) (H':Heap) (w':World):Prop where
 phi:∀ id x,φ id=some x->φ' id=some x
 os:w'.os=w.os
 tape:w'.tape=w.tape
 output:w'.output=w.output
 size:w.heap.size<=w'.heap.size
 same:∀ b,b < w.heap.size->¬ DX φ H b->w'.heap[b]?=w.heap[b]?
 GH:∀ b,b < w.heap.size->DX φ' H' b->DX φ H b
 nx:H.nx<=H'.nx
section
variable {C:jH} {S:Bool->Nat->Prop} {base:Nat} {φ φ' φ'':jO} {H H' H'':Heap} {w w' w'':World}
theorem ig.refl:ig φ H w φ H w:=⟨fun _ _ h=>h,rfl,rfl,rfl,Nat.le_refl _,fun _ _ _=>rfl,fun _ _ h=>h,Nat.le_refl _⟩
theorem ig.trans (h:ig φ H w φ' H' w') (k:ig φ' H' w' φ'' H'' w''):ig φ H w φ'' H'' w'' :=
 ⟨fun id x hx=>k.phi _ _ (h.phi _ _ hx),k.os.trans h.os,k.tape.trans h.tape,k.output.trans h.output,Nat.le_trans h.size k.size,
  fun b hb hm=>(k.same b (Nat.lt_of_lt_of_le hb h.size) fun DY=>hm (h.GH b hb DY)).trans (h.same b hb hm),
  fun b hb hm=>h.GH b hb (k.GH b (Nat.lt_of_lt_of_le hb h.size) hm),Nat.le_trans h.nx k.nx⟩
theorem ig.DZ (h:ig φ H w φ' H' w') {k:Bool} {b:Nat} (hi:aW S base φ H w k b):aW S base φ' H' w' k b/\w'.heap[b]?=w.heap[b]? :=
 ⟨⟨hi.1,Nat.lt_of_lt_of_le hi.2.1 h.size,fun hm=>hi.2.2 (h.GH b hi.2.1 hm)⟩,h.same b hi.2.1 hi.2.2⟩
theorem ig.xx (h:ig φ H w φ' H' w') {a:AV} {v:Value} (hv:aG (aW S base φ H w) φ w a v):aG (aW S base φ' H' w') φ' w' a v :=
 hv.mono (fun _ _ hi=>h.DZ hi) h.phi
theorem ig.of_below (h:Below w.heap.size w w'):ig φ H w φ H w' :=
 ⟨fun _ _ h=>h,h.os,h.tape,h.output,h.size,fun b hb _=>h.block b hb,fun _ _ h=>h,Nat.le_refl _⟩
theorem vM.mono {I I':Bool->Nat->Prop} {o:aU} {b n:Nat} (hI:∀ k b,I k b->I' k b/\w'.heap[b]?=w.heap[b]?) (hφ:∀ id x,φ id=some x->φ' id=some x) (hb:w'.heap[b]?=w.heap[b]?)
  (h:vM C I φ w o b n):vM C I' φ' w' o b n:=by
 cases o with
 | dead=>trivial
 | cells own cs =>
  obtain ⟨c,e,fz,h1,h2,h3,h4,h5⟩:=h;exact ⟨c,e,fz,hb.trans h1,h2,h3,h4,fun j a v ha hv=>(h5 j a v ha hv).mono hI hφ⟩
 | raw z =>
  obtain ⟨c,e,fz,h1,h2,h3,h4,h5⟩:=h;exact ⟨c,e,fz,hb.trans h1,h2,h3,h4,fun j a v ha hv=>(h5 j a v ha hv).mono hI hφ⟩
 | jh es =>
  obtain ⟨ms,ck,h1,h2,h3⟩:=h;exact ⟨ms,ck,hb.trans h1,h2,fun j k v m hk hm=>⟨(h3 j k v m hk hm).1.mono hI,(h3 j k v m hk hm).2.mono hI⟩⟩
 | loop r =>
  obtain ⟨l,h1,h2,h3,h4,h5,h6,h7,h8⟩:=h;exact ⟨l,hb.trans h1,h2,h3,h4,h5,h6,fun t=>(h7 t).mono hI hφ,h8⟩
theorem aS.below (h:aS C S base φ H w) (hb:Below w.heap.size w w'):aS C S base φ H w' :=
 ⟨Nat.le_trans h.sz hb.size,h.out,h.nx,fun id b n au=>⟨(h.lt id b n au).1,Nat.lt_of_lt_of_le (h.lt id b n au).2 hb.size⟩,
  fun id b n au=>(h.obj id b n au).mono (fun _ _ hi=>(ig.of_below hb).DZ hi) (fun _ _ h=>h) (hb.block b (h.lt id b n au).2),h.inj⟩
def D5 (φ:jO) (id:Nat) (x:Nat×Nat):jO:=fun i=>if i=id then some x else φ i
theorem BS (id:Nat) (x:Nat×Nat):D5 φ id x id=some x:=by simp [D5]
theorem x8 {id i:Nat} (x:Nat×Nat) (h:i≠id):D5 φ id x i=φ i:=by simp [D5,h]
theorem Qb {id:Nat} {x:Nat×Nat} (h:φ id=none):∀ i y,φ i=some y->D5 φ id x i=some y:=fun i y hy=>by
 rw [x8 x (fun e=>by rw [e,h] at hy;cases hy)];exact hy
theorem aS.new (h:aS C S base φ H w) (hb:Below w.heap.size w w') {id b n:Nat} {o:aU} (au:φ id=none) (hH:H'.get id=o) (hold:∀ i,i≠id->φ i≠none->H'.get i=H.get i)
  (bX:id < H'.nx) (BU:H.nx<=H'.nx) (lT:w.heap.size<=b) (oW:b < w'.heap.size) (ho:vM C (aW S base φ H w) φ w' o b n) :
  ig φ H w (D5 φ id (b,n)) H' w'/\aS C S base (D5 φ id (b,n)) H' w':=by
 have bf:∀ i x,φ i=some x->i≠id/\H'.get i=H.get i:=fun i x hx=>by
  have bJ:i≠id:=fun e=>by rw [e,au] at hx;cases hx
  exact ⟨bJ,hold i bJ (by rw [hx];simp)⟩
 have GI:∀ c,c < w.heap.size->DX (D5 φ id (b,n)) H' c->DX φ H c:=by
  rintro c hc ⟨i,m,hi,hl⟩
  by_cases ry:i=id
  .subst ry;rw [BS] at hi;simp at hi;omega
  .rw [x8 _ ry] at hi;exact ⟨i,m,hi,by rw [<- (bf i _ hi).2];exact hl⟩
 have oq:ig φ H w (D5 φ id (b,n)) H' w' :=
  ⟨Qb au,hb.os,hb.tape,hb.output,hb.size,fun c hc _=>hb.block c hc,GI,BU⟩
 refine ⟨oq,Nat.le_trans h.sz hb.size,h.out,?_,?_,?_,?_⟩
 .intro i x hx
  by_cases ry:i=id
  .rw [ry];exact bX
  .rw [x8 _ ry] at hx;exact Nat.lt_of_lt_of_le (h.nx _ _ hx) BU
 .intro i c m hx
  by_cases ry:i=id
  .subst ry;rw [BS] at hx;simp at hx;have:=h.sz;omega
  .rw [x8 _ ry] at hx;have:=h.lt _ _ _ hx;have:=hb.size;omega
 .intro i c m hx
  by_cases ry:i=id
  .subst ry;rw [BS] at hx;simp at hx;obtain ⟨rfl,rfl⟩:=hx;rw [hH];exact ho.mono (fun _ c hc=>⟨(oq.DZ hc).1,rfl⟩) (Qb au) rfl
  .rw [x8 _ ry] at hx;rw [(bf i _ hx).2];exact (h.obj _ _ _ hx).mono (fun _ c hc=>oq.DZ hc) (Qb au) (hb.block c (h.lt _ _ _ hx).2)
 .intro i j c m m' hi hj di dj
  by_cases ry:i=id<;>by_cases VI:j=id
  .rw [ry,VI]
  .subst ry;rw [BS] at hi;rw [x8 _ VI] at hj;have:=(h.lt _ _ _ hj).2;simp at hi;omega
  .subst VI;rw [BS] at hj;rw [x8 _ ry] at hi;have:=(h.lt _ _ _ hi).2;simp at hj;omega
  .rw [x8 _ ry] at hi;rw [x8 _ VI] at hj;rw [(bf i _ hi).2] at di;rw [(bf j _ hj).2] at dj;exact h.inj _ _ _ _ _ hi hj di dj
theorem aS.write (h:aS C S base φ H w) {id b n:Nat} {o:aU} (au:φ id=some (b,n)) (yx:(H.get id).live=true)
  (hos:w'.os=w.os) (Ry:w'.tape=w.tape) (ik:w'.output=w.output) (LC:w'.heap.size=w.heap.size) (ah:∀ c,c≠b->w'.heap[c]?=w.heap[c]?)
  (ho:vM C (aW S base φ H w) φ w' o b n) :
  ig φ H w φ (H.set id o) w'/\aS C S base φ (H.set id o) w':=by
 have yz:(H.get id).fM=false:=by cases hg:H.get id<;>rw [hg] at yx<;>first|rfl|simp [aU.live] at yx
 have vO:∀ i,i≠id->(H.set id o).get i=H.get i:=fun i hi=>zf hi;have D6:(H.set id o).get id=o:=LB (h.nx _ _ au);have LD:DX φ H b:=⟨id,n,au,yx⟩
 have GI:∀ c,DX φ (H.set id o) c->DX φ H c:=by
  rintro c ⟨i,m,hi,hl⟩
  by_cases ry:i=id
  .subst ry;rw [au] at hi;simp at hi;rw [<- hi.1];exact LD
  .exact ⟨i,m,hi,by rw [<- vO i ry];exact hl⟩
 have oq:ig φ H w φ (H.set id o) w' :=
  ⟨fun _ _ h=>h,hos,Ry,ik,by omega,fun c _ hm=>ah c (fun e=>hm (e ▸ LD)),fun c _=>GI c,Nat.le_refl _⟩
 refine ⟨oq,by rw [LC];exact h.sz,h.out,fun i x hx=>h.nx i x hx,fun i c m hx=>by rw [LC];exact h.lt _ _ _ hx,?_,?_⟩
 .intro i c m hx
  by_cases ry:i=id
  .subst ry;rw [au] at hx;simp at hx;obtain ⟨rfl,rfl⟩:=hx;rw [D6];exact ho.mono (fun _ c hc=>⟨(oq.DZ hc).1,rfl⟩) (fun _ _ h=>h) rfl
  .rw [vO i ry]
   by_cases hd:(H.get i).fM=true
   .cases hg:H.get i<;>rw [hg] at hd<;>first|trivial|simp [aU.fM] at hd
   .have hcb:c≠b:=fun e=>ry (h.inj _ _ _ _ _ hx (e ▸ au) (by simpa using hd) yz);exact (h.obj _ _ _ hx).mono (fun _ c hc=>oq.DZ hc) (fun _ _ h=>h) (ah c hcb)
 .intro i j c m m' hi hj di dj;have aux:∀ k,((H.set id o).get k).fM=false->(H.get k).fM=false:=fun k hk=>by
   by_cases D7:k=id
   .rw [D7];exact yz
   .rw [vO k D7] at hk;exact hk
  exact h.inj _ _ _ _ _ hi hj (aux i di) (aux j dj)
theorem Heap.ext' {A B:Heap} (h1:A.nx=B.nx) (h2:∀ i,A.arr i=B.arr i):A=B:=by
 cases A;cases B;simp at h1 h2;subst h1;congr;exact funext h2
theorem aS.kill (h:aS C S base φ H w) (id:Nat):ig φ H w φ (H.set id .dead) w/\aS C S base φ (H.set id .dead) w:=by
 have bf:∀ i,(H.set id .dead).get i=H.get i\/(H.set id .dead).get i=.dead:=fun i=>by
  by_cases hi:i=id
  .subst hi
   by_cases aO:i < H.nx
   .exact .inr (LB aO)
   .exact .inr (by unfold Heap.get Heap.set;simp [aO])
  .exact .inl (zf hi)
 have oq:ig φ H w φ (H.set id .dead) w :=
  ⟨fun _ _ h=>h,rfl,rfl,rfl,Nat.le_refl _,fun _ _ _=>rfl,fun c _ ⟨i,m,hi,hl⟩=>⟨i,m,hi,by rcases bf i with e|e<;>rw [e] at hl;exact hl;simp [aU.live] at hl⟩,Nat.le_refl _⟩
 refine ⟨oq,h.sz,h.out,h.nx,h.lt,?_,?_⟩
 .intro i c m hx;rcases bf i with e|e<;>rw [e]
  .exact (h.obj _ _ _ hx).mono (w':=w) (fun _ c hc=>oq.DZ hc) (fun _ _ h=>h) rfl
  .trivial
 .intro i j c m m' hi hj di dj;have aux:∀ k,((H.set id .dead).get k).fM=false->(H.get k).fM=false:=fun k hk=>by
   rcases bf k with e|e<;>rw [e] at hk
   .exact hk
   .simp [aU.fM] at hk
  exact h.inj _ _ _ _ _ hi hj (aux i di) (aux j dj)
theorem aS.rename (h:aS C S base φ H w) {id b n:Nat} {o:aU} (au:φ id=some (b,n)) (hg:H.get id=o) (hd:o.fM=false) (qE:φ H.nx=none) :
  ig φ H w (D5 φ H.nx (b,n)) ((H.set id .dead).alloc o) w/\aS C S base (D5 φ H.nx (b,n)) ((H.set id .dead).alloc o) w:=by
 have Rz:id < H.nx:=h.nx _ _ au;have bf:∀ i,i≠H.nx->i≠id->((H.set id .dead).alloc o).get i=H.get i:=fun i h1 h2=>by rw [Lx (by exact h1),zf h2]
 have BV:((H.set id .dead).alloc o).get id=.dead:=by rw [Lx (by show id≠H.nx;omega),LB Rz]
 have RA:((H.set id .dead).alloc o).get H.nx=o:=NN (H:=H.set id .dead);have GI:∀ c,DX (D5 φ H.nx (b,n)) ((H.set id .dead).alloc o) c->DX φ H c:=by
  rintro c ⟨i,m,hi,hl⟩
  by_cases h1:i=H.nx
  .subst h1;rw [RA] at hl;rw [BS] at hi;simp at hi;exact ⟨id,n,by rw [<- hi.1];exact au,by rw [hg];exact hl⟩
  .by_cases h2:i=id
   .subst h2;rw [BV] at hl;simp [aU.live] at hl
   .rw [bf i h1 h2] at hl;rw [x8 _ h1] at hi;exact ⟨i,m,hi,hl⟩
 have oq:ig φ H w (D5 φ H.nx (b,n)) ((H.set id .dead).alloc o) w :=
  ⟨Qb qE,rfl,rfl,rfl,Nat.le_refl _,fun _ _ _=>rfl,fun c _=>GI c,Nat.le_succ _⟩
 refine ⟨oq,h.sz,h.out,?_,?_,?_,?_⟩
 .intro i x hx;show i < H.nx+1
  by_cases h1:i=H.nx
  .omega
  .rw [x8 _ h1] at hx;have:=h.nx _ _ hx;omega
 .intro i c m hx
  by_cases h1:i=H.nx
  .subst h1;rw [BS] at hx;simp at hx;obtain ⟨rfl,rfl⟩:=hx;exact h.lt _ _ _ au
  .rw [x8 _ h1] at hx;exact h.lt _ _ _ hx
 .intro i c m hx
  by_cases h1:i=H.nx
  .subst h1;rw [BS] at hx;simp at hx;obtain ⟨rfl,rfl⟩:=hx;rw [RA];have ho:=h.obj _ _ _ au;rw [hg] at ho;exact ho.mono (fun _ c hc=>oq.DZ hc) (Qb qE) rfl
  .rw [x8 _ h1] at hx
   by_cases h2:i=id
   .subst h2;rw [BV]
    trivial
   .rw [bf i h1 h2];exact (h.obj _ _ _ hx).mono (fun _ c hc=>oq.DZ hc) (Qb qE) rfl
 .intro i j c m m' hi hj di dj;have hod:(H.get id).fM=false:=by rw [hg];exact hd
  have VJ:∀ k,(((H.set id .dead).alloc o).get k).fM=false->k≠id:=fun k hk e=>by rw [e,BV] at hk;simp [aU.fM] at hk
  by_cases h1:i=H.nx<;>by_cases h2:j=H.nx
  .rw [h1,h2]
  .exfalso;subst h1;rw [BS] at hi;simp at hi;rw [x8 _ h2] at hj;have oZ:=VJ j dj;rw [bf j h2 oZ] at dj;exact oZ (h.inj _ _ _ _ _ hj (by rw [<- hi.1];exact au) dj hod)
  .exfalso;subst h2;rw [BS] at hj;simp at hj;rw [x8 _ h1] at hi;have bR:=VJ i di;rw [bf i h1 bR] at di;exact bR (h.inj _ _ _ _ _ hi (by rw [<- hj.1];exact au) di hod)
  .rw [x8 _ h1] at hi;rw [x8 _ h2] at hj;have bR:=VJ i di;have oZ:=VJ j dj;rw [bf i h1 bR] at di;rw [bf j h2 oZ] at dj;exact h.inj _ _ _ _ _ hi hj di dj
theorem aS.freeze (h:aS C S base φ H w) (ids:List Nat):ig φ H w φ (H.freeze ids) w/\aS C S base φ (H.freeze ids) w:=by
 have bf:∀ i,(H.freeze ids).get i=H.get i\/(H.freeze ids).get i=(H.get i).freeze:=fun i=>by
  rw [zh9]
  cases ids.contains i
  .exact .inl rfl
  .exact .inr rfl
 have yx:∀ i,((H.freeze ids).get i).live=true->(H.get i).live=true:=fun i hl=>by
  rcases bf i with e|e<;>rw [e] at hl
  .exact hl
  .cases hg:H.get i<;>rw [hg] at hl<;>simp [aU.freeze,aU.live] at hl ⊢
 have yz:∀ i,((H.freeze ids).get i).fM=(H.get i).fM:=fun i=>by
  rcases bf i with e|e<;>rw [e]
  cases hg:H.get i<;>rfl
 have oq:ig φ H w φ (H.freeze ids) w :=
  ⟨fun _ _ h=>h,rfl,rfl,rfl,Nat.le_refl _,fun _ _ _=>rfl,fun c _ ⟨i,m,hi,hl⟩=>⟨i,m,hi,yx i hl⟩,Nat.le_refl _⟩
 refine ⟨oq,h.sz,h.out,h.nx,h.lt,?_,fun i j c m m' hi hj di dj=>h.inj _ _ _ _ _ hi hj (by rw [<- yz];exact di) (by rw [<- yz];exact dj)⟩
 intro i c m hx;have ho:=(h.obj _ _ _ hx).mono (w':=w) (fun _ c hc=>oq.DZ hc) (fun _ _ h=>h) rfl;rcases bf i with e|e<;>rw [e]
 .exact ho
 .cases hg:H.get i<;>rw [hg] at ho<;>exact ho
end
end Go.Proofs.YtmmhnfghklppiaaGreat.Vm
