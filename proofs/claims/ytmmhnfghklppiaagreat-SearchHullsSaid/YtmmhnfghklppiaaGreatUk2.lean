/- How the machine of values stands to the model's memory: the relations, and what keeps them. -/
import Derived.Test.YtmmhnfghklppiaaGreatUk1
import Derived.Below
set_option linter.unusedVariables false
set_option linter.unusedSimpArgs false
namespace Go.Proofs.YtmmhnfghklppiaaGreat.Vm
open Go Go.RowKit
inductive bR (I:Bool->Nat->Prop) (w:World):PV->Value->Prop
 | int (k:IntKind) (n:Int):bR I w (.int k n) (.int k n)
 | bool (b:Bool):bR I w (.bool b) (.bool b)
 | str (s:ByteArray):bR I w (.str s) (.string s)
 | agg (cs:List PV) (vs:Array Value) (hl:cs.length=vs.size) (h:∀ (i:Nat) p v,cs[i]?=some p->vs[i]?=some v->bR I w p v):bR I w (.agg cs) (.agg vs)
 | aQ (cs:List PV) (vs:Array Value) (hl:cs.length=vs.size) (h:∀ (i:Nat) p v,cs[i]?=some p->vs[i]?=some v->bR I w p v):bR I w (.aQ cs) (.tuple vs)
 | nils:bR I w .nils (.slice none 0 0)
 | slice (k:Bool) (sz:Nat) (es:List (List PV)) (b o len cap:Nat) (val:Nat->Nat->Value) (hlen:es.length=len) (hc:len<=cap)
   (hz:∀ (i:Nat) e,es[i]?=some e->e.length=sz)
   (hm:∀ (i:Nat) e (j:Nat) p,es[i]?=some e->e[j]?=some p->I k b/\w.cell? ⟨b,o+i*sz+j,none⟩=some (val i j))
   (h:∀ (i:Nat) e (j:Nat) p,es[i]?=some e->e[j]?=some p->bR I w p (val i j)):bR I w (.slice k sz es) (.slice (some ⟨b,o,none⟩) len cap)
 | l8:bR I w .l8 (.pointer none)
 | ptr (k:Bool) (cs:List PV) (off b o o':Nat) (val:Nat->Value) (ho:o'=o+off)
   (hm:∀ (j:Nat) p,cs[j]?=some p->I k b/\w.cell? ⟨b,o+j,none⟩=some (val j))
   (h:∀ (j:Nat) p,cs[j]?=some p->bR I w p (val j)):bR I w (.ptr k cs off) (.pointer (some ⟨b,o',none⟩))
 | func (f:Nat) (cs:List PV) (vs:Array Value) (hl:cs.length=vs.size) (h:∀ (i:Nat) p v,cs[i]?=some p->vs[i]?=some v->bR I w p v):bR I w (.func f cs) (.func (.func f) #[] vs)
 | l9:bR I w .l9 .nilFunc
 | lN (f:Nat) (cs:List PV) (vs:Array Value) (hl:cs.length=vs.size) (h:∀ (i:Nat) p v,cs[i]?=some p->vs[i]?=some v->bR I w p v):bR I w (.lN f cs) (.func (.func f) vs #[])
theorem bR.mono {I I':Bool->Nat->Prop} {w w':World} (hI:∀ k b,I k b->I' k b/\w'.heap[b]?=w.heap[b]?) {p:PV} {v:Value} (h:bR I w p v):bR I' w' p v:=by
 induction h with
 | int k n=>exact .int k n
 | bool b=>exact .bool b
 | str s=>exact .str s
 | agg cs vs hl _ ih=>exact .agg cs vs hl ih
 | aQ cs vs hl _ ih=>exact .aQ cs vs hl ih
 | nils=>exact .nils
 | slice k sz es b o len cap val hlen hc hz hm _ ih =>
  refine .slice k sz es b o len cap val hlen hc hz (fun i e j p he hp=>?_) ih
  obtain ⟨h1,h2⟩:=hm i e j p he hp;exact ⟨(hI _ _ h1).1,(World.cell?_of_block (a:=⟨b,o+i*sz+j,none⟩) (hI _ _ h1).2).trans h2⟩
 | l8=>exact .l8
 | ptr k cs off b o o' val ho hm _ ih =>
  refine .ptr k cs off b o o' val ho (fun j p hp=>?_) ih
  obtain ⟨h1,h2⟩:=hm j p hp;exact ⟨(hI _ _ h1).1,(World.cell?_of_block (a:=⟨b,o+j,none⟩) (hI _ _ h1).2).trans h2⟩
 | func f cs vs hl _ ih=>exact .func f cs vs hl ih
 | l9=>exact .l9
 | lN f cs vs hl _ ih=>exact .lN f cs vs hl ih
abbrev jI:=Nat->Option (Nat×Nat)
inductive aL (I:Bool->Nat->Prop) (φ:jI) (w:World):AV->Value->Prop
 | undef (v:Value):aL I φ w .undef v
 | pure (p:PV) (v:Value) (h:bR I w p v):aL I φ w (.pure p) v
 | box (id off b n:Nat) (h:φ id=some (b,n)):aL I φ w (.box id off) (.pointer (some ⟨b,off,none⟩))
 | row (id sz off len b n o cap:Nat) (h:φ id=some (b,n)) (ho:o=off*sz) (hc:len<=cap) (hn:(off+cap)*sz=n):aL I φ w (.row id sz off len) (.slice (some ⟨b,o,none⟩) len cap)
 | agg (cs:List AV) (vs:Array Value) (hl:cs.length=vs.size) (h:∀ (i:Nat) p v,cs[i]?=some p->vs[i]?=some v->aL I φ w p v):aL I φ w (.agg cs) (.agg vs)
 | aQ (cs:List AV) (vs:Array Value) (hl:cs.length=vs.size) (h:∀ (i:Nat) p v,cs[i]?=some p->vs[i]?=some v->aL I φ w p v):aL I φ w (.aQ cs) (.tuple vs)
 | func (f:Nat) (cs:List AV) (vs:Array Value) (hl:cs.length=vs.size) (h:∀ (i:Nat) p v,cs[i]?=some p->vs[i]?=some v->aL I φ w p v):aL I φ w (.func f cs) (.func (.func f) #[] vs)
 | yield (id b n:Nat) (h:φ id=some (b,n)):aL I φ w (.yield id) (.func (.yield b) #[] #[])
 | void (id sz b:Nat) (h:φ id=some (b,0)):aL I φ w (.void id sz) (.slice (some ⟨b,0,none⟩) 0 0)
 | j6 (id b n:Nat) (h:φ id=some (b,n)):aL I φ w (.j6 id) (.map (some b))
theorem aL.mono {I I':Bool->Nat->Prop} {φ φ':jI} {w w':World} (hI:∀ k b,I k b->I' k b/\w'.heap[b]?=w.heap[b]?) (hφ:∀ id x,φ id=some x->φ' id=some x)
  {a:AV} {v:Value} (h:aL I φ w a v):aL I' φ' w' a v:=by
 induction h with
 | undef v=>exact .undef v
 | pure p v h=>exact .pure p v (h.mono hI)
 | box id off b n h=>exact .box id off b n (hφ _ _ h)
 | row id sz off len b n o cap h ho hc hn=>exact .row id sz off len b n o cap (hφ _ _ h) ho hc hn
 | agg cs vs hl _ ih=>exact .agg cs vs hl ih
 | aQ cs vs hl _ ih=>exact .aQ cs vs hl ih
 | func f cs vs hl _ ih=>exact .func f cs vs hl ih
 | yield id b n h=>exact .yield id b n (hφ _ _ h)
 | void id sz b h=>exact .void id sz b (hφ _ _ h)
 | j6 id b n h=>exact .j6 id b n (hφ _ _ h)
section
variable {I:Bool->Nat->Prop} {φ:jI} {w:World} {v:Value}
theorem bR.bJ {k:IntKind} {n:Int} (h:bR I w (.int k n) v):v=.int k n:=by cases h;rfl
theorem bR.iF {b:Bool} (h:bR I w (.bool b) v):v=.bool b:=by cases h;rfl
theorem bR.jo {s:ByteArray} (h:bR I w (.str s) v):v=.string s:=by cases h;rfl
theorem bR.jq (h:bR I w .nils v):v=.slice none 0 0:=by cases h;rfl
theorem bR.Ih (h:bR I w .l8 v):v=.pointer none:=by cases h;rfl
theorem bR.Ii (h:bR I w .l9 v):v=.nilFunc:=by cases h;rfl
theorem aL.aI {p:PV} (h:aL I φ w (.pure p) v):bR I w p v:=by cases h;assumption
theorem aL.bJ {k:IntKind} {n:Int} (h:aL I φ w (.pure (.int k n)) v):v=.int k n:=h.aI.bJ
theorem aL.iF {b:Bool} (h:aL I φ w (.pure (.bool b)) v):v=.bool b:=h.aI.iF
theorem aL.jo {s:ByteArray} (h:aL I φ w (.pure (.str s)) v):v=.string s:=h.aI.jo
theorem aL.lZ {id off:Nat} (h:aL I φ w (.box id off) v):∃ b n,φ id=some (b,n)/\v=.pointer (some ⟨b,off,none⟩):=by
 cases h with
 | box _ _ b n h=>exact ⟨b,n,h,rfl⟩
theorem aL.jr {id sz off len:Nat} (h:aL I φ w (.row id sz off len) v) :
  ∃ b n cap,φ id=some (b,n)/\v=.slice (some ⟨b,off*sz,none⟩) len cap/\len<=cap/\(off+cap)*sz=n:=by
 cases h with
 | row _ _ _ _ b n o cap h ho hc hn=>exact ⟨b,n,cap,h,by rw [ho],hc,hn⟩
theorem aL.FT {id:Nat} (h:aL I φ w (.yield id) v):∃ b n,φ id=some (b,n)/\v=.func (.yield b) #[] #[]:=by
 cases h with
 | yield _ b n h=>exact ⟨b,n,h,rfl⟩
theorem aL.vg {id:Nat} (h:aL I φ w (.j6 id) v):∃ b n,φ id=some (b,n)/\v=.map (some b):=by
 cases h with
 | j6 _ b n h=>exact ⟨b,n,h,rfl⟩
theorem aL.Ij {id sz:Nat} (h:aL I φ w (.void id sz) v):∃ b,φ id=some (b,0)/\v=.slice (some ⟨b,0,none⟩) 0 0:=by
 cases h with
 | void _ _ b h=>exact ⟨b,h,rfl⟩
theorem aL.lq {f:Nat} {cs:List AV} (h:aL I φ w (.func f cs) v):∃ vs,v=.func (.func f) #[] vs/\cs.length=vs.size/\∀ (i:Nat) p v,cs[i]?=some p->vs[i]?=some v->aL I φ w p v:=by
 cases h with
 | func _ _ vs hl h=>exact ⟨vs,rfl,hl,h⟩
theorem aL.uO {cs:List AV} (h:aL I φ w (.aQ cs) v):∃ vs,v=.tuple vs/\cs.length=vs.size/\∀ (i:Nat) p v,cs[i]?=some p->vs[i]?=some v->aL I φ w p v:=by
 cases h with
 | aQ _ vs hl h=>exact ⟨vs,rfl,hl,h⟩
theorem bR.uO {cs:List PV} (h:bR I w (.aQ cs) v):∃ vs,v=.tuple vs/\cs.length=vs.size/\∀ (i:Nat) p v,cs[i]?=some p->vs[i]?=some v->bR I w p v:=by
 cases h with
 | aQ _ vs hl h=>exact ⟨vs,rfl,hl,h⟩
theorem bR.lq {f:Nat} {cs:List PV} (h:bR I w (.func f cs) v):∃ vs,v=.func (.func f) #[] vs/\cs.length=vs.size/\∀ (i:Nat) p v,cs[i]?=some p->vs[i]?=some v->bR I w p v:=by
 cases h with
 | func _ _ vs hl h=>exact ⟨vs,rfl,hl,h⟩
theorem bR.Ik {f:Nat} {cs:List PV} (h:bR I w (.lN f cs) v):∃ vs,v=.func (.func f) vs #[]/\cs.length=vs.size/\∀ (i:Nat) p v,cs[i]?=some p->vs[i]?=some v->bR I w p v:=by
 cases h with
 | lN _ _ vs hl h=>exact ⟨vs,rfl,hl,h⟩
end
def aJ (I:Bool->Nat->Prop) (φ:jI) (w:World) (cs:List AV) (vs:List Value):Prop :=
 cs.length=vs.length/\∀ (i:Nat) p v,cs[i]?=some p->vs[i]?=some v->aL I φ w p v
section
variable {I:Bool->Nat->Prop} {φ:jI} {w:World}
theorem aJ.nil:aJ I φ w [] []:=⟨rfl,fun i p v h=>by simp at h⟩
theorem aJ.cons {c:AV} {v:Value} {cs:List AV} {vs:List Value} (h:aL I φ w c v) (hs:aJ I φ w cs vs):aJ I φ w (c::cs) (v::vs) :=
 ⟨by simp [hs.1],fun i p u hp hu=>by
  cases i with
  | zero=>simp at hp hu;subst hp;subst hu;exact h
  | succ i=>simp at hp hu;exact hs.2 i p u hp hu⟩
theorem aJ.cons_inv {c:AV} {cs:List AV} {vs:List Value} (h:aJ I φ w (c::cs) vs):∃ v vs',vs=v::vs'/\aL I φ w c v/\aJ I φ w cs vs':=by
 cases vs with
 | nil=>have:=h.1;simp at this
 | cons v vs=>exact ⟨v,vs,rfl,h.2 0 c v rfl rfl,by have:=h.1;simpa using this,fun i p u hp hu=>h.2 (i+1) p u (by simpa using hp) (by simpa using hu)⟩
theorem aJ.nC {vs:List Value} (h:aJ I φ w [] vs):vs=[]:=List.eq_nil_of_length_eq_zero h.1.symm
theorem aJ.mono {I':Bool->Nat->Prop} {φ':jI} {w':World} (hI:∀ k b,I k b->I' k b/\w'.heap[b]?=w.heap[b]?) (hφ:∀ id x,φ id=some x->φ' id=some x) {cs:List AV} {vs:List Value}
  (h:aJ I φ w cs vs):aJ I' φ' w' cs vs:=⟨h.1,fun i p v hp hv=>(h.2 i p v hp hv).mono hI hφ⟩
theorem aJ.append {cs ds:List AV} {vs us:List Value} (h:aJ I φ w cs vs) (k:aJ I φ w ds us):aJ I φ w (cs++ds) (vs++us) :=
 ⟨by simp [h.1,k.1],fun i p v hp hv=>by
  by_cases hi:i < cs.length
  .rw [List.getElem?_append_left hi] at hp;rw [List.getElem?_append_left (by rw [<- h.1];exact hi)] at hv;exact h.2 i p v hp hv
  .rw [List.getElem?_append_right (by omega)] at hp;rw [List.getElem?_append_right (by rw [<- h.1];omega),<- h.1] at hv;exact k.2 _ p v hp hv⟩
theorem aJ.drop {cs:List AV} {vs:List Value} (h:aJ I φ w cs vs) (n:Nat):aJ I φ w (cs.drop n) (vs.drop n) :=
 ⟨by simp [h.1],fun i p v hp hv=>h.2 (n+i) p v (by simpa using hp) (by simpa using hv)⟩
theorem aJ.take {cs:List AV} {vs:List Value} (h:aJ I φ w cs vs) (n:Nat):aJ I φ w (cs.take n) (vs.take n) :=
 ⟨by simp [h.1],fun i p v hp hv=>by
  have hi:i < n:=by
   have:=(List.getElem?_eq_some_iff.1 hp).1;simp at this;omega
  rw [List.getElem?_take_of_lt hi] at hp hv;exact h.2 i p v hp hv⟩
theorem aJ.si {cs:List AV} {vs:Array Value} (hl:cs.length=vs.size) (h:∀ (i:Nat) p v,cs[i]?=some p->vs[i]?=some v->aL I φ w p v):aJ I φ w cs vs.toList :=
 ⟨by simpa using hl,fun i p v hp hv=>h i p v hp (by simpa using hv)⟩
theorem aJ.p8 {ps:List PV} {vs:List Value} (hl:ps.length=vs.length) (h:∀ (i:Nat) p v,ps[i]?=some p->vs[i]?=some v->bR I w p v):aJ I φ w (ps.map .pure) vs :=
 ⟨by simpa using hl,fun i p v hp hv=>by
  rw [List.getElem?_map] at hp
  cases hq:ps[i]? with
  | none=>rw [hq] at hp;simp at hp
  | some q=>rw [hq] at hp;simp at hp;subst hp;exact .pure q v (h i q v hq hv)⟩
theorem aL.cells {a:AV} {v:Value} (h:aL I φ w a v) (ha:a≠.undef):aJ I φ w a.cells v.cells.toList:=by
 cases h with
 | undef=>exact absurd rfl ha
 | agg cs vs hl h=>exact .si hl h
 | pure p v h =>
  cases h with
  | agg cs vs hl h =>
   exact aJ.p8 (by simpa [Value.cells] using hl) fun i p v hp hv=>h i p v hp (by simpa [Value.cells] using hv)
  | int=>exact .cons (.pure _ _ (.int ..)) .nil
  | bool=>exact .cons (.pure _ _ (.bool ..)) .nil
  | str=>exact .cons (.pure _ _ (.str ..)) .nil
  | aQ cs vs hl h=>exact .cons (.pure _ _ (.aQ cs vs hl h)) .nil
  | nils=>exact .cons (.pure _ _ .nils) .nil
  | slice k sz es b o len cap val hlen hc hz hm h=>exact .cons (.pure _ _ (.slice k sz es b o len cap val hlen hc hz hm h)) .nil
  | l8=>exact .cons (.pure _ _ .l8) .nil
  | ptr k cs off b o o' val ho hm h=>exact .cons (.pure _ _ (.ptr k cs off b o o' val ho hm h)) .nil
  | func f cs vs hl h=>exact .cons (.pure _ _ (.func f cs vs hl h)) .nil
  | l9=>exact .cons (.pure _ _ .l9) .nil
  | lN f cs vs hl h=>exact .cons (.pure _ _ (.lN f cs vs hl h)) .nil
 | box id off b n h=>exact .cons (.box id off b n h) .nil
 | row id sz off len b n o cap h ho hc hn=>exact .cons (.row id sz off len b n o cap h ho hc hn) .nil
 | aQ cs vs hl h=>exact .cons (.aQ cs vs hl h) .nil
 | func f cs vs hl h=>exact .cons (.func f cs vs hl h) .nil
 | yield id b n h=>exact .cons (.yield id b n h) .nil
 | void id sz b h=>exact .cons (.void id sz b h) .nil
 | j6 id b n h=>exact .cons (.j6 id b n h) .nil
theorem aL.one {a:AV} {v:Value} (h:aL I φ w a v) (ha:a.one=true):v.oneCell'=true:=by
 cases h with
 | undef=>simp [AV.one] at ha
 | agg=>simp [AV.one] at ha
 | aQ=>simp [AV.one] at ha
 | pure p v h=>cases h<;>first|rfl|simp [AV.one] at ha
 | _=>rfl
end
section
variable {H:Heap} {id i:Nat} {o:aP}
theorem zkg:(H.alloc o).get i=if i=H.nx then o else H.get i:=by
 unfold Heap.get Heap.alloc upd
 by_cases h:i=H.nx
 .subst h;simp
 .simp only [h,if_false]
  by_cases h2:i < H.nx
  .rw [if_pos h2,if_pos (by omega)]
  .rw [if_neg h2,if_neg (by omega)]
theorem O3:(H.alloc o).get H.nx=o:=by rw [zkg,if_pos rfl]
theorem Nr (h:i≠H.nx):(H.alloc o).get i=H.get i:=by rw [zkg,if_neg h]
theorem zg (h:i≠id):(H.set id o).get i=H.get i:=by
 unfold Heap.get Heap.set upd;simp [h]
theorem Ns (h:id < H.nx):(H.set id o).get id=o:=by
 unfold Heap.get Heap.set upd;simp [h]
theorem zic (ids:List Nat):(H.freeze ids).get i=if ids.contains i then (H.get i).freeze else H.get i:=by
 unfold Heap.get Heap.freeze
 by_cases h:i < H.nx
 .simp [h]
 .simp [h,aP.freeze]
theorem TQ (h:H.get i≠.dead):i < H.nx:=by
 unfold Heap.get at h
 split at h
 .assumption
 .exact absurd rfl h
end
def aP.live:aP->Bool
 | .cells true _|.loop _|.raw _|.ji _=>true
 | _=>false
def aP.fH:aP->Bool
 | .dead=>true
 | _=>false
def EN (φ:jI) (H:Heap) (b:Nat):Prop:=∃ id n,φ id=some (b,n)/\(H.get id).live=true
def aY (S:Bool->Nat->Prop) (base:Nat) (φ:jI) (H:Heap) (w:World) (k:Bool) (b:Nat):Prop:=(S k b\/base<=b)/\b < w.heap.size/\¬ EN φ H b
def ZQ:fO->Exit
 | .normal=>.normal
 | .exit id=>.exit id
 | .ret=>.ret
def zrJ:fO->Option Code
 | .normal=>none
 | .exit id=>some (.exit id)
 | .ret=>some .ret
def zoW:Dm->LoopState
 | .ready=>.ready
 | .busy=>.busy
 | .done=>.done
abbrev jC:=Nat->Code->aX->Prop
def wP (C:jC) (I:Bool->Nat->Prop) (φ:jI) (w:World) (o:aP) (b n:Nat):Prop :=
 match o with
 | .dead=>True
 | .cells _ cs=>∃ (c:Array Value) (e:TypeId) (fz:Nat×Nat),w.heap[b]?=some (.cells c e fz)/\c.size=n/\cs.length<=n/\(∀ j,j < n->¬ (fz.1<=j/\j < fz.2)) /\
   ∀ (j:Nat) a v,cs[j]?=some a->c[j]?=some v->aL I φ w a v
 | .raw z=>∃ (c:Array Value) (e:TypeId) (fz:Nat×Nat),w.heap[b]?=some (.cells c e fz)/\c.size=n/\(z.map AV.pure).length<=n/\(∀ j,j < n->¬ (fz.1<=j/\j < fz.2)) /\
   ∀ (j:Nat) a v,(z.map AV.pure)[j]?=some a->c[j]?=some v->aL I φ w a v
 | .ji es=>∃ (ms:Array MapEntry) (clock:Nat),w.heap[b]?=some (.map ms clock)/\ms.size=es.length /\
   ∀ (j:Nat) k v m,es[j]?=some (k,v)->ms[j]?=some m->bR I w k m.key/\bR I w v m.val
 | .loop r=>∃ l:Loop,w.heap[b]?=some (.loop l)/\l.state=zoW r.state/\l.pending=zrJ r.pending/\l.params.toList=r.params/\C l.tmps.size l.assign r.assign/\C l.tmps.size l.body r.body /\
   (∀ t,aL I φ w (r.env t) (l.tmps.getD t undef))/\(∀ t,t∈r.params->t < l.tmps.size)
structure aU (C:jC) (S:Bool->Nat->Prop) (base:Nat) (φ:jI) (H:Heap) (w:World):Prop where
 sz:base<=w.heap.size
 out:∀ k b,S k b->b < base
 nx:∀ id x,φ id=some x->id < H.nx
 lt:∀ id b n,φ id=some (b,n)->base<=b/\b < w.heap.size
 obj:∀ id b n,φ id=some (b,n)->wP C (aY S base φ H w) φ w (H.get id) b n
 inj:∀ id id' b n n',φ id=some (b,n)->φ id'=some (b,n')->(H.get id).fH=false->(H.get id').fH=false->id=id'
structure fT (φ:jI) (H:Heap) (w:World) (φ':jI) (H':Heap) (w':World):Prop where
 phi:∀ id x,φ id=some x->φ' id=some x
 os:w'.os=w.os
 tape:w'.tape=w.tape
 output:w'.output=w.output
 size:w.heap.size<=w'.heap.size
 same:∀ b,b < w.heap.size->¬ EN φ H b->w'.heap[b]?=w.heap[b]?
 Il:∀ b,b < w.heap.size->EN φ' H' b->EN φ H b
 nx:H.nx<=H'.nx
section
variable {C:jC} {S:Bool->Nat->Prop} {base:Nat} {φ φ' φ'':jI} {H H' H'':Heap} {w w' w'':World}
theorem fT.refl:fT φ H w φ H w:=⟨fun _ _ h=>h,rfl,rfl,rfl,Nat.le_refl _,fun _ _ _=>rfl,fun _ _ h=>h,Nat.le_refl _⟩
theorem fT.trans (h:fT φ H w φ' H' w') (k:fT φ' H' w' φ'' H'' w''):fT φ H w φ'' H'' w'' :=
 ⟨fun id x hx=>k.phi _ _ (h.phi _ _ hx),k.os.trans h.os,k.tape.trans h.tape,k.output.trans h.output,Nat.le_trans h.size k.size,
  fun b hb hm=>(k.same b (Nat.lt_of_lt_of_le hb h.size) fun EO=>hm (h.Il b hb EO)).trans (h.same b hb hm),
  fun b hb hm=>h.Il b hb (k.Il b (Nat.lt_of_lt_of_le hb h.size) hm),Nat.le_trans h.nx k.nx⟩
theorem fT.EP (h:fT φ H w φ' H' w') {k:Bool} {b:Nat} (hi:aY S base φ H w k b):aY S base φ' H' w' k b/\w'.heap[b]?=w.heap[b]? :=
 ⟨⟨hi.1,Nat.lt_of_lt_of_le hi.2.1 h.size,fun hm=>hi.2.2 (h.Il b hi.2.1 hm)⟩,h.same b hi.2.1 hi.2.2⟩
theorem fT.yn (h:fT φ H w φ' H' w') {a:AV} {v:Value} (hv:aL (aY S base φ H w) φ w a v):aL (aY S base φ' H' w') φ' w' a v :=
 hv.mono (fun _ _ hi=>h.EP hi) h.phi
theorem fT.of_below (h:Below w.heap.size w w'):fT φ H w φ H w' :=
 ⟨fun _ _ h=>h,h.os,h.tape,h.output,h.size,fun b hb _=>h.block b hb,fun _ _ h=>h,Nat.le_refl _⟩
theorem wP.mono {I I':Bool->Nat->Prop} {o:aP} {b n:Nat} (hI:∀ k b,I k b->I' k b/\w'.heap[b]?=w.heap[b]?) (hφ:∀ id x,φ id=some x->φ' id=some x) (hb:w'.heap[b]?=w.heap[b]?)
  (h:wP C I φ w o b n):wP C I' φ' w' o b n:=by
 cases o with
 | dead=>trivial
 | cells own cs =>
  obtain ⟨c,e,fz,h1,h2,h3,h4,h5⟩:=h;exact ⟨c,e,fz,hb.trans h1,h2,h3,h4,fun j a v ha hv=>(h5 j a v ha hv).mono hI hφ⟩
 | raw z =>
  obtain ⟨c,e,fz,h1,h2,h3,h4,h5⟩:=h;exact ⟨c,e,fz,hb.trans h1,h2,h3,h4,fun j a v ha hv=>(h5 j a v ha hv).mono hI hφ⟩
 | ji es =>
  obtain ⟨ms,ck,h1,h2,h3⟩:=h;exact ⟨ms,ck,hb.trans h1,h2,fun j k v m hk hm=>⟨(h3 j k v m hk hm).1.mono hI,(h3 j k v m hk hm).2.mono hI⟩⟩
 | loop r =>
  obtain ⟨l,h1,h2,h3,h4,h5,h6,h7,h8⟩:=h;exact ⟨l,hb.trans h1,h2,h3,h4,h5,h6,fun t=>(h7 t).mono hI hφ,h8⟩
theorem aU.below (h:aU C S base φ H w) (hb:Below w.heap.size w w'):aU C S base φ H w' :=
 ⟨Nat.le_trans h.sz hb.size,h.out,h.nx,fun id b n aB=>⟨(h.lt id b n aB).1,Nat.lt_of_lt_of_le (h.lt id b n aB).2 hb.size⟩,
  fun id b n aB=>(h.obj id b n aB).mono (fun _ _ hi=>(fT.of_below hb).EP hi) (fun _ _ h=>h) (hb.block b (h.lt id b n aB).2),h.inj⟩
def ER (φ:jI) (id:Nat) (x:Nat×Nat):jI:=fun i=>if i=id then some x else φ i
theorem Dp (id:Nat) (x:Nat×Nat):ER φ id x id=some x:=by simp [ER]
theorem Ar {id i:Nat} (x:Nat×Nat) (h:i≠id):ER φ id x i=φ i:=by simp [ER,h]
theorem Ry {id:Nat} {x:Nat×Nat} (h:φ id=none):∀ i y,φ i=some y->ER φ id x i=some y:=fun i y hy=>by
 rw [Ar x (fun e=>by rw [e,h] at hy;cases hy)];exact hy
theorem aU.new (h:aU C S base φ H w) (hb:Below w.heap.size w w') {id b n:Nat} {o:aP} (aB:φ id=none) (hH:H'.get id=o) (hold:∀ i,i≠id->φ i≠none->H'.get i=H.get i)
  (bU:id < H'.nx) (Dq:H.nx<=H'.nx) (ES:w.heap.size<=b) (o7:b < w'.heap.size) (ho:wP C (aY S base φ H w) φ w' o b n) :
  fT φ H w (ER φ id (b,n)) H' w'/\aU C S base (ER φ id (b,n)) H' w':=by
 have bq:∀ i x,φ i=some x->i≠id/\H'.get i=H.get i:=fun i x hx=>by
  have bC:i≠id:=fun e=>by rw [e,aB] at hx;cases hx
  exact ⟨bC,hold i bC (by rw [hx];simp)⟩
 have Io:∀ c,c < w.heap.size->EN (ER φ id (b,n)) H' c->EN φ H c:=by
  rintro c hc ⟨i,m,hi,hl⟩
  by_cases rO:i=id
  .subst rO;rw [Dp] at hi;simp at hi;omega
  .rw [Ar _ rO] at hi;exact ⟨i,m,hi,by rw [<- (bq i _ hi).2];exact hl⟩
 have oD:fT φ H w (ER φ id (b,n)) H' w' :=
  ⟨Ry aB,hb.os,hb.tape,hb.output,hb.size,fun c hc _=>hb.block c hc,Io,Dq⟩
 refine ⟨oD,Nat.le_trans h.sz hb.size,h.out,?_,?_,?_,?_⟩
 .intro i x hx
  by_cases rO:i=id
  .rw [rO];exact bU
  .rw [Ar _ rO] at hx;exact Nat.lt_of_lt_of_le (h.nx _ _ hx) Dq
 .intro i c m hx
  by_cases rO:i=id
  .subst rO;rw [Dp] at hx;simp at hx;have:=h.sz;omega
  .rw [Ar _ rO] at hx;have:=h.lt _ _ _ hx;have:=hb.size;omega
 .intro i c m hx
  by_cases rO:i=id
  .subst rO;rw [Dp] at hx;simp at hx;obtain ⟨rfl,rfl⟩:=hx;rw [hH];exact ho.mono (fun _ c hc=>⟨(oD.EP hc).1,rfl⟩) (Ry aB) rfl
  .rw [Ar _ rO] at hx;rw [(bq i _ hx).2];exact (h.obj _ _ _ hx).mono (fun _ c hc=>oD.EP hc) (Ry aB) (hb.block c (h.lt _ _ _ hx).2)
 .intro i j c m m' hi hj di dj
  by_cases rO:i=id<;>by_cases XC:j=id
  .rw [rO,XC]
  .subst rO;rw [Dp] at hi;rw [Ar _ XC] at hj;have:=(h.lt _ _ _ hj).2;simp at hi;omega
  .subst XC;rw [Dp] at hj;rw [Ar _ rO] at hi;have:=(h.lt _ _ _ hi).2;simp at hj;omega
  .rw [Ar _ rO] at hi;rw [Ar _ XC] at hj;rw [(bq i _ hi).2] at di;rw [(bq j _ hj).2] at dj;exact h.inj _ _ _ _ _ hi hj di dj
theorem aU.write (h:aU C S base φ H w) {id b n:Nat} {o:aP} (aB:φ id=some (b,n)) (AZ:(H.get id).live=true)
  (hos:w'.os=w.os) (TR:w'.tape=w.tape) (fU:w'.output=w.output) (Nu:w'.heap.size=w.heap.size) (ah:∀ c,c≠b->w'.heap[c]?=w.heap[c]?)
  (ho:wP C (aY S base φ H w) φ w' o b n) :
  fT φ H w φ (H.set id o) w'/\aU C S base φ (H.set id o) w':=by
 have A7:(H.get id).fH=false:=by cases hg:H.get id<;>rw [hg] at AZ<;>first|rfl|simp [aP.live] at AZ
 have wQ:∀ i,i≠id->(H.set id o).get i=H.get i:=fun i hi=>zg hi;have ET:(H.set id o).get id=o:=Ns (h.nx _ _ aB);have Nv:EN φ H b:=⟨id,n,aB,AZ⟩
 have Io:∀ c,EN φ (H.set id o) c->EN φ H c:=by
  rintro c ⟨i,m,hi,hl⟩
  by_cases rO:i=id
  .subst rO;rw [aB] at hi;simp at hi;rw [<- hi.1];exact Nv
  .exact ⟨i,m,hi,by rw [<- wQ i rO];exact hl⟩
 have oD:fT φ H w φ (H.set id o) w' :=
  ⟨fun _ _ h=>h,hos,TR,fU,by omega,fun c _ hm=>ah c (fun e=>hm (e ▸ Nv)),fun c _=>Io c,Nat.le_refl _⟩
 refine ⟨oD,by rw [Nu];exact h.sz,h.out,fun i x hx=>h.nx i x hx,fun i c m hx=>by rw [Nu];exact h.lt _ _ _ hx,?_,?_⟩
 .intro i c m hx
  by_cases rO:i=id
  .subst rO;rw [aB] at hx;simp at hx;obtain ⟨rfl,rfl⟩:=hx;rw [ET];exact ho.mono (fun _ c hc=>⟨(oD.EP hc).1,rfl⟩) (fun _ _ h=>h) rfl
  .rw [wQ i rO]
   by_cases hd:(H.get i).fH=true
   .cases hg:H.get i<;>rw [hg] at hd<;>first|trivial|simp [aP.fH] at hd
   .have TS:c≠b:=fun e=>rO (h.inj _ _ _ _ _ hx (e ▸ aB) (by simpa using hd) A7);exact (h.obj _ _ _ hx).mono (fun _ c hc=>oD.EP hc) (fun _ _ h=>h) (ah c TS)
 .intro i j c m m' hi hj di dj;have aux:∀ k,((H.set id o).get k).fH=false->(H.get k).fH=false:=fun k hk=>by
   by_cases wR:k=id
   .rw [wR];exact A7
   .rw [wQ k wR] at hk;exact hk
  exact h.inj _ _ _ _ _ hi hj (aux i di) (aux j dj)
theorem Heap.ext' {A B:Heap} (h1:A.nx=B.nx) (h2:∀ i,A.arr i=B.arr i):A=B:=by
 cases A;cases B;simp at h1 h2;subst h1;congr;exact funext h2
theorem aU.kill (h:aU C S base φ H w) (id:Nat):fT φ H w φ (H.set id .dead) w/\aU C S base φ (H.set id .dead) w:=by
 have bq:∀ i,(H.set id .dead).get i=H.get i\/(H.set id .dead).get i=.dead:=fun i=>by
  by_cases hi:i=id
  .subst hi
   by_cases aK:i < H.nx
   .exact .inr (Ns aK)
   .exact .inr (by unfold Heap.get Heap.set;simp [aK])
  .exact .inl (zg hi)
 have oD:fT φ H w φ (H.set id .dead) w :=
  ⟨fun _ _ h=>h,rfl,rfl,rfl,Nat.le_refl _,fun _ _ _=>rfl,fun c _ ⟨i,m,hi,hl⟩=>⟨i,m,hi,by rcases bq i with e|e<;>rw [e] at hl;exact hl;simp [aP.live] at hl⟩,Nat.le_refl _⟩
 refine ⟨oD,h.sz,h.out,h.nx,h.lt,?_,?_⟩
 .intro i c m hx;rcases bq i with e|e<;>rw [e]
  .exact (h.obj _ _ _ hx).mono (w':=w) (fun _ c hc=>oD.EP hc) (fun _ _ h=>h) rfl
  .trivial
 .intro i j c m m' hi hj di dj;have aux:∀ k,((H.set id .dead).get k).fH=false->(H.get k).fH=false:=fun k hk=>by
   rcases bq k with e|e<;>rw [e] at hk
   .exact hk
   .simp [aP.fH] at hk
  exact h.inj _ _ _ _ _ hi hj (aux i di) (aux j dj)
theorem aU.rename (h:aU C S base φ H w) {id b n:Nat} {o:aP} (aB:φ id=some (b,n)) (hg:H.get id=o) (hd:o.fH=false) (tO:φ H.nx=none) :
  fT φ H w (ER φ H.nx (b,n)) ((H.set id .dead).alloc o) w/\aU C S base (ER φ H.nx (b,n)) ((H.set id .dead).alloc o) w:=by
 have TT:id < H.nx:=h.nx _ _ aB;have bq:∀ i,i≠H.nx->i≠id->((H.set id .dead).alloc o).get i=H.get i:=fun i h1 h2=>by rw [Nr (by exact h1),zg h2]
 have vk:((H.set id .dead).alloc o).get id=.dead:=by rw [Nr (by show id≠H.nx;omega),Ns TT]
 have TU:((H.set id .dead).alloc o).get H.nx=o:=O3 (H:=H.set id .dead);have Io:∀ c,EN (ER φ H.nx (b,n)) ((H.set id .dead).alloc o) c->EN φ H c:=by
  rintro c ⟨i,m,hi,hl⟩
  by_cases h1:i=H.nx
  .subst h1;rw [TU] at hl;rw [Dp] at hi;simp at hi;exact ⟨id,n,by rw [<- hi.1];exact aB,by rw [hg];exact hl⟩
  .by_cases h2:i=id
   .subst h2;rw [vk] at hl;simp [aP.live] at hl
   .rw [bq i h1 h2] at hl;rw [Ar _ h1] at hi;exact ⟨i,m,hi,hl⟩
 have oD:fT φ H w (ER φ H.nx (b,n)) ((H.set id .dead).alloc o) w :=
  ⟨Ry tO,rfl,rfl,rfl,Nat.le_refl _,fun _ _ _=>rfl,fun c _=>Io c,Nat.le_succ _⟩
 refine ⟨oD,h.sz,h.out,?_,?_,?_,?_⟩
 .intro i x hx;show i < H.nx+1
  by_cases h1:i=H.nx
  .omega
  .rw [Ar _ h1] at hx;have:=h.nx _ _ hx;omega
 .intro i c m hx
  by_cases h1:i=H.nx
  .subst h1;rw [Dp] at hx;simp at hx;obtain ⟨rfl,rfl⟩:=hx;exact h.lt _ _ _ aB
  .rw [Ar _ h1] at hx;exact h.lt _ _ _ hx
 .intro i c m hx
  by_cases h1:i=H.nx
  .subst h1;rw [Dp] at hx;simp at hx;obtain ⟨rfl,rfl⟩:=hx;rw [TU];have ho:=h.obj _ _ _ aB;rw [hg] at ho;exact ho.mono (fun _ c hc=>oD.EP hc) (Ry tO) rfl
  .rw [Ar _ h1] at hx
   by_cases h2:i=id
   .subst h2;rw [vk]
    trivial
   .rw [bq i h1 h2];exact (h.obj _ _ _ hx).mono (fun _ c hc=>oD.EP hc) (Ry tO) rfl
 .intro i j c m m' hi hj di dj;have hod:(H.get id).fH=false:=by rw [hg];exact hd
  have XD:∀ k,(((H.set id .dead).alloc o).get k).fH=false->k≠id:=fun k hk e=>by rw [e,vk] at hk;simp [aP.fH] at hk
  by_cases h1:i=H.nx<;>by_cases h2:j=H.nx
  .rw [h1,h2]
  .exfalso;subst h1;rw [Dp] at hi;simp at hi;rw [Ar _ h2] at hj;have o8:=XD j dj;rw [bq j h2 o8] at dj;exact o8 (h.inj _ _ _ _ _ hj (by rw [<- hi.1];exact aB) dj hod)
  .exfalso;subst h2;rw [Dp] at hj;simp at hj;rw [Ar _ h1] at hi;have bV:=XD i di;rw [bq i h1 bV] at di;exact bV (h.inj _ _ _ _ _ hi (by rw [<- hj.1];exact aB) di hod)
  .rw [Ar _ h1] at hi;rw [Ar _ h2] at hj;have bV:=XD i di;have o8:=XD j dj;rw [bq i h1 bV] at di;rw [bq j h2 o8] at dj;exact h.inj _ _ _ _ _ hi hj di dj
theorem aU.freeze (h:aU C S base φ H w) (ids:List Nat):fT φ H w φ (H.freeze ids) w/\aU C S base φ (H.freeze ids) w:=by
 have bq:∀ i,(H.freeze ids).get i=H.get i\/(H.freeze ids).get i=(H.get i).freeze:=fun i=>by
  rw [zic]
  cases ids.contains i
  .exact .inl rfl
  .exact .inr rfl
 have AZ:∀ i,((H.freeze ids).get i).live=true->(H.get i).live=true:=fun i hl=>by
  rcases bq i with e|e<;>rw [e] at hl
  .exact hl
  .cases hg:H.get i<;>rw [hg] at hl<;>simp [aP.freeze,aP.live] at hl ⊢
 have A7:∀ i,((H.freeze ids).get i).fH=(H.get i).fH:=fun i=>by
  rcases bq i with e|e<;>rw [e]
  cases hg:H.get i<;>rfl
 have oD:fT φ H w φ (H.freeze ids) w :=
  ⟨fun _ _ h=>h,rfl,rfl,rfl,Nat.le_refl _,fun _ _ _=>rfl,fun c _ ⟨i,m,hi,hl⟩=>⟨i,m,hi,AZ i hl⟩,Nat.le_refl _⟩
 refine ⟨oD,h.sz,h.out,h.nx,h.lt,?_,fun i j c m m' hi hj di dj=>h.inj _ _ _ _ _ hi hj (by rw [<- A7];exact di) (by rw [<- A7];exact dj)⟩
 intro i c m hx;have ho:=(h.obj _ _ _ hx).mono (w':=w) (fun _ c hc=>oD.EP hc) (fun _ _ h=>h) rfl;rcases bq i with e|e<;>rw [e]
 .exact ho
 .cases hg:H.get i<;>rw [hg] at ho<;>exact ho
end
end Go.Proofs.YtmmhnfghklppiaaGreat.Vm
