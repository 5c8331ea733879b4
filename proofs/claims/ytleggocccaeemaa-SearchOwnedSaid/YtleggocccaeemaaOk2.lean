/- How the machine of values stands to the model's memory: the relations, and what keeps them. -/
import Derived.Test.YtleggocccaeemaaOk1
import Derived.Below
set_option linter.unusedVariables false
set_option linter.unusedSimpArgs false
namespace Go.Proofs.Ytleggocccaeemaa.Vm
open Go Go.RowKit
inductive Rep (I:Bool->Nat->Prop) (w:World):PV->Value->Prop
 | int (k:IntKind) (n:Int):Rep I w (.int k n) (.int k n)
 | bool (b:Bool):Rep I w (.bool b) (.bool b)
 | str (s:ByteArray):Rep I w (.str s) (.string s)
 | agg (cs:List PV) (vs:Array Value) (hl:cs.length=vs.size) (h:∀ (i:Nat) p v,cs[i]?=some p->vs[i]?=some v->Rep I w p v):Rep I w (.agg cs) (.agg vs)
 | tup (cs:List PV) (vs:Array Value) (hl:cs.length=vs.size) (h:∀ (i:Nat) p v,cs[i]?=some p->vs[i]?=some v->Rep I w p v):Rep I w (.tup cs) (.tuple vs)
 | nils:Rep I w .nils (.slice none 0 0)
 | slice (k:Bool) (sz:Nat) (es:List (List PV)) (b o len cap:Nat) (val:Nat->Nat->Value) (hlen:es.length=len) (hc:len<=cap)
   (hz:∀ (i:Nat) e,es[i]?=some e->e.length=sz)
   (hm:∀ (i:Nat) e (j:Nat) p,es[i]?=some e->e[j]?=some p->I k b/\w.cell? ⟨b,o+i*sz+j,none⟩=some (val i j))
   (h:∀ (i:Nat) e (j:Nat) p,es[i]?=some e->e[j]?=some p->Rep I w p (val i j)):Rep I w (.slice k sz es) (.slice (some ⟨b,o,none⟩) len cap)
 | nilp:Rep I w .nilp (.pointer none)
 | ptr (k:Bool) (cs:List PV) (off b o o':Nat) (val:Nat->Value) (ho:o'=o+off)
   (hm:∀ (j:Nat) p,cs[j]?=some p->I k b/\w.cell? ⟨b,o+j,none⟩=some (val j))
   (h:∀ (j:Nat) p,cs[j]?=some p->Rep I w p (val j)):Rep I w (.ptr k cs off) (.pointer (some ⟨b,o',none⟩))
 | func (f:Nat) (cs:List PV) (vs:Array Value) (hl:cs.length=vs.size) (h:∀ (i:Nat) p v,cs[i]?=some p->vs[i]?=some v->Rep I w p v):Rep I w (.func f cs) (.func (.func f) #[] vs)
 | nilf:Rep I w .nilf .nilFunc
 | meth (f:Nat) (cs:List PV) (vs:Array Value) (hl:cs.length=vs.size) (h:∀ (i:Nat) p v,cs[i]?=some p->vs[i]?=some v->Rep I w p v):Rep I w (.meth f cs) (.func (.func f) vs #[])
theorem Rep.mono {I I':Bool->Nat->Prop} {w w':World} (hI:∀ k b,I k b->I' k b/\w'.heap[b]?=w.heap[b]?) {p:PV} {v:Value} (h:Rep I w p v):Rep I' w' p v:=by
 induction h with
 | int k n=>exact .int k n
 | bool b=>exact .bool b
 | str s=>exact .str s
 | agg cs vs hl _ ih=>exact .agg cs vs hl ih
 | tup cs vs hl _ ih=>exact .tup cs vs hl ih
 | nils=>exact .nils
 | slice k sz es b o len cap val hlen hc hz hm _ ih =>
  refine .slice k sz es b o len cap val hlen hc hz (fun i e j p he hp=>?_) ih
  obtain ⟨h1,h2⟩:=hm i e j p he hp;exact ⟨(hI _ _ h1).1,(World.cell?_of_block (a:=⟨b,o+i*sz+j,none⟩) (hI _ _ h1).2).trans h2⟩
 | nilp=>exact .nilp
 | ptr k cs off b o o' val ho hm _ ih =>
  refine .ptr k cs off b o o' val ho (fun j p hp=>?_) ih
  obtain ⟨h1,h2⟩:=hm j p hp;exact ⟨(hI _ _ h1).1,(World.cell?_of_block (a:=⟨b,o+j,none⟩) (hI _ _ h1).2).trans h2⟩
 | func f cs vs hl _ ih=>exact .func f cs vs hl ih
 | nilf=>exact .nilf
 | meth f cs vs hl _ ih=>exact .meth f cs vs hl ih
abbrev Phi:=Nat->Option (Nat×Nat)
inductive VRel (I:Bool->Nat->Prop) (φ:Phi) (w:World):AV->Value->Prop
 | undef (v:Value):VRel I φ w .undef v
 | pure (p:PV) (v:Value) (h:Rep I w p v):VRel I φ w (.pure p) v
 | box (id off b n:Nat) (h:φ id=some (b,n)):VRel I φ w (.box id off) (.pointer (some ⟨b,off,none⟩))
 | row (id sz off len b n o cap:Nat) (h:φ id=some (b,n)) (ho:o=off*sz) (hc:len<=cap) (hn:(off+cap)*sz=n):VRel I φ w (.row id sz off len) (.slice (some ⟨b,o,none⟩) len cap)
 | agg (cs:List AV) (vs:Array Value) (hl:cs.length=vs.size) (h:∀ (i:Nat) p v,cs[i]?=some p->vs[i]?=some v->VRel I φ w p v):VRel I φ w (.agg cs) (.agg vs)
 | tup (cs:List AV) (vs:Array Value) (hl:cs.length=vs.size) (h:∀ (i:Nat) p v,cs[i]?=some p->vs[i]?=some v->VRel I φ w p v):VRel I φ w (.tup cs) (.tuple vs)
 | func (f:Nat) (cs:List AV) (vs:Array Value) (hl:cs.length=vs.size) (h:∀ (i:Nat) p v,cs[i]?=some p->vs[i]?=some v->VRel I φ w p v):VRel I φ w (.func f cs) (.func (.func f) #[] vs)
 | yield (id b n:Nat) (h:φ id=some (b,n)):VRel I φ w (.yield id) (.func (.yield b) #[] #[])
 | void (id sz b:Nat) (h:φ id=some (b,0)):VRel I φ w (.void id sz) (.slice (some ⟨b,0,none⟩) 0 0)
 | mapv (id b n:Nat) (h:φ id=some (b,n)):VRel I φ w (.mapv id) (.map (some b))
 | rowc (id sz off len b n o:Nat) (h:φ id=some (b,n)) (ho:o=off*sz):VRel I φ w (.rowc id sz off len) (.slice (some ⟨b,o,none⟩) len len)
theorem VRel.mono {I I':Bool->Nat->Prop} {φ φ':Phi} {w w':World} (hI:∀ k b,I k b->I' k b/\w'.heap[b]?=w.heap[b]?) (hφ:∀ id x,φ id=some x->φ' id=some x)
  {a:AV} {v:Value} (h:VRel I φ w a v):VRel I' φ' w' a v:=by
 induction h with
 | undef v=>exact .undef v
 | pure p v h=>exact .pure p v (h.mono hI)
 | box id off b n h=>exact .box id off b n (hφ _ _ h)
 | row id sz off len b n o cap h ho hc hn=>exact .row id sz off len b n o cap (hφ _ _ h) ho hc hn
 | agg cs vs hl _ ih=>exact .agg cs vs hl ih
 | tup cs vs hl _ ih=>exact .tup cs vs hl ih
 | func f cs vs hl _ ih=>exact .func f cs vs hl ih
 | yield id b n h=>exact .yield id b n (hφ _ _ h)
 | void id sz b h=>exact .void id sz b (hφ _ _ h)
 | mapv id b n h=>exact .mapv id b n (hφ _ _ h)
 | rowc id sz off len b n o h ho=>exact .rowc id sz off len b n o (hφ _ _ h) ho
section
variable {I:Bool->Nat->Prop} {φ:Phi} {w:World} {v:Value}
theorem Rep.int_inv {k:IntKind} {n:Int} (h:Rep I w (.int k n) v):v=.int k n:=by cases h;rfl
theorem Rep.bool_inv {b:Bool} (h:Rep I w (.bool b) v):v=.bool b:=by cases h;rfl
theorem Rep.str_inv {s:ByteArray} (h:Rep I w (.str s) v):v=.string s:=by cases h;rfl
theorem Rep.nils_inv (h:Rep I w .nils v):v=.slice none 0 0:=by cases h;rfl
theorem Rep.nilp_inv (h:Rep I w .nilp v):v=.pointer none:=by cases h;rfl
theorem Rep.nilf_inv (h:Rep I w .nilf v):v=.nilFunc:=by cases h;rfl
theorem VRel.pure_inv {p:PV} (h:VRel I φ w (.pure p) v):Rep I w p v:=by cases h;assumption
theorem VRel.int_inv {k:IntKind} {n:Int} (h:VRel I φ w (.pure (.int k n)) v):v=.int k n:=h.pure_inv.int_inv
theorem VRel.bool_inv {b:Bool} (h:VRel I φ w (.pure (.bool b)) v):v=.bool b:=h.pure_inv.bool_inv
theorem VRel.str_inv {s:ByteArray} (h:VRel I φ w (.pure (.str s)) v):v=.string s:=h.pure_inv.str_inv
theorem VRel.box_inv {id off:Nat} (h:VRel I φ w (.box id off) v):∃ b n,φ id=some (b,n)/\v=.pointer (some ⟨b,off,none⟩):=by
 cases h with
 | box _ _ b n h=>exact ⟨b,n,h,rfl⟩
theorem VRel.row_inv {id sz off len:Nat} (h:VRel I φ w (.row id sz off len) v) :
  ∃ b n cap,φ id=some (b,n)/\v=.slice (some ⟨b,off*sz,none⟩) len cap/\len<=cap/\(off+cap)*sz=n:=by
 cases h with
 | row _ _ _ _ b n o cap h ho hc hn=>exact ⟨b,n,cap,h,by rw [ho],hc,hn⟩
theorem VRel.yield_inv {id:Nat} (h:VRel I φ w (.yield id) v):∃ b n,φ id=some (b,n)/\v=.func (.yield b) #[] #[]:=by
 cases h with
 | yield _ b n h=>exact ⟨b,n,h,rfl⟩
theorem VRel.mapv_inv {id:Nat} (h:VRel I φ w (.mapv id) v):∃ b n,φ id=some (b,n)/\v=.map (some b):=by
 cases h with
 | mapv _ b n h=>exact ⟨b,n,h,rfl⟩
theorem VRel.rowc_inv {id sz off len:Nat} (h:VRel I φ w (.rowc id sz off len) v):∃ b n,φ id=some (b,n)/\v=.slice (some ⟨b,off*sz,none⟩) len len:=by
 cases h with
 | rowc _ _ _ _ b n o h ho=>exact ⟨b,n,h,by rw [ho]⟩
theorem VRel.void_inv {id sz:Nat} (h:VRel I φ w (.void id sz) v):∃ b,φ id=some (b,0)/\v=.slice (some ⟨b,0,none⟩) 0 0:=by
 cases h with
 | void _ _ b h=>exact ⟨b,h,rfl⟩
theorem VRel.func_inv {f:Nat} {cs:List AV} (h:VRel I φ w (.func f cs) v):∃ vs,v=.func (.func f) #[] vs/\cs.length=vs.size/\∀ (i:Nat) p v,cs[i]?=some p->vs[i]?=some v->VRel I φ w p v:=by
 cases h with
 | func _ _ vs hl h=>exact ⟨vs,rfl,hl,h⟩
theorem VRel.tup_inv {cs:List AV} (h:VRel I φ w (.tup cs) v):∃ vs,v=.tuple vs/\cs.length=vs.size/\∀ (i:Nat) p v,cs[i]?=some p->vs[i]?=some v->VRel I φ w p v:=by
 cases h with
 | tup _ vs hl h=>exact ⟨vs,rfl,hl,h⟩
theorem Rep.tup_inv {cs:List PV} (h:Rep I w (.tup cs) v):∃ vs,v=.tuple vs/\cs.length=vs.size/\∀ (i:Nat) p v,cs[i]?=some p->vs[i]?=some v->Rep I w p v:=by
 cases h with
 | tup _ vs hl h=>exact ⟨vs,rfl,hl,h⟩
theorem Rep.func_inv {f:Nat} {cs:List PV} (h:Rep I w (.func f cs) v):∃ vs,v=.func (.func f) #[] vs/\cs.length=vs.size/\∀ (i:Nat) p v,cs[i]?=some p->vs[i]?=some v->Rep I w p v:=by
 cases h with
 | func _ _ vs hl h=>exact ⟨vs,rfl,hl,h⟩
theorem Rep.meth_inv {f:Nat} {cs:List PV} (h:Rep I w (.meth f cs) v):∃ vs,v=.func (.func f) vs #[]/\cs.length=vs.size/\∀ (i:Nat) p v,cs[i]?=some p->vs[i]?=some v->Rep I w p v:=by
 cases h with
 | meth _ _ vs hl h=>exact ⟨vs,rfl,hl,h⟩
end
def VRels (I:Bool->Nat->Prop) (φ:Phi) (w:World) (cs:List AV) (vs:List Value):Prop :=
 cs.length=vs.length/\∀ (i:Nat) p v,cs[i]?=some p->vs[i]?=some v->VRel I φ w p v
section
variable {I:Bool->Nat->Prop} {φ:Phi} {w:World}
theorem VRels.nil:VRels I φ w [] []:=⟨rfl,fun i p v h=>by simp at h⟩
theorem VRels.cons {c:AV} {v:Value} {cs:List AV} {vs:List Value} (h:VRel I φ w c v) (hs:VRels I φ w cs vs):VRels I φ w (c::cs) (v::vs) :=
 ⟨by simp [hs.1],fun i p u hp hu=>by
  cases i with
  | zero=>simp at hp hu;subst hp;subst hu;exact h
  | succ i=>simp at hp hu;exact hs.2 i p u hp hu⟩
theorem VRels.cons_inv {c:AV} {cs:List AV} {vs:List Value} (h:VRels I φ w (c::cs) vs):∃ v vs',vs=v::vs'/\VRel I φ w c v/\VRels I φ w cs vs':=by
 cases vs with
 | nil=>have:=h.1;simp at this
 | cons v vs=>exact ⟨v,vs,rfl,h.2 0 c v rfl rfl,by have:=h.1;simpa using this,fun i p u hp hu=>h.2 (i+1) p u (by simpa using hp) (by simpa using hu)⟩
theorem VRels.nil_inv {vs:List Value} (h:VRels I φ w [] vs):vs=[]:=List.eq_nil_of_length_eq_zero h.1.symm
theorem VRels.mono {I':Bool->Nat->Prop} {φ':Phi} {w':World} (hI:∀ k b,I k b->I' k b/\w'.heap[b]?=w.heap[b]?) (hφ:∀ id x,φ id=some x->φ' id=some x) {cs:List AV} {vs:List Value}
  (h:VRels I φ w cs vs):VRels I' φ' w' cs vs:=⟨h.1,fun i p v hp hv=>(h.2 i p v hp hv).mono hI hφ⟩
theorem VRels.append {cs ds:List AV} {vs us:List Value} (h:VRels I φ w cs vs) (k:VRels I φ w ds us):VRels I φ w (cs++ds) (vs++us) :=
 ⟨by simp [h.1,k.1],fun i p v hp hv=>by
  by_cases hi:i < cs.length
  ·rw [List.getElem?_append_left hi] at hp;rw [List.getElem?_append_left (by rw [<- h.1];exact hi)] at hv;exact h.2 i p v hp hv
  ·rw [List.getElem?_append_right (by omega)] at hp;rw [List.getElem?_append_right (by rw [<- h.1];omega),<- h.1] at hv;exact k.2 _ p v hp hv⟩
theorem VRels.drop {cs:List AV} {vs:List Value} (h:VRels I φ w cs vs) (n:Nat):VRels I φ w (cs.drop n) (vs.drop n) :=
 ⟨by simp [h.1],fun i p v hp hv=>h.2 (n+i) p v (by simpa using hp) (by simpa using hv)⟩
theorem VRels.take {cs:List AV} {vs:List Value} (h:VRels I φ w cs vs) (n:Nat):VRels I φ w (cs.take n) (vs.take n) :=
 ⟨by simp [h.1],fun i p v hp hv=>by
  have hi:i < n:=by
   have:=(List.getElem?_eq_some_iff.1 hp).1;simp at this;omega
  rw [List.getElem?_take_of_lt hi] at hp hv;exact h.2 i p v hp hv⟩
theorem VRels.of_agg {cs:List AV} {vs:Array Value} (hl:cs.length=vs.size) (h:∀ (i:Nat) p v,cs[i]?=some p->vs[i]?=some v->VRel I φ w p v):VRels I φ w cs vs.toList :=
 ⟨by simpa using hl,fun i p v hp hv=>h i p v hp (by simpa using hv)⟩
theorem VRels.pures {ps:List PV} {vs:List Value} (hl:ps.length=vs.length) (h:∀ (i:Nat) p v,ps[i]?=some p->vs[i]?=some v->Rep I w p v):VRels I φ w (ps.map .pure) vs :=
 ⟨by simpa using hl,fun i p v hp hv=>by
  rw [List.getElem?_map] at hp
  cases hq:ps[i]? with
  | none=>rw [hq] at hp;simp at hp
  | some q=>rw [hq] at hp;simp at hp;subst hp;exact .pure q v (h i q v hq hv)⟩
theorem VRel.cells {a:AV} {v:Value} (h:VRel I φ w a v) (ha:a≠.undef):VRels I φ w a.cells v.cells.toList:=by
 cases h with
 | undef=>exact absurd rfl ha
 | agg cs vs hl h=>exact .of_agg hl h
 | pure p v h =>
  cases h with
  | agg cs vs hl h =>
   exact VRels.pures (by simpa [Value.cells] using hl) fun i p v hp hv=>h i p v hp (by simpa [Value.cells] using hv)
  | int=>exact .cons (.pure _ _ (.int ..)) .nil
  | bool=>exact .cons (.pure _ _ (.bool ..)) .nil
  | str=>exact .cons (.pure _ _ (.str ..)) .nil
  | tup cs vs hl h=>exact .cons (.pure _ _ (.tup cs vs hl h)) .nil
  | nils=>exact .cons (.pure _ _ .nils) .nil
  | slice k sz es b o len cap val hlen hc hz hm h=>exact .cons (.pure _ _ (.slice k sz es b o len cap val hlen hc hz hm h)) .nil
  | nilp=>exact .cons (.pure _ _ .nilp) .nil
  | ptr k cs off b o o' val ho hm h=>exact .cons (.pure _ _ (.ptr k cs off b o o' val ho hm h)) .nil
  | func f cs vs hl h=>exact .cons (.pure _ _ (.func f cs vs hl h)) .nil
  | nilf=>exact .cons (.pure _ _ .nilf) .nil
  | meth f cs vs hl h=>exact .cons (.pure _ _ (.meth f cs vs hl h)) .nil
 | box id off b n h=>exact .cons (.box id off b n h) .nil
 | row id sz off len b n o cap h ho hc hn=>exact .cons (.row id sz off len b n o cap h ho hc hn) .nil
 | tup cs vs hl h=>exact .cons (.tup cs vs hl h) .nil
 | func f cs vs hl h=>exact .cons (.func f cs vs hl h) .nil
 | yield id b n h=>exact .cons (.yield id b n h) .nil
 | void id sz b h=>exact .cons (.void id sz b h) .nil
 | mapv id b n h=>exact .cons (.mapv id b n h) .nil
 | rowc id sz off len b n o h ho=>exact .cons (.rowc id sz off len b n o h ho) .nil
theorem VRel.one {a:AV} {v:Value} (h:VRel I φ w a v) (ha:a.one=true):v.oneCell'=true:=by
 cases h with
 | undef=>simp [AV.one] at ha
 | agg=>simp [AV.one] at ha
 | tup=>simp [AV.one] at ha
 | pure p v h=>cases h<;>first|rfl|simp [AV.one] at ha
 | _=>rfl
end
section
variable {H:Heap} {id i:Nat} {o:AObj}
theorem zhR:(H.alloc o).get i=if i=H.nx then o else H.get i:=by
 unfold Heap.get Heap.alloc upd
 by_cases h:i=H.nx
 ·subst h;simp
 ·simp only [h,if_false]
  by_cases h2:i < H.nx
  ·rw [if_pos h2,if_pos (by omega)]
  ·rw [if_neg h2,if_neg (by omega)]
theorem zaG:(H.alloc o).get H.nx=o:=by rw [zhR,if_pos rfl]
theorem zas (h:i≠H.nx):(H.alloc o).get i=H.get i:=by rw [zhR,if_neg h]
theorem zg (h:i≠id):(H.set id o).get i=H.get i:=by
 unfold Heap.get Heap.set upd;simp [h]
theorem zaS (h:id < H.nx):(H.set id o).get id=o:=by
 unfold Heap.get Heap.set upd;simp [h]
theorem zgW (ids:List Nat):(H.freeze ids).get i=if ids.contains i then (H.get i).freeze else H.get i:=by
 unfold Heap.get Heap.freeze
 by_cases h:i < H.nx
 ·simp [h]
 ·simp [h,AObj.freeze]
theorem zb1 (h:H.get i≠.dead):i < H.nx:=by
 unfold Heap.get at h
 split at h
 ·assumption
 ·exact absurd rfl h
end
def AObj.live:AObj->Bool
 | .cells true _|.loop _|.raw _|.mapo _=>true
 | _=>false
def AObj.isDead:AObj->Bool
 | .dead=>true
 | _=>false
def Mut (φ:Phi) (H:Heap) (b:Nat):Prop:=∃ id n,φ id=some (b,n)/\(H.get id).live=true
def Imm (S:Bool->Nat->Prop) (base:Nat) (φ:Phi) (H:Heap) (w:World) (k:Bool) (b:Nat):Prop:=(S k b\/base<=b)/\b < w.heap.size/\¬ Mut φ H b
def zkz:VExit->Exit
 | .normal=>.normal
 | .exit id=>.exit id
 | .ret=>.ret
def znR:VExit->Option Code
 | .normal=>none
 | .exit id=>some (.exit id)
 | .ret=>some .ret
def zlD:LState->LoopState
 | .ready=>.ready
 | .busy=>.busy
 | .done=>.done
abbrev Comp:=Nat->Code->VCode->Prop
def ORel (C:Comp) (I:Bool->Nat->Prop) (φ:Phi) (w:World) (o:AObj) (b n:Nat):Prop :=
 match o with
 | .dead=>True
 | .cells _ cs=>∃ (c:Array Value) (e:TypeId) (fz:Nat×Nat),w.heap[b]?=some (.cells c e fz)/\c.size=n/\cs.length<=n/\(∀ j,j < n->¬ (fz.1<=j/\j < fz.2)) /\
   ∀ (j:Nat) a v,cs[j]?=some a->c[j]?=some v->VRel I φ w a v
 | .raw z=>∃ (c:Array Value) (e:TypeId) (fz:Nat×Nat),w.heap[b]?=some (.cells c e fz)/\c.size=n/\(z.map AV.pure).length<=n/\(∀ j,j < n->¬ (fz.1<=j/\j < fz.2)) /\
   ∀ (j:Nat) a v,(z.map AV.pure)[j]?=some a->c[j]?=some v->VRel I φ w a v
 | .mapo es=>∃ (ms:Array MapEntry) (clock:Nat),w.heap[b]?=some (.map ms clock)/\ms.size=es.length /\
   ∀ (j:Nat) k v m,es[j]?=some (k,v)->ms[j]?=some m->Rep I w k m.key/\Rep I w v m.val
 | .loop r=>∃ l:Loop,w.heap[b]?=some (.loop l)/\l.state=zlD r.state/\l.pending=znR r.pending/\l.params.toList=r.params/\C l.tmps.size l.assign r.assign/\C l.tmps.size l.body r.body /\
   (∀ t,VRel I φ w (r.env t) (l.tmps.getD t undef))/\(∀ t,t∈r.params->t < l.tmps.size)
def globL:List Nat:=[]
def GlobAt (w:World) (g:Nat):Prop:=∃ m,w.cell? ⟨g,0,none⟩=some (.int .i64 m)
def zns (w:World):Prop:=∀ g,g∈globL->GlobAt w g
theorem GlobAt.of_block {w w':World} {g:Nat} (h:w'.heap[g]?=w.heap[g]?) (hg:GlobAt w g):GlobAt w' g:=by
 obtain ⟨m,hm⟩:=hg
 refine ⟨m,?_⟩
 unfold World.cell? at hm ⊢;simp only at hm ⊢;rw [h];exact hm
theorem GlobAt.lt {w:World} {g:Nat} (hg:GlobAt w g):g < w.heap.size:=by
 obtain ⟨m,hm⟩:=hg
 refine Classical.byContradiction fun hc=>?_
 unfold World.cell? at hm;rw [Array.getElem?_eq_none (by show w.heap.size<=g;omega)] at hm;simp at hm
structure HRel (C:Comp) (S:Bool->Nat->Prop) (base:Nat) (φ:Phi) (H:Heap) (w:World):Prop where
 sz:base<=w.heap.size
 out:∀ k b,S k b->b < base
 nx:∀ id x,φ id=some x->id < H.nx
 lt:∀ id b n,φ id=some (b,n)->base<=b/\b < w.heap.size
 obj:∀ id b n,φ id=some (b,n)->ORel C (Imm S base φ H w) φ w (H.get id) b n
 inj:∀ id id' b n n',φ id=some (b,n)->φ id'=some (b,n')->(H.get id).isDead=false->(H.get id').isDead=false->id=id'
 glob:∀ g,g∈globL->g < base/\GlobAt w g
structure Evo (φ:Phi) (H:Heap) (w:World) (φ':Phi) (H':Heap) (w':World):Prop where
 phi:∀ id x,φ id=some x->φ' id=some x
 os:w'.os=w.os
 tape:w'.tape=w.tape
 output:w'.output=w.output
 size:w.heap.size<=w'.heap.size
 same:∀ b,b < w.heap.size->¬ Mut φ H b->w'.heap[b]?=w.heap[b]?
 muts:∀ b,b < w.heap.size->Mut φ' H' b->Mut φ H b
 nx:H.nx<=H'.nx
section
variable {C:Comp} {S:Bool->Nat->Prop} {base:Nat} {φ φ' φ'':Phi} {H H' H'':Heap} {w w' w'':World}
theorem Evo.refl:Evo φ H w φ H w:=⟨fun _ _ h=>h,rfl,rfl,rfl,Nat.le_refl _,fun _ _ _=>rfl,fun _ _ h=>h,Nat.le_refl _⟩
theorem Evo.trans (h:Evo φ H w φ' H' w') (k:Evo φ' H' w' φ'' H'' w''):Evo φ H w φ'' H'' w'' :=
 ⟨fun id x hx=>k.phi _ _ (h.phi _ _ hx),k.os.trans h.os,k.tape.trans h.tape,k.output.trans h.output,Nat.le_trans h.size k.size,
  fun b hb hm=>(k.same b (Nat.lt_of_lt_of_le hb h.size) fun hm'=>hm (h.muts b hb hm')).trans (h.same b hb hm),
  fun b hb hm=>h.muts b hb (k.muts b (Nat.lt_of_lt_of_le hb h.size) hm),Nat.le_trans h.nx k.nx⟩
theorem Evo.imm (h:Evo φ H w φ' H' w') {k:Bool} {b:Nat} (hi:Imm S base φ H w k b):Imm S base φ' H' w' k b/\w'.heap[b]?=w.heap[b]? :=
 ⟨⟨hi.1,Nat.lt_of_lt_of_le hi.2.1 h.size,fun hm=>hi.2.2 (h.muts b hi.2.1 hm)⟩,h.same b hi.2.1 hi.2.2⟩
theorem Evo.vrel (h:Evo φ H w φ' H' w') {a:AV} {v:Value} (hv:VRel (Imm S base φ H w) φ w a v):VRel (Imm S base φ' H' w') φ' w' a v :=
 hv.mono (fun _ _ hi=>h.imm hi) h.phi
theorem Evo.of_below (h:Below w.heap.size w w'):Evo φ H w φ H w' :=
 ⟨fun _ _ h=>h,h.os,h.tape,h.output,h.size,fun b hb _=>h.block b hb,fun _ _ h=>h,Nat.le_refl _⟩
theorem HRel.globW (h:HRel C S base φ H w):zns w:=fun g hg=>(h.glob g hg).2
theorem HRel.glob_evo (h:HRel C S base φ H w) (he:Evo φ H w φ' H' w'):∀ g,g∈globL->g < base/\GlobAt w' g:=fun g hg=>by
 obtain ⟨h1,h2⟩:=h.glob g hg
 refine ⟨h1,h2.of_block (he.same g (Nat.lt_of_lt_of_le h1 h.sz) ?_)⟩
 rintro ⟨id,n,hid,_⟩;have:=(h.lt _ _ _ hid).1;omega
theorem ORel.mono {I I':Bool->Nat->Prop} {o:AObj} {b n:Nat} (hI:∀ k b,I k b->I' k b/\w'.heap[b]?=w.heap[b]?) (hφ:∀ id x,φ id=some x->φ' id=some x) (hb:w'.heap[b]?=w.heap[b]?)
  (h:ORel C I φ w o b n):ORel C I' φ' w' o b n:=by
 cases o with
 | dead=>trivial
 | cells own cs =>
  obtain ⟨c,e,fz,h1,h2,h3,h4,h5⟩:=h;exact ⟨c,e,fz,hb.trans h1,h2,h3,h4,fun j a v ha hv=>(h5 j a v ha hv).mono hI hφ⟩
 | raw z =>
  obtain ⟨c,e,fz,h1,h2,h3,h4,h5⟩:=h;exact ⟨c,e,fz,hb.trans h1,h2,h3,h4,fun j a v ha hv=>(h5 j a v ha hv).mono hI hφ⟩
 | mapo es =>
  obtain ⟨ms,ck,h1,h2,h3⟩:=h;exact ⟨ms,ck,hb.trans h1,h2,fun j k v m hk hm=>⟨(h3 j k v m hk hm).1.mono hI,(h3 j k v m hk hm).2.mono hI⟩⟩
 | loop r =>
  obtain ⟨l,h1,h2,h3,h4,h5,h6,h7,h8⟩:=h;exact ⟨l,hb.trans h1,h2,h3,h4,h5,h6,fun t=>(h7 t).mono hI hφ,h8⟩
theorem HRel.below (h:HRel C S base φ H w) (hb:Below w.heap.size w w'):HRel C S base φ H w' :=
 ⟨Nat.le_trans h.sz hb.size,h.out,h.nx,fun id b n hid=>⟨(h.lt id b n hid).1,Nat.lt_of_lt_of_le (h.lt id b n hid).2 hb.size⟩,
  fun id b n hid=>(h.obj id b n hid).mono (fun _ _ hi=>(Evo.of_below hb).imm hi) (fun _ _ h=>h) (hb.block b (h.lt id b n hid).2),h.inj,h.glob_evo (Evo.of_below hb)⟩
def zbW (φ:Phi) (id:Nat) (x:Nat×Nat):Phi:=fun i=>if i=id then some x else φ i
theorem z8 (id:Nat) (x:Nat×Nat):zbW φ id x id=some x:=by simp [zbW]
theorem zS {id i:Nat} (x:Nat×Nat) (h:i≠id):zbW φ id x i=φ i:=by simp [zbW,h]
theorem zcD {id:Nat} {x:Nat×Nat} (h:φ id=none):∀ i y,φ i=some y->zbW φ id x i=some y:=fun i y hy=>by
 rw [zS x (fun e=>by rw [e,h] at hy;cases hy)];exact hy
theorem HRel.new (h:HRel C S base φ H w) (hb:Below w.heap.size w w') {id b n:Nat} {o:AObj} (hid:φ id=none) (hH:H'.get id=o) (hold:∀ i,i≠id->φ i≠none->H'.get i=H.get i)
  (hnx:id < H'.nx) (hnx':H.nx<=H'.nx) (hbl:w.heap.size<=b) (hbs:b < w'.heap.size) (ho:ORel C (Imm S base φ H w) φ w' o b n) :
  Evo φ H w (zbW φ id (b,n)) H' w'/\HRel C S base (zbW φ id (b,n)) H' w':=by
 have hget:∀ i x,φ i=some x->i≠id/\H'.get i=H.get i:=fun i x hx=>by
  have hne:i≠id:=fun e=>by rw [e,hid] at hx;cases hx
  exact ⟨hne,hold i hne (by rw [hx];simp)⟩
 have hmut:∀ c,c < w.heap.size->Mut (zbW φ id (b,n)) H' c->Mut φ H c:=by
  rintro c hc ⟨i,m,hi,hl⟩
  by_cases hii:i=id
  ·subst hii;rw [z8] at hi;simp at hi;omega
  ·rw [zS _ hii] at hi;exact ⟨i,m,hi,by rw [<- (hget i _ hi).2];exact hl⟩
 have hevo:Evo φ H w (zbW φ id (b,n)) H' w' :=
  ⟨zcD hid,hb.os,hb.tape,hb.output,hb.size,fun c hc _=>hb.block c hc,hmut,hnx'⟩
 refine ⟨hevo,Nat.le_trans h.sz hb.size,h.out,?_,?_,?_,?_,h.glob_evo hevo⟩
 ·intro i x hx
  by_cases hii:i=id
  ·rw [hii];exact hnx
  ·rw [zS _ hii] at hx;exact Nat.lt_of_lt_of_le (h.nx _ _ hx) hnx'
 ·intro i c m hx
  by_cases hii:i=id
  ·subst hii;rw [z8] at hx;simp at hx;have:=h.sz;omega
  ·rw [zS _ hii] at hx;have:=h.lt _ _ _ hx;have:=hb.size;omega
 ·intro i c m hx
  by_cases hii:i=id
  ·subst hii;rw [z8] at hx;simp at hx;obtain ⟨rfl,rfl⟩:=hx;rw [hH];exact ho.mono (fun _ c hc=>⟨(hevo.imm hc).1,rfl⟩) (zcD hid) rfl
  ·rw [zS _ hii] at hx;rw [(hget i _ hx).2];exact (h.obj _ _ _ hx).mono (fun _ c hc=>hevo.imm hc) (zcD hid) (hb.block c (h.lt _ _ _ hx).2)
 ·intro i j c m m' hi hj di dj
  by_cases hii:i=id<;>by_cases hjj:j=id
  ·rw [hii,hjj]
  ·subst hii;rw [z8] at hi;rw [zS _ hjj] at hj;have:=(h.lt _ _ _ hj).2;simp at hi;omega
  ·subst hjj;rw [z8] at hj;rw [zS _ hii] at hi;have:=(h.lt _ _ _ hi).2;simp at hj;omega
  ·rw [zS _ hii] at hi;rw [zS _ hjj] at hj;rw [(hget i _ hi).2] at di;rw [(hget j _ hj).2] at dj;exact h.inj _ _ _ _ _ hi hj di dj
theorem HRel.write (h:HRel C S base φ H w) {id b n:Nat} {o:AObj} (hid:φ id=some (b,n)) (hlive:(H.get id).live=true)
  (hos:w'.os=w.os) (htape:w'.tape=w.tape) (hout:w'.output=w.output) (hsize:w'.heap.size=w.heap.size) (hsame:∀ c,c≠b->w'.heap[c]?=w.heap[c]?)
  (ho:ORel C (Imm S base φ H w) φ w' o b n) :
  Evo φ H w φ (H.set id o) w'/\HRel C S base φ (H.set id o) w':=by
 have hdead:(H.get id).isDead=false:=by cases hg:H.get id<;>rw [hg] at hlive<;>first|rfl|simp [AObj.live] at hlive
 have hset:∀ i,i≠id->(H.set id o).get i=H.get i:=fun i hi=>zg hi;have hself:(H.set id o).get id=o:=zaS (h.nx _ _ hid);have hmutb:Mut φ H b:=⟨id,n,hid,hlive⟩
 have hmut:∀ c,Mut φ (H.set id o) c->Mut φ H c:=by
  rintro c ⟨i,m,hi,hl⟩
  by_cases hii:i=id
  ·subst hii;rw [hid] at hi;simp at hi;rw [<- hi.1];exact hmutb
  ·exact ⟨i,m,hi,by rw [<- hset i hii];exact hl⟩
 have hevo:Evo φ H w φ (H.set id o) w' :=
  ⟨fun _ _ h=>h,hos,htape,hout,by omega,fun c _ hm=>hsame c (fun e=>hm (e ▸ hmutb)),fun c _=>hmut c,Nat.le_refl _⟩
 refine ⟨hevo,by rw [hsize];exact h.sz,h.out,fun i x hx=>h.nx i x hx,fun i c m hx=>by rw [hsize];exact h.lt _ _ _ hx,?_,?_,h.glob_evo hevo⟩
 ·intro i c m hx
  by_cases hii:i=id
  ·subst hii;rw [hid] at hx;simp at hx;obtain ⟨rfl,rfl⟩:=hx;rw [hself];exact ho.mono (fun _ c hc=>⟨(hevo.imm hc).1,rfl⟩) (fun _ _ h=>h) rfl
  ·rw [hset i hii]
   by_cases hd:(H.get i).isDead=true
   ·cases hg:H.get i<;>rw [hg] at hd<;>first|trivial|simp [AObj.isDead] at hd
   ·have hcb:c≠b:=fun e=>hii (h.inj _ _ _ _ _ hx (e ▸ hid) (by simpa using hd) hdead);exact (h.obj _ _ _ hx).mono (fun _ c hc=>hevo.imm hc) (fun _ _ h=>h) (hsame c hcb)
 ·intro i j c m m' hi hj di dj;have aux:∀ k,((H.set id o).get k).isDead=false->(H.get k).isDead=false:=fun k hk=>by
   by_cases hkk:k=id
   ·rw [hkk];exact hdead
   ·rw [hset k hkk] at hk;exact hk
  exact h.inj _ _ _ _ _ hi hj (aux i di) (aux j dj)
theorem Heap.ext' {A B:Heap} (h1:A.nx=B.nx) (h2:∀ i,A.arr i=B.arr i):A=B:=by
 cases A;cases B;simp at h1 h2;subst h1;congr;exact funext h2
theorem HRel.kill (h:HRel C S base φ H w) (id:Nat):Evo φ H w φ (H.set id .dead) w/\HRel C S base φ (H.set id .dead) w:=by
 have hget:∀ i,(H.set id .dead).get i=H.get i\/(H.set id .dead).get i=.dead:=fun i=>by
  by_cases hi:i=id
  ·subst hi
   by_cases hlt:i < H.nx
   ·exact .inr (zaS hlt)
   ·exact .inr (by unfold Heap.get Heap.set;simp [hlt])
  ·exact .inl (zg hi)
 have hevo:Evo φ H w φ (H.set id .dead) w :=
  ⟨fun _ _ h=>h,rfl,rfl,rfl,Nat.le_refl _,fun _ _ _=>rfl,fun c _ ⟨i,m,hi,hl⟩=>⟨i,m,hi,by rcases hget i with e|e<;>rw [e] at hl;exact hl;simp [AObj.live] at hl⟩,Nat.le_refl _⟩
 refine ⟨hevo,h.sz,h.out,h.nx,h.lt,?_,?_,h.glob_evo hevo⟩
 ·intro i c m hx;rcases hget i with e|e<;>rw [e]
  ·exact (h.obj _ _ _ hx).mono (w':=w) (fun _ c hc=>hevo.imm hc) (fun _ _ h=>h) rfl
  ·trivial
 ·intro i j c m m' hi hj di dj;have aux:∀ k,((H.set id .dead).get k).isDead=false->(H.get k).isDead=false:=fun k hk=>by
   rcases hget k with e|e<;>rw [e] at hk
   ·exact hk
   ·simp [AObj.isDead] at hk
  exact h.inj _ _ _ _ _ hi hj (aux i di) (aux j dj)
theorem HRel.rename (h:HRel C S base φ H w) {id b n:Nat} {o:AObj} (hid:φ id=some (b,n)) (hg:H.get id=o) (hd:o.isDead=false) (hfr:φ H.nx=none) :
  Evo φ H w (zbW φ H.nx (b,n)) ((H.set id .dead).alloc o) w/\HRel C S base (zbW φ H.nx (b,n)) ((H.set id .dead).alloc o) w:=by
 have hidlt:id < H.nx:=h.nx _ _ hid;have hget:∀ i,i≠H.nx->i≠id->((H.set id .dead).alloc o).get i=H.get i:=fun i h1 h2=>by rw [zas (by exact h1),zg h2]
 have hgid:((H.set id .dead).alloc o).get id=.dead:=by rw [zas (by show id≠H.nx;omega),zaS hidlt]
 have hgnx:((H.set id .dead).alloc o).get H.nx=o:=zaG (H:=H.set id .dead);have hmut:∀ c,Mut (zbW φ H.nx (b,n)) ((H.set id .dead).alloc o) c->Mut φ H c:=by
  rintro c ⟨i,m,hi,hl⟩
  by_cases h1:i=H.nx
  ·subst h1;rw [hgnx] at hl;rw [z8] at hi;simp at hi;exact ⟨id,n,by rw [<- hi.1];exact hid,by rw [hg];exact hl⟩
  ·by_cases h2:i=id
   ·subst h2;rw [hgid] at hl;simp [AObj.live] at hl
   ·rw [hget i h1 h2] at hl;rw [zS _ h1] at hi;exact ⟨i,m,hi,hl⟩
 have hevo:Evo φ H w (zbW φ H.nx (b,n)) ((H.set id .dead).alloc o) w :=
  ⟨zcD hfr,rfl,rfl,rfl,Nat.le_refl _,fun _ _ _=>rfl,fun c _=>hmut c,Nat.le_succ _⟩
 refine ⟨hevo,h.sz,h.out,?_,?_,?_,?_,h.glob_evo hevo⟩
 ·intro i x hx;show i < H.nx+1
  by_cases h1:i=H.nx
  ·omega
  ·rw [zS _ h1] at hx;have:=h.nx _ _ hx;omega
 ·intro i c m hx
  by_cases h1:i=H.nx
  ·subst h1;rw [z8] at hx;simp at hx;obtain ⟨rfl,rfl⟩:=hx;exact h.lt _ _ _ hid
  ·rw [zS _ h1] at hx;exact h.lt _ _ _ hx
 ·intro i c m hx
  by_cases h1:i=H.nx
  ·subst h1;rw [z8] at hx;simp at hx;obtain ⟨rfl,rfl⟩:=hx;rw [hgnx];have ho:=h.obj _ _ _ hid;rw [hg] at ho;exact ho.mono (fun _ c hc=>hevo.imm hc) (zcD hfr) rfl
  ·rw [zS _ h1] at hx
   by_cases h2:i=id
   ·subst h2;rw [hgid]
    trivial
   ·rw [hget i h1 h2];exact (h.obj _ _ _ hx).mono (fun _ c hc=>hevo.imm hc) (zcD hfr) rfl
 ·intro i j c m m' hi hj di dj;have hod:(H.get id).isDead=false:=by rw [hg];exact hd
  have hni:∀ k,(((H.set id .dead).alloc o).get k).isDead=false->k≠id:=fun k hk e=>by rw [e,hgid] at hk;simp [AObj.isDead] at hk
  by_cases h1:i=H.nx<;>by_cases h2:j=H.nx
  ·rw [h1,h2]
  ·exfalso;subst h1;rw [z8] at hi;simp at hi;rw [zS _ h2] at hj;have hj':=hni j dj;rw [hget j h2 hj'] at dj;exact hj' (h.inj _ _ _ _ _ hj (by rw [<- hi.1];exact hid) dj hod)
  ·exfalso;subst h2;rw [z8] at hj;simp at hj;rw [zS _ h1] at hi;have hi':=hni i di;rw [hget i h1 hi'] at di;exact hi' (h.inj _ _ _ _ _ hi (by rw [<- hj.1];exact hid) di hod)
  ·rw [zS _ h1] at hi;rw [zS _ h2] at hj;have hi':=hni i di;have hj':=hni j dj;rw [hget i h1 hi'] at di;rw [hget j h2 hj'] at dj;exact h.inj _ _ _ _ _ hi hj di dj
theorem HRel.freeze (h:HRel C S base φ H w) (ids:List Nat):Evo φ H w φ (H.freeze ids) w/\HRel C S base φ (H.freeze ids) w:=by
 have hget:∀ i,(H.freeze ids).get i=H.get i\/(H.freeze ids).get i=(H.get i).freeze:=fun i=>by
  rw [zgW]
  cases ids.contains i
  ·exact .inl rfl
  ·exact .inr rfl
 have hlive:∀ i,((H.freeze ids).get i).live=true->(H.get i).live=true:=fun i hl=>by
  rcases hget i with e|e<;>rw [e] at hl
  ·exact hl
  ·cases hg:H.get i<;>rw [hg] at hl<;>simp [AObj.freeze,AObj.live] at hl ⊢
 have hdead:∀ i,((H.freeze ids).get i).isDead=(H.get i).isDead:=fun i=>by
  rcases hget i with e|e<;>rw [e]
  cases hg:H.get i<;>rfl
 have hevo:Evo φ H w φ (H.freeze ids) w :=
  ⟨fun _ _ h=>h,rfl,rfl,rfl,Nat.le_refl _,fun _ _ _=>rfl,fun c _ ⟨i,m,hi,hl⟩=>⟨i,m,hi,hlive i hl⟩,Nat.le_refl _⟩
 refine ⟨hevo,h.sz,h.out,h.nx,h.lt,?_,fun i j c m m' hi hj di dj=>h.inj _ _ _ _ _ hi hj (by rw [<- hdead];exact di) (by rw [<- hdead];exact dj),h.glob_evo hevo⟩
 intro i c m hx;have ho:=(h.obj _ _ _ hx).mono (w':=w) (fun _ c hc=>hevo.imm hc) (fun _ _ h=>h) rfl;rcases hget i with e|e<;>rw [e]
 ·exact ho
 ·cases hg:H.get i<;>rw [hg] at ho<;>exact ho
end
end Go.Proofs.Ytleggocccaeemaa.Vm
