/- Each operation of the machine does what the model's operation does. Each operation of the machine does what the model's operation does: memory. -/
import Derived.Test.YtleggocccaeemaaOk2
import Derived.Test.YtleggocccaeemaaOk3
import Derived.Laws.Entries
import Derived.Laws.Cells
namespace Go.Proofs.Ytleggocccaeemaa.Vm
open Go Go.RowKit
set_option linter.unusedVariables false
set_option linter.unusedSimpArgs false
section
variable {P:Program} {w:World}
theorem zbb {t:TypeId} {i:TypeInfo} (h:P.info? t=some i):(typeInfo t).run P w=.ok i w:=by simp [typeInfo,h]
theorem zO {t:TypeId} {s:Nat} (h:zR P t=some s):(sizeOf t).run P w=.ok s w:=by
 unfold zR at h
 cases hi:P.info? t with
 | none=>simp [hi] at h
 | some i=>simp [hi] at h;simp [sizeOf,zbb hi,h]
theorem ze {t:TypeId} {d:TypeDesc} (h:P.underlying t=some d):(underlying t).run P w=.ok d w:=run_underlying h w
theorem zez {t:TypeId} {g:Bool} (h:aggP P t=some g):(isAgg t).run P w=.ok g w:=by
 unfold aggP at h
 cases hd:P.underlying t with
 | none=>simp [hd] at h
 | some d =>
  rw [hd] at h;simp only [isAgg,Sem.run_bind,ze hd,Result.andThen_ok]
  cases d<;>simp at h<;>subst h<;>rfl
end
theorem zgY {I:Bool->Nat->Prop} {w:World} {v:Value} {p:PV} (h:zhq v=some p):Rep I w p v:=by
 unfold zhq at h
 split at h<;>simp at h<;>subst h<;>constructor
theorem zcL {I:Bool->Nat->Prop} {w:World}:∀ {vs:List Value} {ps:List PV},zb3 vs=some ps->ps.length=vs.length/\∀ (i:Nat) p v,ps[i]?=some p->vs[i]?=some v->Rep I w p v
 | [],ps,h=>by simp [zb3] at h;subst h;exact ⟨rfl,fun i p v h=>by simp at h⟩
 | v::vs,ps,h=>by
  unfold zb3 at h
  split at h
  ·simp at h
  ·rename_i p hp
   split at h
   ·simp at h
   ·rename_i qs hq;simp at h;subst h;have ih:=zcL (I:=I) (w:=w) hq
    refine ⟨by simp [ih.1],fun i q u h1 h2=>?_⟩
    cases i with
    | zero=>simp at h1 h2;subst h1;subst h2;exact zgY hp
    | succ i=>simp at h1 h2;exact ih.2 i q u h1 h2
theorem zgt {I:Bool->Nat->Prop} {w:World} {v:Value} {p:PV} (h:zhs v=some p):Rep I w p v:=by
 unfold zhs at h
 split at h
 ·rename_i cs
  cases hc:zb3 cs.toList with
  | none=>simp [hc] at h
  | some ps =>
   simp [hc] at h;subst h;have:=zcL (I:=I) (w:=w) hc;exact .agg ps cs (by simpa using this.1) fun i p v hp hv=>this.2 i p v hp (by simpa using hv)
 ·exact zgY h
section
variable {P:Program} {I:Bool->Nat->Prop} {φ:Phi} {w:World} {env:Env} {a:Act}
abbrev ERel (I:Bool->Nat->Prop) (φ:Phi) (w:World) (env:Env) (a:Act):Prop:=∀ t,VRel I φ w (env t) (a.tmps.getD t undef)
theorem zw (hE:ERel I φ w env a) {X:Operand} {x:Opnd} (h:zu X=some x):VRel I φ w (x.eval env) (a.eval X):=by
 unfold zu at h
 split at h
 ·simp at h;subst h;exact hE _
 ·rename_i f first caps
  split at h
  ·rename_i hc;simp at h;subst h;have h1:first=#[]:=Array.eq_empty_of_size_eq_zero hc.1
   have h2:caps=#[]:=Array.eq_empty_of_size_eq_zero hc.2;subst h1;subst h2;exact .pure _ _ (.func f [] #[] rfl fun i p v h=>by simp at h)
  ·simp at h
 ·rename_i v _
  cases hv:zhs v with
  | none=>simp [hv] at h
  | some p=>simp [hv] at h;subst h;exact .pure _ _ (zgt hv)
 ·rename_i f;simp at h;subst h;exact .pure _ _ (.func f [] #[] rfl fun i p v h=>by simp at h)
 ·simp at h
theorem zcC (hE:ERel I φ w env a):∀ {X:List Operand} {x:List Opnd},zbh X=some x->VRels I φ w (x.map (·.eval env)) (X.map a.eval)
 | [],x,h=>by simp [zbh] at h;subst h;exact .nil
 | X::Xs,x,h=>by
  unfold zbh at h
  split at h
  ·simp at h
  ·rename_i y hy
   split at h
   ·simp at h
   ·rename_i ys hys;simp at h;subst h;exact .cons (zw hE hy) (zcC hE hys)
end
def zdN (C:Comp) (S:Bool->Nat->Prop) (base:Nat) (φ:Phi) (H:Heap) (w:World) (e:Eff) (v:Value) (w':World):Prop :=
 match e with
 | .val a=>Below w.heap.size w w'/\VRel (Imm S base φ H w') φ w' a v
 | .new o f=>∃ b n,Below w.heap.size w w'/\w.heap.size<=b/\b < w'.heap.size/\ORel C (Imm S base φ H w) φ w' o b n/\∀ I' φ' id,φ' id=some (b,n)->VRel I' φ' w' (f id) v
 | .upd a H'=>∃ φ',Evo φ H w φ' H' w'/\HRel C S base φ' H' w'/\VRel (Imm S base φ' H' w') φ' w' a v
def Ran (C:Comp) (S:Bool->Nat->Prop) (base:Nat) (φ:Phi) (H:Heap) (w:World) (e:Eff) (r:Result Next):Prop :=
 (∃ v w',r=.ok (.value v) w'/\zdN C S base φ H w e v w')\/(∃ w',r=.ok .skip w'/\zdN C S base φ H w e undef w')
section
variable {C:Comp} {P:Program} {S:Bool->Nat->Prop} {base:Nat} {φ:Phi} {H:Heap} {w:World} {env:Env} {a:Act} {e:Eff}
theorem zN {r:Result Next} {v:Value} {av:AV} (hr:r=.ok (.value v) w) (hv:VRel (Imm S base φ H w) φ w av v):Ran C S base φ H w (.val av) r :=
 .inl ⟨v,w,hr,Below.refl _ _,hv⟩
theorem znV {own:Bool} {cs:List AV} {c:Array Value} {t:TypeId} {fz:Nat×Nat} (hfz:∀ j,j < c.size->¬ (fz.1<=j/\j < fz.2)) (hl:cs.length<=c.size)
  (h:∀ (j:Nat) a v,cs[j]?=some a->c[j]?=some v->VRel (Imm S base φ H w) φ w a v) :
  ORel C (Imm S base φ H w) φ (w.alloc (.cells c t fz)) (.cells own cs) w.heap.size c.size :=
 ⟨c,t,fz,heap_alloc_new w _,rfl,hl,hfz,fun j a v ha hv=>(h j a v ha hv).mono (fun _ b hb=>⟨hb,Below.heap_alloc w _ b hb.2.1⟩) (fun _ _ h=>h)⟩
theorem zfb {r:Result Next} {cs:List AV} {c:Array Value} {t:TypeId} {v:Value} {f:Nat->AV} (hr:r=.ok (.value v) (w.alloc (.cells c t)))
  (hl:cs.length<=c.size) (h:∀ (j:Nat) a v,cs[j]?=some a->c[j]?=some v->VRel (Imm S base φ H w) φ w a v)
  (hv:∀ I' φ' w' id,φ' id=some (w.heap.size,c.size)->VRel I' φ' w' (f id) v):Ran C S base φ H w (.new (.cells true cs) f) r :=
 .inl ⟨v,_,hr,w.heap.size,c.size,(Below.refl _ w).alloc (Nat.le_refl _) _,Nat.le_refl _,by simp,znV (fun j _ hj=>by simp at hj) hl h,fun I' φ' id hid=>hv I' φ' _ id hid⟩
theorem zcw:∀ {cs:List AV} {ps:List PV},zad cs=some ps->cs=ps.map .pure
 | [],ps,h=>by simp [zad] at h;subst h;rfl
 | c::cs,ps,h=>by
  unfold zad at h
  split at h
  ·rename_i h0;cases h0
  ·rename_i p vs h0;simp only [List.cons.injEq] at h0;obtain ⟨rfl,rfl⟩:=h0;simp only [Option.map_eq_some_iff] at h;obtain ⟨qs,hq,rfl⟩:=h;rw [zcw hq];rfl
  ·simp at h
theorem zke {I:Bool->Nat->Prop} {cs:List AV} {vs:List Value} (hr:VRels I φ w cs vs):VRel I φ w (aggV cs) (.agg vs.toArray):=by
 unfold aggV
 split
 ·rename_i ps hp;have:=zcw hp;subst this
  refine .pure _ _ (.agg ps vs.toArray (by simpa using hr.1) fun i p v hp hv=>(hr.2 i (.pure p) v (by simp [hp]) (by simpa using hv)).pure_inv)
 ·exact .agg cs vs.toArray (by simpa using hr.1) fun i p v hp hv=>hr.2 i p v hp (by simpa using hv)
theorem zmy {I:Bool->Nat->Prop} {f:Nat} {cs:List AV} {vs:List Value} (hr:VRels I φ w cs vs):VRel I φ w (zff f cs) (.func (.func f) #[] vs.toArray):=by
 unfold zff
 split
 ·rename_i ps hp;have:=zcw hp;subst this
  refine .pure _ _ (.func f ps vs.toArray (by simpa using hr.1) fun i p v hp hv=>(hr.2 i (.pure p) v (by simp [hp]) (by simpa using hv)).pure_inv)
 ·exact .func f cs vs.toArray (by simpa using hr.1) fun i p v hp hv=>hr.2 i p v hp (by simpa using hv)
variable {o:Oper} {vo:VOp}
theorem zl0 (hE:ERel (Imm S base φ H w) φ w env a) {X:Operand} {x:Opnd} (hx:zu X=some x) (hop:o.op=.move X\/o.op=.assign X) :
  Ran C S base φ H w (.val (x.eval env)) ((execOp a.eval o).run P w):=by
 refine zN (v:=a.eval X) ?_ (zw hE hx)
 rcases hop with h|h<;>simp [execOp,h]
theorem zm8 (hE:ERel (Imm S base φ H w) φ w env a) {C' A B:Operand} {c x y:Opnd} (hc:zu C'=some c) (hx:zu A=some x) (hy:zu B=some y) (hop:o.op=.pick C' A B) {t:Bool}
  (ht:c.eval env=.pure (.bool t)):Ran C S base φ H w (.val (if t then x.eval env else y.eval env)) ((execOp a.eval o).run P w):=by
 have h1:=zw hE hc;rw [ht] at h1;have h2:=h1.bool_inv
 refine zN (v:=if t then a.eval A else a.eval B) (by simp [execOp,hop,h2,asBool]) ?_
 cases t
 ·exact zw hE hy
 ·exact zw hE hx
theorem zbZ {t:TypeId} {z:List PV} (h:zbi P t=some z):∃ v,(zeroValue t).run P w=.ok v w/\zb3 v.cells.toList=some z/\zR P t=some v.cells.size:=by
 unfold zbi at h
 split at h
 ·rename_i i hi
  split at h
  ·rename_i v hv
   split at h
   ·rename_i hs
    refine ⟨v,?_,h,by simp [zR,hi,hs]⟩
    simp [zeroValue,zbb hi,hv]
   ·simp at h
  ·simp at h
 ·simp at h
theorem zeA {I:Bool->Nat->Prop} {v:Value} {z:List PV} (h:zb3 v.cells.toList=some z):VRels I φ w (z.map .pure) v.cells.toList :=
 VRels.pures (zcL (I:=I) (w:=w) h).1 (zcL h).2
theorem zmb {t:TypeId} {z:List PV} (hz:zbi P t=some z) (hop:o.op=.alloc t) :
  Ran C S base φ H w (.new (.cells true (z.map .pure)) fun id=>.box id 0) ((execOp a.eval o).run P w):=by
 obtain ⟨v,hv,hc,hs⟩:=zbZ (w:=w) hz;have hr:=zeA (I:=Imm S base φ H w) (φ:=φ) (w:=w) hc
 refine zfb (c:=v.cells) (t:=t) (v:=.pointer (some ⟨w.heap.size,0,none⟩)) ?_ (by have:=hr.1;simp at this ⊢;omega) (fun j a v ha hv=>hr.2 j a v ha (by simpa using hv)) fun I' φ' w' id hid=>.box id 0 _ _ hid
 simp [execOp,hop,Instr.alloc,hv,newVar,newRow]
theorem zo9 (hE:ERel (Imm S base φ H w) φ w env a) {t:TypeId} {X:Operand} {x:Opnd} (hx:zu X=some x) (hop:o.op=.box t X) :
  Ran C S base φ H w (.new (.cells true (x.eval env).cells) fun id=>.box id 0) ((execOp a.eval o).run P w):=by
 have h1:=zw hE hx
 refine zfb (c:=(a.eval X).cells) (t:=t) (v:=.pointer (some ⟨w.heap.size,0,none⟩)) ?_ ?_ ?_ fun I' φ' w' id hid=>.box id 0 _ _ hid
 ·simp [execOp,hop,Instr.box,newVar,newRow]
 ·by_cases hu:x.eval env=.undef
  ·simp [hu,AV.cells]
  ·have:=(h1.cells hu).1;simp at this;omega
 ·by_cases hu:x.eval env=.undef
  ·simp [hu,AV.cells]
  ·exact fun j a v ha hv=>(h1.cells hu).2 j a v ha (by simpa using hv)
theorem znB (hH:HRel C S base φ H w) (hE:ERel (Imm S base φ H w) φ w env a) {t:TypeId} {X:Operand} {x:Opnd} {ps:List PV} (hx:zu X=some x) (hop:o.op=.box t X) (hp:zad (x.eval env).cells=some ps) :
  Ran C S base φ H w (.val (.pure (.ptr false ps 0))) ((execOp a.eval o).run P w):=by
 have h1:=zw hE hx;have hrun:(execOp a.eval o).run P w=.ok (.value (.pointer (some ⟨w.heap.size,0,none⟩))) (w.alloc (.cells (a.eval X).cells t)):=by
  simp [execOp,hop,Instr.box,newVar,newRow]
 have hc:=zcw hp;have hun:ps=[]\/x.eval env≠.undef:=by
  by_cases hu:x.eval env=.undef
  ·rw [hu] at hp;simp [AV.cells,zad] at hp;exact .inl hp
  ·exact .inr hu
 have hrel:∀ (j:Nat) p,ps[j]?=some p->∃ v,(a.eval X).cells[j]?=some v/\Rep (Imm S base φ H w) w p v:=by
  intro j p hj;rcases hun with rfl|hu
  ·simp at hj
  ·obtain ⟨h2,h3⟩:=h1.cells hu;rw [hc] at h2 h3;have hlt:j < ps.length:=(List.getElem?_eq_some_iff.1 hj).1;have hlt':j < (a.eval X).cells.size:=by simp at h2;omega
   exact ⟨(a.eval X).cells[j],by simp [hlt'],(h3 j (.pure p) _ (by simp [hj]) (by simp [hlt'])).pure_inv⟩
 have hnm:¬ Mut φ H w.heap.size:=fun ⟨id,m,hid,_⟩=>by have:=(hH.lt _ _ _ hid).2;omega
 have hmono:∀ k b,Imm S base φ H w k b->Imm S base φ H (w.alloc (.cells (a.eval X).cells t)) k b/\(w.alloc (.cells (a.eval X).cells t)).heap[b]?=w.heap[b]?:=fun k b hb =>
  ⟨⟨hb.1,by simp;exact Nat.lt_succ_of_lt hb.2.1,hb.2.2⟩,Below.heap_alloc w _ b hb.2.1⟩
 refine .inl ⟨_,_,hrun,(Below.refl _ w).alloc (Nat.le_refl _) _,.pure _ _ (.ptr false ps 0 w.heap.size 0 0 (fun j=>(a.eval X).cells.getD j undef) rfl (fun j p hj=>?_) fun j p hj=>?_)⟩
 ·obtain ⟨v,h2,h3⟩:=hrel j p hj
  refine ⟨⟨.inr hH.sz,by simp,hnm⟩,?_⟩
  have hlt:=(Array.getElem?_eq_some_iff.1 h2).1;simp only [World.cell?,heap_alloc_new];simp [hlt]
 ·obtain ⟨v,h2,h3⟩:=hrel j p hj;have hlt:=(Array.getElem?_eq_some_iff.1 h2).1;have hv:(a.eval X).cells.getD j undef=v:=by
   rw [Array.getD_eq_getD_getElem?,h2];rfl
  rw [hv];exact h3.mono hmono
theorem zmz (vs:List Value):∀ (k off:Nat) (cs:Array Value),off+k+vs.length<=cs.size ->
  ∃ cs',(vs.zipIdx k).foldl (fun cs (x:Value×Nat)=>cs.setIfInBounds (off+x.2) x.1) cs=cs'/\cs'.toList=cs.toList.take (off+k)++vs++cs.toList.drop (off+k+vs.length):=by
 induction vs with
 | nil=>intro k off cs h;exact ⟨cs,rfl,by simp⟩
 | cons v vs ih =>
  intro k off cs h;simp only [List.length_cons] at h;obtain ⟨cs',h1,h2⟩:=ih (k+1) off (cs.setIfInBounds (off+k) v) (by simp;omega)
  refine ⟨cs',by simpa [List.zipIdx_cons] using h1,?_⟩
  rw [h2,Array.toList_setIfInBounds];have hlt:off+k < cs.toList.length:=by simp;omega
  have e1:(cs.toList.set (off+k) v).take (off+(k+1))=cs.toList.take (off+k)++[v]:=by
   rw [show off+(k+1)=off+k+1 from rfl,List.take_succ_eq_append_getElem (by simpa using hlt)];simp [List.take_set_of_le]
  have e2:(cs.toList.set (off+k) v).drop (off+(k+1)+vs.length)=cs.toList.drop (off+k+(vs.length+1)):=by
   rw [List.drop_set_of_lt (by omega)]
   congr 1
   omega
  rw [e1,e2];simp
theorem zhd {I:Bool->Nat->Prop} {place:Nat->Option (Nat×Nat)} (hE:ERel I φ w env a):∀ {parts:List (Nat×Operand)} {ps:List (Nat×Nat×Opnd)} {cs cs':List AV} {vs:Array Value},
  zb4 place parts=some ps->VRels I φ w cs vs.toList->fill cs (zV env ps)=some cs' ->
  ∃ vs',Instr.fill place vs (parts.map fun (i,x)=>(i,a.eval x))=some vs'/\VRels I φ w cs' vs'.toList
 | [],ps,cs,cs',vs,hp,hr,hf=>by
  simp [zb4] at hp;subst hp;simp [zV,fill] at hf;subst hf;exact ⟨vs,rfl,hr⟩
 | (i,X)::rest,ps,cs,cs',vs,hp,hr,hf=>by
  unfold zb4 at hp
  split at hp
  ·simp at hp
  ·rename_i off s hpl
   split at hp
   ·simp at hp
   ·rename_i y hy
    split at hp
    ·simp at hp
    ·rename_i ys hys
     split at hp
     ·simp at hp
     ·rename_i hs0;simp at hp;subst hp;simp only [zV,List.map_cons,fill] at hf
      split at hf
      ·rename_i hc;obtain ⟨h1,h2,h3⟩:=hc;have hx:=zw hE hy;have hu:y.eval env≠.undef:=fun e=>by rw [e] at h1;simp [AV.cells] at h1;omega
       have hcx:=hx.cells hu;have hsz:(a.eval X).cells.size=s:=by have:=hcx.1;simp at this;omega
       have hlen:=hr.1;simp at hlen;obtain ⟨vs1,e1,e2⟩:=zmz (a.eval X).cells.toList 0 off vs (by simp;omega);have hnew:VRels I φ w (cs.take off++(y.eval env).cells++cs.drop (off+s)) vs1.toList:=by
        rw [e2];simp only [Nat.add_zero,Array.length_toList,hsz];exact ((hr.take _).append hcx).append (hr.drop _)
       obtain ⟨vs',e3,e4⟩:=zhd hE hys hnew hf
       refine ⟨vs',?_,e4⟩
       simp only [List.map_cons,Instr.fill,hpl];rw [if_neg (by simp;omega)];have e1':((a.eval X).cells.zipIdx.foldl (fun cs x=>cs.setIfInBounds (off+x.2) x.1) vs)=vs1:=by
        rw [<- e1,<- Array.foldl_toList];simp
       rw [e1'];exact e3
      ·simp at hf
theorem zk7 {fs:Array Field} (hok:fs.toList.all (fun f=>(zR P f.type).isSome)=true) :
  (fs.mapM fun f=>do pure (f.offset,<- sizeOf f.type):Sem (Array (Nat×Nat))).run P w=.ok (fs.map fun f=>(f.offset,(zR P f.type).getD 0)) w:=by
 have key:∀ l:List Field,l.all (fun f=>(zR P f.type).isSome)=true ->
   (l.mapM fun f=>do pure (f.offset,<- sizeOf f.type):Sem (List (Nat×Nat))).run P w=.ok (l.map fun f=>(f.offset,(zR P f.type).getD 0)) w:=by
  intro l
  induction l with
  | nil=>intro _;simp
  | cons f l ih =>
   intro h;simp only [List.all_cons,Bool.and_eq_true] at h;obtain ⟨s,hs⟩:=Option.isSome_iff_exists.1 h.1;simp only [List.mapM_cons,Sem.run_bind,zO hs,Result.andThen_ok,Sem.run_pure,ih h.2,List.map_cons,hs,Option.getD_some]
 rw [Array.mapM_eq_mapM_toList];simp only [Sem.run_map,key _ hok,Result.andThen_ok];rw [<- Array.toList_map,Array.toArray_toList]
theorem zmv (hE:ERel (Imm S base φ H w) φ w env a) {t:TypeId} {parts:Array (Nat×Operand)} {z:List PV} {ps:List (Nat×Nat×Opnd)} {cs:List AV} (hz:zbi P t=some z)
  (hp:zb4 (zdT P t) parts.toList=some ps) (hok:zg0 P t=true) (hop:o.op=.build t parts) (hf:fill (z.map .pure) (zV env ps)=some cs) :
  Ran C S base φ H w (.val (aggV cs)) ((execOp a.eval o).run P w):=by
 obtain ⟨v,hv,hc,hs⟩:=zbZ (w:=w) hz;have hr:=zeA (I:=Imm S base φ H w) (φ:=φ) (w:=w) hc;obtain ⟨vs',h1,h2⟩:=zhd hE hp hr hf
 refine zN (v:=.agg vs') ?_ (by simpa using zke h2)
 unfold zg0 at hok;simp only [execOp,hop,Instr.build,Sem.run_bind,hv,Result.andThen_ok]
 cases hd:P.underlying t with
 | none=>simp [hd] at hok
 | some d =>
  rw [hd] at hok;simp only [ze hd,Result.andThen_ok];have hpl:∀ f:Nat->Option (Nat×Nat),(∀ i x,zdT P t i=some x->f i=some x)->Instr.fill f v.cells (parts.map fun (i,x)=>(i,a.eval x)).toList=some vs':=by
   intro f hf';rw [Array.toList_map]
   -- the places that are asked for are found
   have key:∀ (l:List (Nat×Operand)) (qs:List (Nat×Nat×Opnd)) (u u':Array Value),zb4 (zdT P t) l=some qs ->
     Instr.fill (zdT P t) u (l.map fun (i,x)=>(i,a.eval x))=some u'->Instr.fill f u (l.map fun (i,x)=>(i,a.eval x))=some u':=by
    intro l
    induction l with
    | nil=>intro qs u u' _ h;simpa [Instr.fill] using h
    | cons q l ih =>
     obtain ⟨i,X⟩:=q;intro qs u u' hq h;unfold zb4 at hq
     split at hq
     ·simp at hq
     ·rename_i off s hpl
      split at hq
      ·simp at hq
      ·split at hq
       ·simp at hq
       ·rename_i ys hys;simp only [List.map_cons,Instr.fill,hpl] at h;simp only [List.map_cons,Instr.fill,hf' i _ hpl]
        split at h
        ·simp at h
        ·rename_i hcond;rw [if_neg hcond];exact ih _ _ _ hys h
   exact key _ _ _ _ hp h1
  cases d with
  | struct fs =>
   simp only [Sem.run_bind,zk7 hok,Result.andThen_ok];rw [hpl _ fun i x hx=>by
    simp only [zdT,hd] at hx
    cases hfi:fs[i]? with
    | none=>simp [hfi] at hx
    | some f =>
     simp [hfi] at hx;obtain ⟨s,hs,rfl⟩:=hx;simp [hfi,hs]]
   simp
  | array n e =>
   have hall:∀ i x,zdT P t i=some x->∃ s,zR P e=some s/\x=(i*s,s):=fun i x hx=>by
    simp [zdT,hd] at hx;obtain ⟨s,h1,h2⟩:=hx;exact ⟨s,h1,h2.symm⟩
   cases hse:zR P e with
   | none=>simp [hse] at hok
   | some s =>
    simp only [Sem.run_bind,zO hse,Result.andThen_ok];rw [hpl _ fun i x hx=>by
     obtain ⟨s',h1,h2⟩:=hall i x hx;rw [hse] at h1;simp at h1;subst h1;rw [h2]]
    simp
  | _=>simp at hok
theorem zbY {α:Type} (l:List α):∀ (n k:Nat),k < n*l.length->((List.replicate n l).flatten)[k]?=l[k % l.length]?
 | 0,k,h=>by simp at h
 | n+1,k,h=>by
  rw [List.replicate_succ,List.flatten_cons];have hpos:0 < l.length:=by
   rcases Nat.eq_zero_or_pos l.length with h0|h0
   ·rw [h0] at h;simp at h
   ·exact h0
  by_cases hk:k < l.length
  ·rw [List.getElem?_append_left hk,Nat.mod_eq_of_lt hk]
  ·rw [List.getElem?_append_right (by omega),zbY l n (k - l.length) (by rw [Nat.add_mul] at h;omega)]
   congr 1
   rw [Nat.mod_eq_sub_mod (by omega:l.length<=k)]
theorem zcb {I:Bool->Nat->Prop} {v:Value} {z:List PV} {n:Nat} (hc:zb3 v.cells.toList=some z) (hpos:0 < z.length) (c:Array Value)
  (hcs:c.size=n*z.length) (hci:∀ k,k < n*z.length->c[k]?=v.cells[k % z.length]?) :
  VRels I φ w (((List.replicate n (z.map AV.pure)).flatten)) c.toList:=by
 have hr:=zeA (I:=I) (φ:=φ) (w:=w) hc
 refine ⟨by simp [hcs],fun i p u hp hu=>?_⟩
 have hi:i < n*z.length:=by
  have:=(List.getElem?_eq_some_iff.1 hu).1
  simpa [hcs] using this
 have h1:=zbY (z.map AV.pure) n i (by simpa using hi);rw [h1] at hp;have hci':=hci i hi;rw [Array.getElem?_toList] at hu;rw [hci'] at hu
 refine hr.2 (i % z.length) p u (by simpa using hp) (by simpa using hu)
theorem zht (hE:ERel (Imm S base φ H w) φ w env a) {t e:TypeId} {len s:Nat} {parts:Array (Nat×Operand)} {z:List PV} {ps:List (Nat×Nat×Opnd)} {cs:List AV} (ht:P.underlying t=some (.slice e))
  (hs:zR P e=some s) (hz:zbi P e=some z) (h0:0 < s) (hmax:len*s<=65536) (hzl:z.length=s)
  (hp:zb4 (fun i=>some (i*s,s)) parts.toList=some ps) (hop:o.op=.buildSlice t len parts) (hf:fill (((List.replicate len z).flatten).map .pure) (zV env ps)=some cs) :
  Ran C S base φ H w (.new (.cells true cs) fun id=>.row id s 0 (if s=0 then 0 else cs.length / s)) ((execOp a.eval o).run P w):=by
 obtain ⟨v,hv,hc,hsv⟩:=zbZ (w:=w) hz;have hvs:v.cells.size=s:=by rw [hs] at hsv;simpa using hsv.symm
 -- the row of zeros
 let row:Array Value:=(Array.range (len*s)).map (v.cells[· % v.cells.size]!)
 have hrow:VRels (Imm S base φ H w) φ w (((List.replicate len z).flatten).map AV.pure) row.toList:=by
  have:=zcb (I:=Imm S base φ H w) (φ:=φ) (w:=w) (n:=len) hc (by omega) row (by simp [row,hzl]) (fun k hk=>by
   have hk':k < len*s:=by rw [hzl] at hk;exact hk
   have hm:k % s < v.cells.size:=by rw [hvs];exact Nat.mod_lt _ h0
   simp only [row,Array.getElem?_map,hvs,hzl];rw [Array.getElem?_range,if_pos hk'];simp only [Option.map_some];rw [getElem!_pos v.cells (k % s) hm,Array.getElem?_eq_getElem hm])
  rw [List.map_flatten,List.map_replicate];exact this
 obtain ⟨vs',h1,h2⟩:=zhd hE hp hrow hf;have hlen:cs.length=len*s:=by
  have key:∀ (qs:List (Nat×Nat×AV)) (u u':List AV),fill u qs=some u'->u'.length=u.length:=by
   intro qs
   induction qs with
   | nil=>intro u u' h;simp [fill] at h;rw [h]
   | cons q qs ih =>
    obtain ⟨x,y,av⟩:=q;intro u u' h;simp only [fill] at h
    split at h
    ·rename_i hcond;rw [ih _ _ h];simp;omega
    ·simp at h
  rw [key _ _ _ hf];simp [hzl]
 have hlv:vs'.size=len*s:=by have:=h2.1;simp at this;omega
 have hdiv:cs.length / s=len:=by rw [hlen];exact Nat.mul_div_cancel _ h0
 refine zfb (c:=vs') (t:=e) (v:=.slice (some ⟨w.heap.size,0,none⟩) len len) ?_ (by omega) (fun j a v ha hv=>h2.2 j a v ha (by simpa using hv)) fun I' φ' w' id hid=>?_
 ·simp only [execOp,hop,Instr.buildSlice,Sem.run_bind,ze ht,Result.andThen_ok,zO hs];rw [if_neg (by omega)];have e1:(parts.map fun x=>match x with|(i,x)=>(i,a.eval x)).toList=parts.toList.map fun (i,x)=>(i,a.eval x):=by simp
  by_cases hl0:len*s=0
  ·have hr0:row=(#[]:Array Value):=by simp [row,hl0]
   rw [hr0] at h1;have hl00:len=0:=by
    rcases Nat.eq_zero_or_pos len with h|h
    ·exact h
    ·have:=Nat.mul_pos h h0;omega
   subst hl00;simp only [hl0,if_true,Sem.run_pure,Result.andThen_ok];have hr00:Array.range 0=#[]:=rfl;simp only [e1,Nat.zero_mul,hr00,Array.map_empty,h1];simp [newRow]
  ·rw [if_neg hl0];simp only [Sem.run_bind,hv,Result.andThen_ok,Sem.run_pure];have e2:((Array.range (len*s)).map (v.cells[· % v.cells.size]!))=row:=rfl;simp only [e1,e2,h1];simp [newRow]
 ·rw [if_neg (by omega),hdiv];exact .row id s 0 len _ _ 0 len hid (by simp) (Nat.le_refl _) (by simp [hlv])
end
theorem zaQ (b o n:Nat):(⟨b,o,none⟩:Addr).add n=⟨b,o+n,none⟩:=by
 unfold Addr.add
 split
 ·subst_vars;simp
 ·rfl
section
variable {C:Comp} {P:Program} {S:Bool->Nat->Prop} {base:Nat} {φ:Phi} {H:Heap} {w:World} {env:Env} {a:Act} {e:Eff} {o:Oper}
theorem zep (hH:HRel C S base φ H w) {size:Nat} {av:AV} {v:Value} {cs:List AV} (hv:VRel (Imm S base φ H w) φ w av v) (h:zH H size av=some cs) :
  ∃ ad vs,v=.pointer (some ad)/\VRels (Imm S base φ H w) φ w cs vs/\cs.length=size/\∀ (j:Nat) u,vs[j]?=some u->w.cell? (ad.add j)=some u:=by
 unfold zH at h
 split at h
 ·rename_i ps off
  split at h
  ·rename_i hle;simp at h;subst h
   cases hv.pure_inv with
   | ptr _ _ _ b o o' val ho hm hr =>
    subst ho
    refine ⟨⟨b,o+off,none⟩,(List.range size).map fun j=>val (off+j),rfl,⟨by simp;omega,fun i p u hp hu=>?_⟩,by simp;omega,fun j u hu=>?_⟩
    ·have hi:i < size:=by have:=(List.getElem?_eq_some_iff.1 hu).1;simpa using this
     rw [List.getElem?_take_of_lt hi,List.getElem?_drop,List.getElem?_map] at hp
     cases hq:ps[off+i]? with
     | none=>rw [hq] at hp;simp at hp
     | some q =>
      rw [hq] at hp;simp at hp;subst hp;simp [hi] at hu;subst hu;exact .pure _ _ (hr _ _ hq)
    ·have hi:j < size:=by have:=(List.getElem?_eq_some_iff.1 hu).1;simpa using this
     simp [hi] at hu;subst hu;have hq:ps[off+j]?=some (ps[off+j]'(by omega)):=List.getElem?_eq_getElem (by omega);rw [zaQ,Nat.add_assoc];exact (hm _ _ hq).2
  ·simp at h
 ·rename_i id off
  split at h
  ·rename_i own ds hg
   split at h
   ·rename_i hle;simp at h;subst h;obtain ⟨b,n,hid,rfl⟩:=hv.box_inv;have ho:=hH.obj _ _ _ hid;rw [hg] at ho;obtain ⟨c,t,fz,h1,h2,h3,h4,h5⟩:=ho
    refine ⟨⟨b,off,none⟩,(c.toList.drop off).take size,rfl,⟨by simp;omega,fun i p u hp hu=>?_⟩,by simp;omega,fun j u hu=>?_⟩
    ·have hi:i < size:=by have:=(List.getElem?_eq_some_iff.1 hp).1;simp at this;omega
     rw [List.getElem?_take_of_lt hi,List.getElem?_drop] at hp hu;exact h5 _ _ _ hp (by simpa using hu)
    ·have hi:j < size:=by have:=(List.getElem?_eq_some_iff.1 hu).1;simp at this;omega
     rw [List.getElem?_take_of_lt hi,List.getElem?_drop] at hu;rw [zaQ];simp only [World.cell?,h1]
     simpa using hu
   ·simp at h
  ·simp at h
 ·simp at h
theorem zd5 {I:Bool->Nat->Prop} {g:Bool} {cs:List AV} {vs:List Value} {av:AV} (hr:VRels I φ w cs vs) (h:zae g cs=some av) :
  VRel I φ w av (if g then .agg vs.toArray else vs.headD undef):=by
 unfold zae at h
 cases g with
 | true=>simp at h;subst h;exact zke hr
 | false =>
  simp at h
  split at h
  ·rename_i c;simp at h;subst h;obtain ⟨v,vs',rfl,h1,h2⟩:=hr.cons_inv;exact h1
  ·simp at h
theorem ze3 {t:TypeId} {g:Bool} {s:Nat} {ad:Addr} {vs:List Value} (hg:aggP P t=some g) (hs:zR P t=some s) (h1:g=false->s=1) (hl:vs.length=s)
  (hc:∀ (j:Nat) u,vs[j]?=some u->w.cell? (ad.add j)=some u):(loadVar t ad).run P w=.ok (if g then .agg vs.toArray else vs.headD undef) w:=by
 simp only [loadVar,Sem.run_bind,zez hg,Result.andThen_ok]
 cases g with
 | true =>
  subst hl;simp only [if_true,Sem.run_bind,zO hs,Result.andThen_ok,run_loadCells_list (w:=w) ad vs hc];simp
 | false =>
  have h1':=h1 rfl;rw [h1'] at hl
  match vs,hl with
  | [u],_ =>
   have:=hc 0 u rfl;simp [Addr.add] at this;simp [this]
theorem znQ (hH:HRel C S base φ H w) (hE:ERel (Imm S base φ H w) φ w env a) {t:TypeId} {X:Operand} {x:Opnd} {g:Bool} {s:Nat} {cs:List AV} {av:AV} (hx:zu X=some x)
  (hg:aggP P t=some g) (hs:zR P t=some s) (h1:g=false->s=1) (hop:o.op=.load t X) (hc:zH H s (x.eval env)=some cs) (ho:zae g cs=some av) :
  Ran C S base φ H w (.val av) ((execOp a.eval o).run P w):=by
 obtain ⟨ad,vs,e1,e2,e3,e4⟩:=zep hH (zw hE hx) hc;have hlen:vs.length=s:=by have:=e2.1;omega
 refine zN (v:=if g then .agg vs.toArray else vs.headD undef) ?_ (zd5 e2 ho)
 simp only [execOp,hop,Instr.loadAt,e1,Instr.sureAddr,Sem.run_bind,Sem.run_pure,Result.andThen_ok,ze3 hg hs h1 hlen e4]
theorem zci (b off:Nat) (t:TypeId) (fz:Nat×Nat):∀ (vs:List Value) (k:Nat) (c:Array Value) (w:World),w.heap[b]?=some (.cells c t fz)->off+k+vs.length<=c.size ->
  (∀ v∈vs,v.oneCell'=true)->(∀ j,j < c.size->¬ (fz.1<=j/\j < fz.2)) ->
  ∃ w' c',(storeCells ⟨b,off,none⟩ vs k).run P w=.ok () w'/\w'.os=w.os/\w'.tape=w.tape/\w'.output=w.output/\w'.heap.size=w.heap.size/\(∀ d,d≠b->w'.heap[d]?=w.heap[d]?) /\
   w'.heap[b]?=some (.cells c' t fz)/\c'.toList=c.toList.take (off+k)++vs++c.toList.drop (off+k+vs.length)
 | [],k,c,w,hb,hl,h1,hf=>⟨w,c,rfl,rfl,rfl,rfl,rfl,fun _ _=>rfl,hb,by simp⟩
 | v::vs,k,c,w,hb,hl,h1,hf=>by
  simp only [List.length_cons] at hl;have hcell:w.cell? ⟨b,off+k,none⟩=c[off+k]?:=by simp [World.cell?,hb]
  have hlt:off+k < c.size:=by omega
  have hfr:w.frozen? ⟨b,off+k,none⟩=false:=by
   simp only [World.frozen?,hb];have:=hf (off+k) hlt;simp;omega
  have hb':(w.setCell ⟨b,off+k,none⟩ v).heap[b]?=some (.cells (c.setIfInBounds (off+k) v) t fz):=by
   simp [World.setCell,Array.getElem?_modify,hb]
  obtain ⟨w',c',e1,e2,e3,e4,e5,e6,e7,e8⟩:=zci b off t fz vs (k+1) (c.setIfInBounds (off+k) v) (w.setCell ⟨b,off+k,none⟩ v) hb' (by simp;omega)
   (fun u hu=>h1 u (List.mem_cons_of_mem _ hu)) (fun j hj=>hf j (by simpa using hj))
  refine ⟨w',c',?_,by rw [e2];rfl,by rw [e3];rfl,by rw [e4];rfl,by rw [e5];simp [World.setCell],fun d hd=>(e6 d hd).trans ?_,e7,?_⟩
  ·simp only [storeCells,Sem.run_bind,zaQ];rw [run_store _ _ _ _ _ (h1 v (List.mem_cons_self ..)),hcell,Array.getElem?_eq_getElem hlt];simp only [hfr,Bool.false_eq_true,if_false,Result.andThen_ok];exact e1
  ·simp only [World.setCell,Array.getElem?_modify];rw [if_neg (by simpa using fun h=>hd h.symm)]
  ·rw [e8,Array.toList_setIfInBounds];have hlt':off+k < c.toList.length:=by simpa using hlt
   have e1:(c.toList.set (off+k) v).take (off+(k+1))=c.toList.take (off+k)++[v]:=by
    rw [show off+(k+1)=off+k+1 from rfl,List.take_succ_eq_append_getElem (by simpa using hlt')];simp [List.take_set_of_le]
   have e2:(c.toList.set (off+k) v).drop (off+(k+1)+vs.length)=c.toList.drop (off+k+(vs.length+1)):=by
    rw [List.drop_set_of_lt (by omega)]
    congr 1
    omega
   rw [e1,e2];simp
theorem zfy (hH:HRel C S base φ H w) {id b n off:Nat} {ds cs:List AV} {vs:List Value} (hid:φ id=some (b,n)) (hg:H.get id=.cells true ds)
  (hvs:VRels (Imm S base φ H w) φ w cs vs) (h1:cs.all AV.one=true) (hle:off+cs.length<=ds.length) :
  ∃ w',(storeCells ⟨b,off,none⟩ vs).run P w=.ok () w' /\
   Evo φ H w φ (H.set id (.cells true (ds.take off++cs++ds.drop (off+cs.length)))) w'/\HRel C S base φ (H.set id (.cells true (ds.take off++cs++ds.drop (off+cs.length)))) w':=by
 have ho:=hH.obj _ _ _ hid;rw [hg] at ho;obtain ⟨c,t,fz,g1,g2,g3,g4,g5⟩:=ho;have hlen:=hvs.1;obtain ⟨w',c',e1,e2,e3,e4,e5,e6,e7,e8⟩:=zci (P:=P) b off t fz vs 0 c w g1 (by omega) (fun v hv=>by
   obtain ⟨i,hi⟩:=List.getElem?_of_mem hv;have hil:i < cs.length:=by have:=(List.getElem?_eq_some_iff.1 hi).1;omega
   have hci:cs[i]?=some cs[i]:=List.getElem?_eq_getElem hil;exact (hvs.2 i _ _ hci hi).one (List.all_eq_true.1 h1 _ (List.getElem_mem hil))) (fun j hj=>g4 j (by omega))
 have hc's:c'.size=n:=by
  have:c'.toList.length=n:=by rw [e8];simp;omega
  simpa using this
 refine ⟨w',e1,?_⟩
 refine hH.write hid (by rw [hg];rfl) e2 e3 e4 e5 e6 ⟨c',t,fz,e7,hc's,by simp;omega,fun j hj=>g4 j hj,fun j a v ha hv=>?_⟩
 have hds:VRels (Imm S base φ H w) φ w ds (c.toList.take ds.length):=⟨by simp;omega,fun i p u hp hu=>by
  have hi:i < ds.length:=(List.getElem?_eq_some_iff.1 hp).1;rw [List.getElem?_take_of_lt hi] at hu;exact g5 i p u hp (by simpa using hu)⟩
 -- the values in the block,as far as the abstract cells go
 have hmix:=((hds.take off).append hvs).append (hds.drop (off+cs.length));have hImm:∀ k c,Imm S base φ H w k c->c≠b:=fun k c hc e=>hc.2.2 ⟨id,n,e ▸ hid,by rw [hg];rfl⟩
 refine (hmix.2 j a v ha ?_).mono (fun k c hc=>⟨hc,e6 c (hImm k c hc)⟩) (fun _ _ h=>h)
 have hj:j < ds.length:=by have:=(List.getElem?_eq_some_iff.1 ha).1;simp at this;omega
 rw [<- Array.getElem?_toList,e8] at hv;rw [<- hv];have hcl:c.toList.length=c.size:=by simp
 have hd1:ds.length<=c.toList.length:=by omega
 have e9:(c.toList.take ds.length).take off=c.toList.take off:=by rw [List.take_take];congr 1;omega
 have e10:off+0=off:=rfl;rw [e9,e10];have hm0:(c.toList.take off).length=off:=by rw [List.length_take];omega
 have hm1:(c.toList.take off++vs).length=off+vs.length:=by rw [List.length_append,hm0]
 generalize c.toList.take off++vs=X at hm1 ⊢
 by_cases hj1:j < off+cs.length
 ·rw [List.getElem?_append_left (by rw [hm1];omega),List.getElem?_append_left (by rw [hm1];omega)]
 ·rw [List.getElem?_append_right (by rw [hm1];omega),List.getElem?_append_right (by rw [hm1];omega),List.getElem?_drop,List.getElem?_drop,hm1,<- hlen,List.getElem?_take_of_lt (by omega)]
theorem run_store (hH:HRel C S base φ H w) (hE:ERel (Imm S base φ H w) φ w env a) {t:TypeId} {A X:Operand} {x y:Opnd} {s id off:Nat} {ds:List AV} (hx:zu A=some x) (hy:zu X=some y)
  (hs:zR P t=some s) (h0:s≠0) (hop:o.op=.store t A X) (hbox:x.eval env=.box id off) (hg:H.get id=.cells true ds)
  (hl:(y.eval env).cells.length=s) (h1:(y.eval env).cells.all AV.one=true) (hle:off+s<=ds.length) :
  ∃ w',(execOp a.eval o).run P w=.ok .skip w'/\Evo φ H w φ (H.set id (.cells true (ds.take off++(y.eval env).cells++ds.drop (off+s)))) w'/\HRel C S base φ (H.set id (.cells true (ds.take off++(y.eval env).cells++ds.drop (off+s)))) w':=by
 have hb:=zw hE hx;rw [hbox] at hb;obtain ⟨b,n,hid,hv⟩:=hb.box_inv;have hyv:=zw hE hy;have hu:y.eval env≠.undef:=fun e=>by rw [e] at hl;simp [AV.cells] at hl;omega
 have hcells:=hyv.cells hu;have hsz:(a.eval X).cells.size=s:=by have:=hcells.1;simp at this;omega
 obtain ⟨w',e1,e2,e3⟩:=zfy (P:=P) (off:=off) hH hid hg hcells h1 (by omega);rw [hl] at e2 e3
 refine ⟨w',?_,e2,e3⟩
 simp only [execOp,hop,Instr.storeAt,hv,Instr.sureAddr,Sem.run_bind,Sem.run_pure,Result.andThen_ok,storeVar,zO hs];rw [if_neg (by simp [hsz])];simp only [e1,Result.andThen_ok,Sem.run_pure]
theorem zmW (hH:HRel C S base φ H w) (hE:ERel (Imm S base φ H w) φ w env a) {t:TypeId} {A X:Operand} {x y:Opnd} {s id off:Nat} {ds:List AV} (hx:zu A=some x) (hy:zu X=some y)
  (hs:zR P t=some s) (h0:s≠0) (hop:o.op=.store t A X) (hbox:x.eval env=.box id off) (hg:H.get id=.cells true ds)
  (hl:(y.eval env).cells.length=s) (h1:(y.eval env).cells.all AV.one=true) (hle:off+s<=ds.length) :
  Ran C S base φ H w (.upd (.tup []) (H.set id (.cells true (ds.take off++(y.eval env).cells++ds.drop (off+s))))) ((execOp a.eval o).run P w):=by
 obtain ⟨w',e1,e2,e3⟩:=run_store (P:=P) hH hE hx hy hs h0 hop hbox hg hl h1 hle;exact .inr ⟨w',e1,φ,e2,e3,.tup [] #[] rfl fun i p v h=>by simp at h⟩
end
end Go.Proofs.Ytleggocccaeemaa.Vm
