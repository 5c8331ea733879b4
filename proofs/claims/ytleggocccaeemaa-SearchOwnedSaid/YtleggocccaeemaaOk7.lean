/- Each operation of the machine does what the model's operation does: maps with keys that are numbers or texts. Data taken out of one's own memory; calls; every operation in one theorem. Every operation in one theorem. An operation looks at its operands alone, and goes on to do so when more memory is there. A region of operations, in the order of its text, or in whatever order it may be drawn. A region whose order is drawn. The operations of a region in another order of text. A region whose order is drawn, cut into parts. The machine's code stands for the model's code. Calls: the machine's call stands for the model's. Reasoning about runs of the machine of values: what must hold ahead of a piece of code. What single operations of the machine of values come to, as rules for simp. -/
import Derived.Test.YtleggocccaeemaaOk6
import Derived.MapKept
namespace Go.Proofs.Ytleggocccaeemaa.Vm
open Go Go.RowKit
set_option linter.unusedVariables false
set_option linter.unusedSimpArgs false
section
variable {C:Comp} {P:Program} {S:Bool->Nat->Prop} {base:Nat} {φ:Phi} {H:Heap} {w:World} {env:Env} {a:Act} {e:Eff} {o:Oper} {I:Bool->Nat->Prop}
theorem zne {t:TypeId} {z:PV} (h:zlA P t=some z):∃ v,(zeroValue t).run P w=.ok v w/\Rep I w z v:=by
 unfold zlA at h
 split at h
 ·rename_i i hi
  split at h
  ·rename_i v hv;exact ⟨v,by simp [zeroValue,zbb hi,hv],zgt h⟩
  ·simp at h
 ·simp at h
theorem zgE {t:TypeId} {s:Bool} (h:keyP P t=some s):(s=false/\∃ k,P.underlying t=some (.int k))\/(s=true/\P.underlying t=some .string):=by
 unfold keyP at h
 split at h
 ·rename_i k hk;simp at h;exact .inl ⟨h,k,hk⟩
 ·rename_i hk;simp at h;exact .inr ⟨h,hk⟩
 ·simp at h
theorem zfP {t:TypeId} {s:Bool} (h:zeh P t=some s):∃ k e,P.underlying t=some (.map k e)/\keyP P k=some s:=by
 unfold zeh at h
 split at h
 ·exact ⟨_,_,by assumption,h⟩
 ·simp at h
theorem zcu {t:TypeId} {s b:Bool} {n:Nat} {v:Value} (h:keyP P t=some s):(Instr.checkKey b (n+1) t v).run P w=.ok () w:=by
 rcases zgE h with ⟨_,k,hk⟩|⟨_,hk⟩
 ·simp only [Instr.checkKey,Sem.run_bind,ze hk,Result.andThen_ok];rfl
 ·simp only [Instr.checkKey,Sem.run_bind,ze hk,Result.andThen_ok];rfl
theorem zcJ {d:TypeDesc} {s b:Bool} {p q:PV} {u v:Value} (hd:(s=false/\∃ k,d=.int k)\/(s=true/\d=.string)) (h:zgd s p q=some b) (hu:Rep I w p u) (hv:Rep I w q v) :
  Instr.sameNow d u v=some b/\(b=true->u=v/\Instr.sameBits 10000 u v=true):=by
 unfold zgd at h
 split at h
 ·rename_i k x k' y;have e1:=hu.int_inv;have e2:=hv.int_inv;subst e1;subst e2
  split at h
  ·rename_i hc;obtain ⟨hs,rfl⟩:=hc;rcases hd with ⟨_,j,rfl⟩|⟨h1,_⟩
   ·simp at h;subst h
    refine ⟨by simp [Instr.sameNow],fun he=>?_⟩
    have:x=y:=by simpa using he
    subst this;exact ⟨rfl,by simp [Instr.sameBits]⟩
   ·rw [hs] at h1;cases h1
  ·simp at h
 ·rename_i x y;have e1:=hu.str_inv;have e2:=hv.str_inv;subst e1;subst e2
  split at h
  ·rename_i hs;rcases hd with ⟨h1,_⟩|⟨_,rfl⟩
   ·rw [hs] at h1;cases h1
   ·simp only [Option.some.injEq] at h;have hxy:(x == y)=b:=by
     rw [<- h];rw [Bool.eq_iff_iff,MapKept.bytes_beq];simp only [beq_iff_eq]
     constructor
     ·rintro rfl;rfl
     ·intro h
      cases x;cases y
      simp at h;rw [h]
    refine ⟨by simp [Instr.sameNow,hxy],fun he=>?_⟩
    rw [he] at hxy;have:x=y:=(MapKept.bytes_beq x y).1 hxy;subst this;exact ⟨rfl,by simp [Instr.sameBits,(MapKept.bytes_beq x x).2 rfl]⟩
  ·simp at h
 ·simp at h
def MRel (I:Bool->Nat->Prop) (w:World) (es:List (PV×PV)) (ms:List MapEntry):Prop :=
 ms.length=es.length/\∀ (j:Nat) k v m,es[j]?=some (k,v)->ms[j]?=some m->Rep I w k m.key/\Rep I w v m.val
theorem MRel.tail {p:PV×PV} {es:List (PV×PV)} {m:MapEntry} {ms:List MapEntry} (h:MRel I w (p::es) (m::ms)):MRel I w es ms :=
 ⟨by have:=h.1;simpa using this,fun j k v m' hk hm=>h.2 (j+1) k v m' (by simpa using hk) (by simpa using hm)⟩
theorem MRel.head {p:PV×PV} {es:List (PV×PV)} {m:MapEntry} {ms:List MapEntry} (h:MRel I w (p::es) (m::ms)):Rep I w p.1 m.key/\Rep I w p.2 m.val :=
 h.2 0 p.1 p.2 m rfl rfl
theorem MRel.cons {k v:PV} {es:List (PV×PV)} {m:MapEntry} {ms:List MapEntry} (h1:Rep I w k m.key) (h2:Rep I w v m.val) (h:MRel I w es ms):MRel I w ((k,v)::es) (m::ms) :=
 ⟨by simp [h.1],fun j k' v' m' hk hm=>by
  cases j with
  | zero=>simp at hk hm;obtain ⟨rfl,rfl⟩:=hk;subst hm;exact ⟨h1,h2⟩
  | succ j=>exact h.2 j k' v' m' (by simpa using hk) (by simpa using hm)⟩
theorem zhc {d:TypeDesc} {s:Bool} {key:PV} {u:Value} (hd:(s=false/\∃ k,d=.int k)\/(s=true/\d=.string)) (hu:Rep I w key u) :
  ∀ (es:List (PV×PV)) (ms:List MapEntry) (i:Nat) (r:Option PV),MRel I w es ms->zek s key es=some r ->
   (r=none/\Instr.findNow d u ms i=some none)\/∃ v j val,r=some v/\Instr.findNow d u ms i=some (some (i+j,val))/\Rep I w v val
 | [],[],i,r,_,h=>by simp [zek] at h;subst h;exact .inl ⟨rfl,rfl⟩
 | [],_::_,_,_,hm,_=>by have:=hm.1;simp at this
 | _::_,[],_,_,hm,_=>by have:=hm.1;simp at this
 | (k,v)::es,m::ms,i,r,hm,h=>by
  unfold zek at h;have hh:=hm.head
  split at h
  ·rename_i hk;simp at h;subst h
   refine .inr ⟨v,0,m.val,rfl,?_,hh.2⟩
   simp only [Instr.findNow,(zcJ hd hk hu hh.1).1,Nat.add_zero]
  ·rename_i hk;rcases zhc hd hu es ms (i+1) r hm.tail h with ⟨h1,h2⟩|⟨v',j,val,h1,h2,h3⟩
   ·refine .inl ⟨h1,?_⟩
    simp only [Instr.findNow,(zcJ hd hk hu hh.1).1,h2]
   ·refine .inr ⟨v',j+1,val,h1,?_,h3⟩
    simp only [Instr.findNow,(zcJ hd hk hu hh.1).1,h2]
    congr 3
    omega
  ·simp at h
theorem zg3 {es:List (PV×PV)} {b n:Nat} (h:ORel C I φ w (.mapo es) b n):∃ (ms:Array MapEntry) (clock:Nat),w.heap[b]?=some (.map ms clock)/\MRel I w es ms.toList:=by
 obtain ⟨ms,ck,h1,h2,h3⟩:=h;exact ⟨ms,ck,h1,by simpa using h2,fun j k v m hk hm=>h3 j k v m hk (by simpa using hm)⟩
theorem zjn {es:List (PV×PV)} {b n clock:Nat} {ms:Array MapEntry} (h1:w.heap[b]?=some (.map ms clock)) (h:MRel I w es ms.toList):ORel C I φ w (.mapo es) b n :=
 ⟨ms,clock,h1,by simpa using h.1,fun j k v m hk hm=>h.2 j k v m hk (by simpa using hm)⟩
theorem zjD {t:TypeId} (hop:o.op=.makeMap t none):Ran C S base φ H w (.new (.mapo []) fun id=>.mapv id) ((execOp a.eval o).run P w):=by
 refine .inl ⟨.map (some w.heap.size),w.alloc (.map #[] 0),?_,w.heap.size,0,(Below.refl _ w).alloc (Nat.le_refl _) _,Nat.le_refl _,by simp,?_,fun I' φ' id hid=>.mapv id _ _ hid⟩
 ·simp [execOp,hop,Instr.makeMap,newObj];rfl
 ·exact zjn (heap_alloc_new w _) ⟨rfl,fun j k v m hk hm=>by simp at hk⟩
theorem zgX (hH:HRel C S base φ H w) (hE:ERel (Imm S base φ H w) φ w env a) {M K:Operand} {m k:Opnd} {t:TypeId} {s ok:Bool} {z:PV} (hs:zeh P t=some s) (hz:zhj P t=some z) (hm:zu M=some m) (hk:zu K=some k)
  (hop:o.op=.lookup t M K ok) {id:Nat} {key:PV} {es:List (PV×PV)} {r:Option PV} (e1:m.eval env=.mapv id) (e2:k.eval env=.pure key) (hg:H.get id=.mapo es) (hf:zek s key es=some r) :
  Ran C S base φ H w (.val (.pure (if ok then .tup [r.getD z,.bool r.isSome] else r.getD z))) ((execOp a.eval o).run P w):=by
 obtain ⟨kt,et,ht,hkt⟩:=zfP hs;have hze:zlA P et=some z:=by simpa [zhj,ht] using hz
 have hM:=zw hE hm;have hK:=zw hE hk;rw [e1] at hM;rw [e2] at hK;obtain ⟨b,n,hid,hMv⟩:=hM.mapv_inv;have ho:=hH.obj _ _ _ hid;rw [hg] at ho;obtain ⟨ms,ck,hb,hrel⟩:=zg3 ho;have hd:∃ d,P.underlying kt=some d/\((s=false/\∃ k,d=.int k)\/(s=true/\d=.string)):=by
  rcases zgE hkt with ⟨h1,k,h2⟩|⟨h1,h2⟩
  ·exact ⟨_,h2,.inl ⟨h1,k,rfl⟩⟩
  ·exact ⟨_,h2,.inr ⟨h1,rfl⟩⟩
 obtain ⟨d,hd1,hd2⟩:=hd;obtain ⟨zv,hzv,hzr⟩:=zne (I:=Imm S base φ H w) (w:=w) hze;have hfin:∃ v,(Instr.lookup t (a.eval M) (a.eval K) ok).run P w=.ok v w/\Rep (Imm S base φ H w) w (if ok then .tup [r.getD z,.bool r.isSome] else r.getD z) v:=by
  have key2:∀ (v:Value) (x:Bool),Rep (Imm S base φ H w) w (r.getD z) v->r.isSome=x->Rep (Imm S base φ H w) w (if ok then .tup [r.getD z,.bool r.isSome] else r.getD z) (if ok then .tuple #[v,.bool x] else v):=fun v x h1 h2=>by
   cases ok
   ·exact h1
   ·refine .tup _ _ rfl fun i p u hp hu=>?_
    cases i with
    | zero=>simp at hp hu;subst hp;subst hu;exact h1
    | succ i =>
     cases i with
     | zero=>simp at hp hu;subst hp;subst hu;rw [h2];exact .bool x
     | succ i=>simp at hp
  rcases zhc hd2 hK.pure_inv es ms.toList 0 r hrel hf with ⟨h1,h2⟩|⟨v,j,val,h1,h2,h3⟩
  ·refine ⟨if ok then .tuple #[zv,.bool false] else zv,?_,key2 zv false (by rw [h1];exact hzr) (by rw [h1];rfl)⟩
   simp only [Instr.lookup,Instr.findKey,Sem.run_bind,ze ht,Result.andThen_ok,hMv,MapKept.run_getObj_map hb,zcu hkt,ze hd1,h2,Sem.run_pure,hzv]
  ·refine ⟨if ok then .tuple #[val,.bool true] else val,?_,key2 val true (by rw [h1];exact h3) (by rw [h1];rfl)⟩
   simp only [Instr.lookup,Instr.findKey,Sem.run_bind,ze ht,Result.andThen_ok,hMv,MapKept.run_getObj_map hb,zcu hkt,ze hd1,h2,Sem.run_pure,hzv]
 obtain ⟨v,hv1,hv2⟩:=hfin
 refine zN (v:=v) ?_ (.pure _ _ hv2)
 simp [execOp,hop,hv1]
theorem zh8 {d:TypeDesc} {s:Bool} {key x:PV} {u xv:Value} (hd:(s=false/\∃ k,d=.int k)\/(s=true/\d=.string)) (hu:Rep I w key u) (hx:Rep I w x xv) :
  ∀ (es es':List (PV×PV)) (ms:List MapEntry) (i:Nat),MRel I w es ms->zfB s key x es=some es' ->
   (Instr.findNow d u ms i=some none/\es'=es++[(key,x)]) \/
   ∃ j v m,Instr.findNow d u ms i=some (some (i+j,v))/\ms[j]?=some m/\m.key=u/\Instr.sameBits 10000 m.key u=true/\MRel I w es' (ms.modify j fun e=>{ e with key:=u,val:=xv })
 | [],es',[],i,_,h=>by simp [zfB] at h;exact .inl ⟨rfl,h.symm⟩
 | [],_,_::_,_,hm,_=>by have:=hm.1;simp at this
 | _::_,_,[],_,hm,_=>by have:=hm.1;simp at this
 | (k,v)::es,es',m::ms,i,hm,h=>by
  unfold zfB at h;have hh:=hm.head
  split at h
  ·rename_i hk;simp at h;subst h;obtain ⟨h1,h2⟩:=zcJ hd hk hu hh.1;obtain ⟨h3,h4⟩:=h2 rfl
   refine .inr ⟨0,m.val,m,by simp only [Instr.findNow,h1,Nat.add_zero],rfl,h3.symm,by rw [<- h3] at h4 ⊢;exact h4,?_⟩
   exact .cons hu hx hm.tail
  ·rename_i hk;have h1:=(zcJ hd hk hu hh.1).1
   split at h
   ·rename_i es2 he;simp at h;subst h;rcases zh8 hd hu hx es es2 ms (i+1) hm.tail he with ⟨h2,h3⟩|⟨j,v',m',h2,h3,h4,h5,h6⟩
    ·refine .inl ⟨by simp only [Instr.findNow,h1,h2],by rw [h3];rfl⟩
    ·refine .inr ⟨j+1,v',m',?_,by simpa using h3,h4,h5,?_⟩
     ·simp only [Instr.findNow,h1,h2]
      congr 3
      omega
     ·exact .cons hh.1 hh.2 h6
   ·simp at h
  ·simp at h
theorem zh5 (hH:HRel C S base φ H w) {id b n clock:Nat} {es es':List (PV×PV)} {ms ms':Array MapEntry} {clock':Nat} (hid:φ id=some (b,n)) (hg:H.get id=.mapo es) (hb:w.heap[b]?=some (.map ms clock))
  (h:MRel (Imm S base φ H w) w es' ms'.toList) :
  ∃ w',(setObj b (.map ms' clock')).run P w=.ok () w'/\Evo φ H w φ (H.set id (.mapo es')) w'/\HRel C S base φ (H.set id (.mapo es')) w':=by
 refine ⟨_,MapKept.run_setObj_map _ hb,?_⟩
 obtain ⟨h1,h2⟩:=MapKept.heap_set (w:=w) (o':=.map ms' clock') hb
 refine hH.write hid (by rw [hg];rfl) rfl rfl rfl (by simp) h2 (zjn h1 ?_)
 have hImm:∀ k c,Imm S base φ H w k c->c≠b:=fun k c hc e=>hc.2.2 ⟨id,n,e ▸ hid,by rw [hg];rfl⟩;exact ⟨h.1,fun j k v m hk hm=>⟨(h.2 j k v m hk hm).1.mono fun k c hc=>⟨hc,h2 c (hImm k c hc)⟩,(h.2 j k v m hk hm).2.mono fun k c hc=>⟨hc,h2 c (hImm k c hc)⟩⟩⟩
theorem zgO (hH:HRel C S base φ H w) (hE:ERel (Imm S base φ H w) φ w env a) {M K X:Operand} {m k x:Opnd} {t:TypeId} {s:Bool} (hs:zeh P t=some s) (hm:zu M=some m) (hk:zu K=some k) (hx:zu X=some x)
  (hop:o.op=.mapUpdate t M K X\/o.op=.insert t M K X) {id:Nat} {key v:PV} {es es':List (PV×PV)} (e1:m.eval env=.mapv id) (e2:k.eval env=.pure key) (e3:x.eval env=.pure v) (hg:H.get id=.mapo es) (hf:zfB s key v es=some es') :
  Ran C S base φ H w (.upd (.tup []) (H.set id (.mapo es'))) ((execOp a.eval o).run P w):=by
 obtain ⟨kt,et,ht,hkt⟩:=zfP hs;have hM:=zw hE hm;have hK:=zw hE hk;have hX:=zw hE hx;rw [e1] at hM;rw [e2] at hK;rw [e3] at hX;obtain ⟨b,n,hid,hMv⟩:=hM.mapv_inv;have ho:=hH.obj _ _ _ hid;rw [hg] at ho;obtain ⟨ms,ck,hb,hrel⟩:=zg3 ho;have hd:∃ d,P.underlying kt=some d/\((s=false/\∃ k,d=.int k)\/(s=true/\d=.string)):=by
  rcases zgE hkt with ⟨h1,k,h2⟩|⟨h1,h2⟩
  ·exact ⟨_,h2,.inl ⟨h1,k,rfl⟩⟩
  ·exact ⟨_,h2,.inr ⟨h1,rfl⟩⟩
 obtain ⟨d,hd1,hd2⟩:=hd;have hfin:∃ w',(Instr.mapUpdate t (a.eval M) (a.eval K) (a.eval X)).run P w=.ok () w'/\Evo φ H w φ (H.set id (.mapo es')) w'/\HRel C S base φ (H.set id (.mapo es')) w':=by
  rcases zh8 hd2 hK.pure_inv hX.pure_inv es es' ms.toList 0 hrel hf with ⟨h1,h2⟩|⟨j,v',m',h1,h2,h3,h4,h5⟩
  ·subst h2;obtain ⟨w',g1,g2⟩:=zh5 (C:=C) (P:=P) (es':=es++[(key,v)]) (ms':=ms.push { key:=a.eval K,val:=a.eval X,born:=ck }) (clock':=ck+1) hH hid hg hb
    ⟨by have:=hrel.1;simp at this ⊢;exact this,fun j k' v' m hk hm=>by
     have hl:=hrel.1
     by_cases hj:j < es.length
     ·rw [List.getElem?_append_left hj] at hk;rw [Array.toList_push,List.getElem?_append_left (by omega)] at hm;exact hrel.2 j k' v' m hk hm
     ·rw [List.getElem?_append_right (by omega)] at hk;rw [Array.toList_push,List.getElem?_append_right (by omega),hl] at hm
      cases hj2:j - es.length with
      | zero=>rw [hj2] at hk hm;simp at hk hm;obtain ⟨rfl,rfl⟩:=hk;subst hm;exact ⟨hK.pure_inv,hX.pure_inv⟩
      | succ i=>rw [hj2] at hk;simp at hk⟩
   refine ⟨w',?_,g2⟩
   simp only [Instr.mapUpdate,Instr.findKey,Sem.run_bind,ze ht,Result.andThen_ok,hMv,MapKept.run_getObj_map hb,zcu hkt,ze hd1,h1,Sem.run_pure,g1]
  ·obtain ⟨w',g1,g2⟩:=zh5 (C:=C) (P:=P) (es':=es') (ms':=ms.modify j fun e=>{ e with key:=a.eval K,val:=a.eval X }) (clock':=ck) hH hid hg hb (by rw [Array.toList_modify];exact h5)
   refine ⟨w',?_,g2⟩
   have hmj:ms[j]?=some m':=by simpa using h2
   simp only [Instr.mapUpdate,Instr.findKey,Sem.run_bind,ze ht,Result.andThen_ok,hMv,MapKept.run_getObj_map hb,zcu hkt,ze hd1,h1,Sem.run_pure,Nat.zero_add,hmj,Option.map_some,Option.getD_some,Instr.keyThatStays,h4,if_true,g1]
 obtain ⟨w',g1,g2,g3⟩:=hfin
 refine .inr ⟨w',?_,φ,g2,g3,.tup [] #[] rfl fun i p v h=>by simp at h⟩
 rcases hop with hop|hop<;>simp [execOp,hop,g1]
theorem zkX (hH:HRel C S base φ H w) (hE:ERel (Imm S base φ H w) φ w env a) {X:Operand} {x:Opnd} {t kt et:TypeId} {c:Call} (hx:zu X=some x) (ht:P.underlying t=some (.map kt et))
  (hop:o.op=.call c) (hc:c.callee=.builtin .len) (h1:c.args.toList=[X]) (h2:c.argTypes.toList=[t]) {id:Nat} {es:List (PV×PV)} (e1:x.eval env=.mapv id) (hg:H.get id=.mapo es) :
  Ran C S base φ H w (.val (.pure (.int .i64 es.length))) ((execOp a.eval o).run P w):=by
 have hX:=zw hE hx;rw [e1] at hX;obtain ⟨b,n,hid,hXv⟩:=hX.mapv_inv;have ho:=hH.obj _ _ _ hid;rw [hg] at ho;obtain ⟨ms,ck,hb,hrel⟩:=zg3 ho;have ha:c.args=#[X]:=by rw [<- h1]
 have hb':c.argTypes=#[t]:=by rw [<- h2]
 have hsz:ms.size=es.length:=by have:=hrel.1;simpa using this
 refine zN (v:=goInt es.length) ?_ (.pure _ _ (.int ..))
 simp only [execOp,hop,resolve,hc,invoke,builtin,ha,hb',Sem.run_bind,Sem.run_pure,Result.andThen_ok,List.map_toArray,List.map_cons,List.map_nil,Builtin.len_,List.getElem?_toArray,List.getElem?_cons_zero,ze ht,hXv,MapKept.run_getObj_map hb,hsz]
end
theorem zbD {α:Type} (sz:Nat):∀ (n:Nat) (l:List α) (i:Nat) (e:List α),(chunks sz n l)[i]?=some e->i < n/\e=(l.drop (i*sz)).take sz
 | 0,l,i,e,h=>by simp [chunks] at h
 | n+1,l,i,e,h=>by
  cases i with
  | zero=>simp [chunks] at h;exact ⟨by omega,by simp [h]⟩
  | succ i =>
   simp [chunks] at h;obtain ⟨h1,h2⟩:=zbD sz n _ i e h
   refine ⟨by omega,?_⟩
   rw [h2,List.drop_drop]
   congr 2
   rw [Nat.add_mul];omega
theorem zca {α:Type} (sz:Nat):∀ (n:Nat) (l:List α),(chunks sz n l).length=n
 | 0,l=>rfl
 | n+1,l=>by simp [chunks,zca sz n]
section
variable {C:Comp} {P:Program} {S:Bool->Nat->Prop} {base:Nat} {φ:Phi} {H:Heap} {w:World} {env:Env} {a:Act} {e:Eff} {o:Oper} {I:Bool->Nat->Prop}
theorem zaT {J:Bool->Nat->Prop} {k:Bool} {fr:AV->Option (PV×List Nat)} (hfr:∀ av p ids v,fr av=some (p,ids)->VRel I φ w av v->(∀ id∈ids,∀ b n,φ id=some (b,n)->J k b)->Rep J w p v) :
  ∀ {cs:List AV} {ps:List PV} {ids:List Nat} {vs:List Value},zK fr cs=some (ps,ids)->VRels I φ w cs vs->(∀ id∈ids,∀ b n,φ id=some (b,n)->J k b) ->
   ps.length=vs.length/\∀ (i:Nat) p v,ps[i]?=some p->vs[i]?=some v->Rep J w p v
 | [],ps,ids,vs,h,hr,hJ=>by
  simp [zK] at h;obtain ⟨rfl,rfl⟩:=h;rw [hr.nil_inv];exact ⟨rfl,fun i p v h=>by simp at h⟩
 | c::cs,ps,ids,vs,h,hr,hJ=>by
  obtain ⟨v,vs',rfl,h1,h2⟩:=hr.cons_inv;unfold zK at h
  split at h
  ·simp at h
  ·rename_i p is hp
   split at h
   ·simp at h
   ·rename_i qs js hq;simp at h;obtain ⟨rfl,rfl⟩:=h;have ih:=zaT hfr hq h2 fun id hid=>hJ id (List.mem_append_right _ hid)
    refine ⟨by simp [ih.1],fun i q u hq' hu=>?_⟩
    cases i with
    | zero =>
     simp at hq' hu;subst hq';subst hu;exact hfr c _ is _ hp h1 fun id hid=>hJ id (List.mem_append_left _ hid)
    | succ i=>simp at hq' hu;exact ih.2 i q u hq' hu
theorem zex (hH:HRel C S base φ H w) {k:Bool} {J:Bool->Nat->Prop} (hJ0:∀ k b,Imm S base φ H w k b->J k b):∀ (n:Nat) (av:AV) (p:PV) (ids:List Nat) (v:Value),freeze H k n av=some (p,ids)->VRel (Imm S base φ H w) φ w av v ->
  (∀ id∈ids,∀ b n,φ id=some (b,n)->J k b)->Rep J w p v:=by
 intro n
 induction n with
 | zero=>intro av p ids v h;simp [freeze] at h
 | succ n ih =>
  intro av p ids v h hv hJ;unfold freeze at h
  split at h
  ·simp at h;obtain ⟨rfl,rfl⟩:=h;exact hv.pure_inv.mono fun k b hb=>⟨hJ0 k b hb,rfl⟩
  ·split at h
   ·rename_i cs ps is hf;simp at h;obtain ⟨rfl,rfl⟩:=h
    cases hv with
    | agg _ vs hl hr =>
     have:=zaT ih hf (VRels.of_agg hl hr) hJ;exact .agg _ vs (by simpa using this.1) fun i p v hp hv=>this.2 i p v hp (by simpa using hv)
   ·simp at h
  ·split at h
   ·rename_i cs ps is hf;simp at h;obtain ⟨rfl,rfl⟩:=h
    cases hv with
    | tup _ vs hl hr =>
     have:=zaT ih hf (VRels.of_agg hl hr) hJ;exact .tup _ vs (by simpa using this.1) fun i p v hp hv=>this.2 i p v hp (by simpa using hv)
   ·simp at h
  ·split at h
   ·rename_i f cs ps is hf;simp at h;obtain ⟨rfl,rfl⟩:=h
    cases hv with
    | func _ _ vs hl hr =>
     have:=zaT ih hf (VRels.of_agg hl hr) hJ;exact .func _ _ vs (by simpa using this.1) fun i p v hp hv=>this.2 i p v hp (by simpa using hv)
   ·simp at h
  ·rename_i id off
   split at h
   ·rename_i own cs hg
    split at h
    ·rename_i ps is hf;simp at h;obtain ⟨rfl,rfl⟩:=h;obtain ⟨b,m,hid,rfl⟩:=hv.box_inv;have ho:=hH.obj _ _ _ hid;rw [hg] at ho;obtain ⟨c,t,fz,h1,h2,h3,h4,h5⟩:=ho;have hr:VRels (Imm S base φ H w) φ w cs (c.toList.take cs.length):=⟨by simp;omega,fun i p u hp hu=>by
      have hi:i < cs.length:=(List.getElem?_eq_some_iff.1 hp).1;rw [List.getElem?_take_of_lt hi] at hu;exact h5 i p u hp (by simpa using hu)⟩
     have:=zaT ih hf hr fun id hid=>hJ id (List.mem_cons_of_mem _ hid);have hlen:ps.length=cs.length:=by have:=this.1;simp at this;omega
     have hget:∀ (j:Nat) p,ps[j]?=some p->∃ hj:j < c.size,(c.toList.take cs.length)[j]?=some c[j]:=fun j p hp=>by
      have hj:j < ps.length:=(List.getElem?_eq_some_iff.1 hp).1
      refine ⟨by omega,?_⟩
      rw [List.getElem?_take_of_lt (by omega),Array.getElem?_toList,Array.getElem?_eq_getElem]
     refine .ptr k ps off b 0 off (fun j=>c.getD j undef) (by omega) (fun j p hp=>⟨hJ id (List.mem_cons_self ..) b m hid,?_⟩) fun j p hp=>?_
     ·obtain ⟨hj,_⟩:=hget j p hp;simp [World.cell?,h1,hj]
     ·obtain ⟨hj,hu⟩:=hget j p hp;have:=this.2 j p _ hp hu
      simpa [hj] using this
    ·simp at h
   ·simp at h
  ·rename_i id sz off len
   split at h
   ·rename_i own cs hg
    split at h
    ·rename_i ps is hf
     split at h
     ·rename_i hlen;simp at h;obtain ⟨rfl,rfl⟩:=h;obtain ⟨b,m,cap,hid,rfl,hcap,hfull⟩:=hv.row_inv;have ho:=hH.obj _ _ _ hid;rw [hg] at ho;obtain ⟨c,t,fz,h1,h2,h3,h4,h5⟩:=ho;have hr:VRels (Imm S base φ H w) φ w ((cs.drop (off*sz)).take (len*sz)) (((c.toList.take cs.length).drop (off*sz)).take (len*sz)):=by
       refine (VRels.drop ?_ _).take _
       exact ⟨by simp;omega,fun i p u hp hu=>by
        have hi:i < cs.length:=(List.getElem?_eq_some_iff.1 hp).1;rw [List.getElem?_take_of_lt hi] at hu;exact h5 i p u hp (by simpa using hu)⟩
      have:=zaT ih hf hr fun id hid=>hJ id (List.mem_cons_of_mem _ hid);have hl2:off*sz+len*sz<=cs.length\/len*sz=0:=by
       have h7:=this.1;simp at h7;omega
      have hget:∀ (i:Nat) e (j:Nat) p,(chunks sz len ps)[i]?=some e->e[j]?=some p->ps[i*sz+j]?=some p/\i*sz+j < len*sz:=fun i e j p he hp=>by
       obtain ⟨hi,rfl⟩:=zbD sz len ps i e he;have hj:j < sz:=by have:=(List.getElem?_eq_some_iff.1 hp).1;simp at this;omega
       rw [List.getElem?_take_of_lt hj,List.getElem?_drop] at hp
       refine ⟨hp,?_⟩
       have:=(List.getElem?_eq_some_iff.1 hp).1;omega
      have hval:∀ k,k < len*sz->∃ hk:off*sz+k < c.size,(((c.toList.take cs.length).drop (off*sz)).take (len*sz))[k]?=some c[off*sz+k]:=fun k hk=>by
       refine ⟨by omega,?_⟩
       rw [List.getElem?_take_of_lt hk,List.getElem?_drop,List.getElem?_take_of_lt (by omega),Array.getElem?_toList,Array.getElem?_eq_getElem]
      refine .slice k sz _ b (off*sz) len cap (fun i j=>c.getD (off*sz+(i*sz+j)) undef) (zca _ _ _) hcap (fun i e he=>?_) (fun i e j p he hp=>⟨hJ id (List.mem_cons_self ..) b m hid,?_⟩) fun i e j p he hp=>?_
      ·obtain ⟨hi,rfl⟩:=zbD sz len ps i e he;have:(i+1)*sz<=len*sz:=Nat.mul_le_mul_right _ hi;rw [Nat.add_mul] at this;simp;omega
      ·obtain ⟨hk1,hk2⟩:=hget i e j p he hp;obtain ⟨hk,_⟩:=hval _ hk2;simp [World.cell?,h1,Nat.add_assoc,hk]
      ·obtain ⟨hk1,hk2⟩:=hget i e j p he hp;obtain ⟨hk,hu⟩:=hval _ hk2;have:=this.2 _ p _ hk1 hu
       simpa [hk] using this
     ·simp at h
    ·simp at h
   ·simp at h
  ·rename_i id sz off len
   split at h
   ·rename_i own cs hg
    split at h
    ·rename_i ps is hf
     split at h
     ·rename_i hlen;simp at h;obtain ⟨rfl,rfl⟩:=h;obtain ⟨b,m,hid,rfl⟩:=hv.rowc_inv;have ho:=hH.obj _ _ _ hid;rw [hg] at ho;obtain ⟨c,t,fz,h1,h2,h3,h4,h5⟩:=ho;have hr:VRels (Imm S base φ H w) φ w ((cs.drop (off*sz)).take (len*sz)) (((c.toList.take cs.length).drop (off*sz)).take (len*sz)):=by
       refine (VRels.drop ?_ _).take _
       exact ⟨by simp;omega,fun i p u hp hu=>by
        have hi:i < cs.length:=(List.getElem?_eq_some_iff.1 hp).1;rw [List.getElem?_take_of_lt hi] at hu;exact h5 i p u hp (by simpa using hu)⟩
      have:=zaT ih hf hr fun id hid=>hJ id (List.mem_cons_of_mem _ hid);have hl2:off*sz+len*sz<=cs.length\/len*sz=0:=by
       have h7:=this.1;simp at h7;omega
      have hget:∀ (i:Nat) e (j:Nat) p,(chunks sz len ps)[i]?=some e->e[j]?=some p->ps[i*sz+j]?=some p/\i*sz+j < len*sz:=fun i e j p he hp=>by
       obtain ⟨hi,rfl⟩:=zbD sz len ps i e he;have hj:j < sz:=by have:=(List.getElem?_eq_some_iff.1 hp).1;simp at this;omega
       rw [List.getElem?_take_of_lt hj,List.getElem?_drop] at hp
       refine ⟨hp,?_⟩
       have:=(List.getElem?_eq_some_iff.1 hp).1;omega
      have hval:∀ k,k < len*sz->∃ hk:off*sz+k < c.size,(((c.toList.take cs.length).drop (off*sz)).take (len*sz))[k]?=some c[off*sz+k]:=fun k hk=>by
       refine ⟨by omega,?_⟩
       rw [List.getElem?_take_of_lt hk,List.getElem?_drop,List.getElem?_take_of_lt (by omega),Array.getElem?_toList,Array.getElem?_eq_getElem]
      refine .slice k sz _ b (off*sz) len len (fun i j=>c.getD (off*sz+(i*sz+j)) undef) (zca _ _ _) (Nat.le_refl _) (fun i e he=>?_) (fun i e j p he hp=>⟨hJ id (List.mem_cons_self ..) b m hid,?_⟩) fun i e j p he hp=>?_
      ·obtain ⟨hi,rfl⟩:=zbD sz len ps i e he;have:(i+1)*sz<=len*sz:=Nat.mul_le_mul_right _ hi;rw [Nat.add_mul] at this;simp;omega
      ·obtain ⟨hk1,hk2⟩:=hget i e j p he hp;obtain ⟨hk,_⟩:=hval _ hk2;simp [World.cell?,h1,Nat.add_assoc,hk]
      ·obtain ⟨hk1,hk2⟩:=hget i e j p he hp;obtain ⟨hk,hu⟩:=hval _ hk2;have:=this.2 _ p _ hk1 hu
       simpa [hk] using this
     ·simp at h
    ·simp at h
   ·simp at h
  ·simp at h
theorem zmp {I':Bool->Nat->Prop} {w':World} (hI:∀ b,I false b->I' false b/\w'.heap[b]?=w.heap[b]?):∀ (n:Nat) {p:PV} {v:Value},p.coldN n=true->Rep I w p v->Rep I' w' p v:=by
 intro n
 induction n with
 | zero=>intro p v hf;simp [PV.coldN] at hf
 | succ n ih =>
  intro p v hf h
  cases h with
  | int=>exact .int ..
  | bool=>exact .bool ..
  | str=>exact .str ..
  | nils=>exact .nils
  | nilp=>exact .nilp
  | nilf=>exact .nilf
  | agg cs vs hl h=>exact .agg cs vs hl fun i p v hp hv=>ih (List.all_eq_true.1 hf p (List.mem_of_getElem? hp)) (h i p v hp hv)
  | tup cs vs hl h=>exact .tup cs vs hl fun i p v hp hv=>ih (List.all_eq_true.1 hf p (List.mem_of_getElem? hp)) (h i p v hp hv)
  | func f cs vs hl h=>exact .func f cs vs hl fun i p v hp hv=>ih (List.all_eq_true.1 hf p (List.mem_of_getElem? hp)) (h i p v hp hv)
  | meth f cs vs hl h=>exact .meth f cs vs hl fun i p v hp hv=>ih (List.all_eq_true.1 hf p (List.mem_of_getElem? hp)) (h i p v hp hv)
  | slice k sz es b o len cap val hlen hc hz hm h =>
   simp only [PV.coldN,Bool.or_eq_true,Bool.and_eq_true,Bool.not_eq_true'] at hf;rcases hf with hf|⟨rfl,hf⟩
   ·have:es=[]:=by simpa using hf
    subst this;exact .slice k sz [] b o len cap val hlen hc (fun i e he=>by simp at he) (fun i e j p he=>by simp at he) (fun i e j p he=>by simp at he)
   ·refine .slice false sz es b o len cap val hlen hc hz (fun i e j p he hp=>?_) fun i e j p he hp=>?_
    ·obtain ⟨h1,h2⟩:=hm i e j p he hp;exact ⟨(hI _ h1).1,(World.cell?_of_block (a:=⟨b,o+i*sz+j,none⟩) (hI _ h1).2).trans h2⟩
    ·exact ih (List.all_eq_true.1 (List.all_eq_true.1 hf e (List.mem_of_getElem? he)) p (List.mem_of_getElem? hp)) (h i e j p he hp)
  | ptr k cs off b o o' val ho hm h =>
   simp only [PV.coldN,Bool.and_eq_true,Bool.not_eq_true'] at hf;obtain ⟨rfl,hf⟩:=hf
   refine .ptr false cs off b o o' val ho (fun j p hp=>?_) fun j p hp=>?_
   ·obtain ⟨h1,h2⟩:=hm j p hp;exact ⟨(hI _ h1).1,(World.cell?_of_block (a:=⟨b,o+j,none⟩) (hI _ h1).2).trans h2⟩
   ·exact ih (List.all_eq_true.1 hf p (List.mem_of_getElem? hp)) (h j p hp)
theorem zj8 {I':Bool->Nat->Prop} {w':World} (hI:∀ b,I false b->I' false b/\w'.heap[b]?=w.heap[b]?) {p:PV} {v:Value} (hf:p.cold=true) (h:Rep I w p v):Rep I' w' p v :=
 zmp hI _ hf h
def Fw (ro:Option Nat):Fence:={ Fence.wide with round:=ro }
def FnOk (P : Program) (f : FuncId) : Prop := ∃ fn, P.funcs[f]? = some fn /\ fn.body.isNone = false /\ (fn.name == "runtime.NumGoroutine") = false
def PReps (I:Bool->Nat->Prop) (w:World) (ps:List PV) (vs:List Value):Prop:=ps.length=vs.length/\∀ (i:Nat) p v,ps[i]?=some p->vs[i]?=some v->Rep I w p v
def ziw (P:Program) (f:FuncId) (ps:List PV) (r:PV):Prop :=
 FnOk P f/\∀ (n:Nat) (S':Bool->Nat->Prop) (w:World) (vals:List Value),(∀ k b,S' k b->b < w.heap.size)->zns w->PReps S' w ps vals ->
  CallsIn Fence.wide n P f vals.toArray w fun e w'=>∃ v,e=.returned v/\Below w.heap.size w w'/\Rep (fun k b=>(S' k b\/w.heap.size<=b)/\b < w'.heap.size) w' r v
def zjZ (C:Comp) (P:Program) (f:FuncId) (xs:List AV) (H:Heap) (r:AV) (H':Heap):Prop :=
 FnOk P f/\∀ (n:Nat) (S:Bool->Nat->Prop) (base:Nat) (φ:Phi) (w:World) (vals:List Value),HRel C S base φ H w->VRels (Imm S base φ H w) φ w xs vals ->
  CallsIn Fence.wide n P f vals.toArray w fun e w'=>∃ v φ',e=.returned v/\Evo φ H w φ' H' w'/\HRel C S base φ' H' w'/\VRel (Imm S base φ' H' w') φ' w' r v
def zly (C:Comp) (P:Program) (id:Nat) (xs:List AV) (H:Heap) (r:AV) (H':Heap):Prop :=
 ∀ (n:Nat) (S:Bool->Nat->Prop) (base:Nat) (φ:Phi) (w:World) (b m:Nat) (vals:List Value),φ id=some (b,m)->HRel C S base φ H w->VRels (Imm S base φ H w) φ w xs vals ->
  ∃ l:Loop,w.heap[b]?=some (.loop l)/\vals.length=l.params.size /\
   RoundIn Fence.wide n P b l.fn ((l.params.zip vals.toArray).foldl (fun tmps (x:Tmp×Value)=>tmps.setIfInBounds x.1 x.2) l.tmps) l.assign l.body w
    fun e w'=>∃ v φ',e=.returned v/\Evo φ H w φ' H' w'/\HRel C S base φ' H' w'/\VRel (Imm S base φ' H' w') φ' w' r v
structure CalleeOk (C:Comp) (P:Program) (cl:Callee):Prop where
 pure:∀ f ps r,cl.pure f ps=some r->ziw P f ps r
 run:∀ f xs H r H',cl.run f xs H=some (r,H')->zjZ C P f xs H r H'
 yield:∀ id xs H r H',cl.yield id xs H=some (r,H')->zly C P id xs H r H'
theorem ze4 {f:FuncId} (hf:FnOk P f) (args:Array Value):(callFunc f args).run P w=.ok (.enter f args) w:=by
 obtain ⟨fn,h1,h2,h3⟩:=hf;simp only [callFunc,Sem.run_bind,run_program,Result.andThen_ok,h1,h2,h3,Bool.false_eq_true,if_false,Sem.run_pure]
theorem zft {c:Call} {g:Operand} {f:FuncId} {first caps:Array Value} (hop:o.op=.call c) (hc:c.callee=.value g) (hg:a.eval g=.func (.func f) first caps) (hf:FnOk P f) :
  (execOp a.eval o).run P w=.ok (.enter f (first++c.args.map a.eval++caps)) w:=by
 simp only [execOp,hop,resolve,hc,hg,Deferred.ofValue,Sem.run_bind,Sem.run_pure,Result.andThen_ok,invoke];rw [ze4 hf]
theorem znN {c:Call} {g:Operand} {f:FuncId} {caps:Array Value} (hop:o.op=.call c) (hc:c.callee=.value g) (hg:a.eval g=.func (.func f) #[] caps) (hf:FnOk P f) :
  (execOp a.eval o).run P w=.ok (.enter f (c.args.map a.eval++caps)) w:=by
 rw [zft hop hc hg hf];simp
variable {ro:Option Nat} {n:Nat} {K:Act->World->Prop} {Q:Exit->Act->World->Prop}
theorem zgZ {f:FuncId} {args:Array Value} (hnd:∀ c,o.op≠.defer c) (hr:(execOp a.eval o).run P w=.ok (.enter f args) w)
  (h:CallsIn Fence.wide (n - 1) P f args w fun e w'=>∃ v,e=.returned v/\K (a.put o.dst v) w'):o.wpIn (Fw ro) n P a w K Q:=by
 refine ⟨fun _ _=>trivial,?_⟩
 rw [Oper.semAt_eq _ _ _ hnd,hr,Oper.uponIn_enter]
 refine ⟨fun hd=>by simp [Fw,Fence.wide] at hd,?_⟩
 have:=CallsIn.mono h (R':=fun
  | .returned v,w''=>K (a.put o.dst v) w''
  | .panicked chain,w''=>Q (.panic chain) a w''
  | .outgrown,_=>LetsOut Q) fun e w' ⟨v,he,hk⟩=>by subst he;exact hk
 exact this
theorem znc (hnd:∀ c,o.op≠.defer c) (hr:Ran C S base φ H w e ((execOp a.eval o).run P w)) (h:∀ v w',zdN C S base φ H w e v w'->K (a.put o.dst v) w'):o.wpIn (Fw ro) n P a w K Q:=by
 refine ⟨fun _ _=>trivial,?_⟩
 rw [Oper.semAt_eq _ _ _ hnd];rcases hr with ⟨v,w',hr,hp⟩|⟨w',hr,hp⟩
 ·rw [hr,Oper.uponIn_value];exact h v w' hp
 ·rw [hr,Oper.uponIn_skip];exact h _ w' hp
theorem Imm.of_below {w':World} (hH:HRel C S base φ H w) (hb:Below w.heap.size w w') {k:Bool} {b:Nat} (h:(Imm S base φ H w k b\/w.heap.size<=b)/\b < w'.heap.size):Imm S base φ H w' k b:=by
 obtain ⟨h1|h1,h2⟩:=h
 ·exact ⟨h1.1,h2,h1.2.2⟩
 ·refine ⟨.inr (Nat.le_trans hH.sz h1),h2,?_⟩
  rintro ⟨id,m,hid,_⟩;have:=(hH.lt _ _ _ hid).2;omega
theorem zgG (hH:HRel C S base φ H w) {ids:List Nat} {k:Bool} {id b m:Nat} (hmem:id∈ids) (hid:φ id=some (b,m)) (hc:∃ own cs,H.get id=.cells own cs):Imm S base φ (H.freeze ids) w k b:=by
 obtain ⟨own,cs,hg⟩:=hc
 refine ⟨.inr (hH.lt _ _ _ hid).1,(hH.lt _ _ _ hid).2,?_⟩
 rintro ⟨id',m',hid',hl⟩;have hget:∀ i,(H.freeze ids).get i=if ids.contains i then (H.get i).freeze else H.get i:=fun i=>zgW ids
 have hd:(H.get id).isDead=false:=by rw [hg];rfl
 have hd':(H.get id').isDead=false:=by
  rw [hget] at hl
  cases hq:H.get id'<;>rw [hq] at hl
  ·exfalso
   split at hl<;>simp [AObj.freeze,AObj.live] at hl
  ·rfl
  ·rfl
  ·rfl
  ·rfl
 have:=hH.inj _ _ _ _ _ hid' hid hd' hd;subst this;rw [hget,if_pos (by simpa using hmem),hg] at hl;simp [AObj.freeze,AObj.live] at hl
theorem zaO {fr:AV->Option (PV×List Nat)} (hfr:∀ av p ids,fr av=some (p,ids)->∀ id∈ids,∃ own cs,H.get id=.cells own cs):∀ {cs:List AV} {ps:List PV} {ids:List Nat},zK fr cs=some (ps,ids)->∀ id∈ids,∃ own cs,H.get id=.cells own cs
 | [],ps,ids,h=>by simp [zK] at h;obtain ⟨_,rfl⟩:=h;simp
 | c::cs,ps,ids,h=>by
  unfold zK at h
  split at h
  ·simp at h
  ·rename_i p is hp
   split at h
   ·simp at h
   ·rename_i qs js hq;simp at h;obtain ⟨_,rfl⟩:=h;intro id hid;rcases List.mem_append.1 hid with h1|h1
    ·exact hfr _ _ _ hp id h1
    ·exact zaO hfr hq id h1
theorem zgQ {k:Bool}:∀ (n:Nat) (av:AV) (p:PV) (ids:List Nat),freeze H k n av=some (p,ids)->∀ id∈ids,∃ own cs,H.get id=.cells own cs:=by
 intro n
 induction n with
 | zero=>intro av p ids h;simp [freeze] at h
 | succ n ih =>
  intro av p ids h;unfold freeze at h
  split at h
  ·simp at h;obtain ⟨_,rfl⟩:=h;simp
  ·split at h
   ·rename_i hf;simp at h;obtain ⟨_,rfl⟩:=h;exact zaO ih hf
   ·simp at h
  ·split at h
   ·rename_i hf;simp at h;obtain ⟨_,rfl⟩:=h;exact zaO ih hf
   ·simp at h
  ·split at h
   ·rename_i hf;simp at h;obtain ⟨_,rfl⟩:=h;exact zaO ih hf
   ·simp at h
  ·split at h
   ·rename_i own cs hg
    split at h
    ·rename_i hf;simp at h;obtain ⟨_,rfl⟩:=h;intro id hid;rcases List.mem_cons.1 hid with rfl|h1
     ·exact ⟨_,_,hg⟩
     ·exact zaO ih hf id h1
    ·simp at h
   ·simp at h
  ·split at h
   ·rename_i own cs hg
    split at h
    ·rename_i hf
     split at h
     ·simp at h;obtain ⟨_,rfl⟩:=h;intro id hid;rcases List.mem_cons.1 hid with rfl|h1
      ·exact ⟨_,_,hg⟩
      ·exact zaO ih hf id h1
     ·simp at h
    ·simp at h
   ·simp at h
  ·split at h
   ·rename_i own cs hg
    split at h
    ·rename_i hf
     split at h
     ·simp at h;obtain ⟨_,rfl⟩:=h;intro id hid;rcases List.mem_cons.1 hid with rfl|h1
      ·exact ⟨_,_,hg⟩
      ·exact zaO ih hf id h1
     ·simp at h
    ·simp at h
   ·simp at h
  ·simp at h
def zdn (S:Bool->Nat->Prop) (base:Nat) (φ:Phi) (H:Heap) (ids:List Nat) (w:World):Bool->Nat->Prop
 | true=>Imm S base φ (H.freeze ids) w true
 | false=>Imm S base φ H w false
theorem zhh {S:Bool->Nat->Prop} {ids:List Nat} {k:Bool} {b:Nat} (h:zdn S base φ H ids w k b):b < w.heap.size:=by
 cases k<;>exact h.2.1
theorem zgA {cl:Callee} (hcl:CalleeOk C P cl) (hH:HRel C S base φ H w) {c:Call} {g:Operand} {f:FuncId} {firsts:List AV} {vfirst:Array Value} {caps:List AV} {vcaps:Array Value} {args:List AV} (hop:o.op=.call c) (hc:c.callee=.value g)
  (hg:a.eval g=.func (.func f) vfirst vcaps) (hfirst:VRels (Imm S base φ H w) φ w firsts vfirst.toList) (hcaps:VRels (Imm S base φ H w) φ w caps vcaps.toList) (hargs:VRels (Imm S base φ H w) φ w args (c.args.toList.map a.eval))
  (h:(if cl.shared f then
    match cl.run f (firsts++(args++caps)) H with
    | some (v,H')=>some (.upd v H')
    | none=>none
   else
    match zK (freeze H true zab) (firsts++(args++caps)) with
    | none=>none
    | some (ps,ids) =>
     match cl.pure f ps with
     | none=>none
     | some r=>if ids.isEmpty||r.cold then some (.val (.pure r)) else some (.upd (.pure r) (H.freeze ids)):Option Eff)=some e)
  (hK:∀ v w',zdN C S base φ H w e v w'->K (a.put o.dst v) w'):o.wpIn (Fw ro) n P a w K Q:=by
 have hnd:∀ c,o.op≠.defer c:=fun c' h=>by rw [hop] at h;cases h
 have hall:=hfirst.append (hargs.append hcaps);have hvals:(vfirst.toList++(c.args.toList.map a.eval++vcaps.toList)).toArray=vfirst++c.args.map a.eval++vcaps:=by
  apply Array.ext';simp
 split at h
 ·-- with the caller's memory
  split at h
  ·rename_i v H' hr;simp at h;subst h;obtain ⟨hf,hrun⟩:=hcl.run _ _ _ _ _ hr
   refine zgZ hnd (zft hop hc hg hf) ?_
   rw [<- hvals]
   refine (hrun (n - 1) S base φ w _ hH hall).mono ?_
   rintro e w' ⟨v,φ',rfl,h1,h2,h3⟩;exact ⟨v,rfl,hK v w' ⟨φ',h1,h2,h3⟩⟩
  ·simp at h
 ·-- on data
  split at h
  ·simp at h
  ·rename_i ps ids hfz
   split at h
   ·simp at h
   ·rename_i r hr;obtain ⟨hf,hrun⟩:=hcl.pure _ _ _ hr;have hfrozen:=hH.freeze ids;have hJ:∀ id∈ids,∀ b n,φ id=some (b,n)->zdn S base φ H ids w true b:=fun id hid b m hb =>
     zgG hH hid hb (zaO (zgQ zab) hfz id hid)
    have hJ0:∀ k b,Imm S base φ H w k b->zdn S base φ H ids w k b:=fun k b hb=>by
     cases k with
     | true=>exact (hfrozen.1.imm hb).1
     | false=>exact hb
    have hps:=zaT (J:=zdn S base φ H ids w) (fun av p ids' v h1 h2 h3=>zex hH hJ0 zab av p ids' v h1 h2 h3) hfz hall hJ
    refine zgZ hnd (zft hop hc hg hf) ?_
    rw [<- hvals]
    refine (hrun (n - 1) (zdn S base φ H ids w) w _ (fun k b hb=>zhh hb) hH.globW hps).mono ?_
    rintro e' w' ⟨v,rfl,hb,hrep⟩
    refine ⟨v,rfl,hK v w' ?_⟩
    split at h
    ·rename_i hcond;simp at h;subst h
     refine ⟨hb,.pure _ _ ?_⟩
     simp only [Bool.or_eq_true] at hcond;rcases hcond with hemp|hcold
     ·have hids:ids=[]:=by simpa using hemp
      subst hids;have hHe:H.freeze []=H:=by cases H;rfl
      refine hrep.mono fun k b hb'=>⟨Imm.of_below hH hb ⟨?_,hb'.2⟩,rfl⟩
      rcases hb'.1 with h1|h1
      ·refine .inl ?_
       cases k with
       | true=>rw [<- hHe];exact h1
       | false=>exact h1
      ·exact .inr h1
     ·exact zj8 (fun b hb'=>⟨Imm.of_below hH hb hb',rfl⟩) hcold hrep
    ·simp at h;subst h;have hev:=Evo.of_below (φ:=φ) (H:=H.freeze ids) hb
     refine ⟨φ,hfrozen.1.trans hev,hfrozen.2.below hb,.pure _ _ (hrep.mono fun k b hb'=>⟨Imm.of_below hfrozen.2 hb ⟨?_,hb'.2⟩,rfl⟩)⟩
     rcases hb'.1 with h1|h1
     ·refine .inl ?_
      cases k with
      | true=>exact h1
      | false=>exact (hfrozen.1.imm h1).1
     ·exact .inr h1
theorem zh3 {cl:Callee} (hcl:CalleeOk C P cl) (hH:HRel C S base φ H w) {c:Call} {g:Operand} {f:FuncId} {caps:List AV} {vcaps:Array Value} {args:List AV} (hop:o.op=.call c) (hc:c.callee=.value g)
  (hg:a.eval g=.func (.func f) #[] vcaps) (hcaps:VRels (Imm S base φ H w) φ w caps vcaps.toList) (hargs:VRels (Imm S base φ H w) φ w args (c.args.toList.map a.eval))
  (h:(if cl.shared f then
    match cl.run f (args++caps) H with
    | some (v,H')=>some (.upd v H')
    | none=>none
   else
    match zK (freeze H true zab) (args++caps) with
    | none=>none
    | some (ps,ids) =>
     match cl.pure f ps with
     | none=>none
     | some r=>if ids.isEmpty||r.cold then some (.val (.pure r)) else some (.upd (.pure r) (H.freeze ids)):Option Eff)=some e)
  (hK:∀ v w',zdN C S base φ H w e v w'->K (a.put o.dst v) w'):o.wpIn (Fw ro) n P a w K Q:=by
 have hn:VRels (Imm S base φ H w) φ w [] (#[]:Array Value).toList:=⟨rfl,fun i p v h=>by simp at h⟩
 exact zgA (firsts:=[]) hcl hH hop hc hg hn hcaps hargs (by simpa only [List.nil_append] using h) hK
theorem zkA {I I':Bool->Nat->Prop} {w w':World} {p:PV} {v:Value} (hs:p.scalar=true) (h:Rep I w p v):Rep I' w' p v:=by
 cases h with
 | int=>exact .int ..
 | bool=>exact .bool ..
 | str=>exact .str ..
 | nils=>exact .nils
 | nilp=>exact .nilp
 | nilf=>exact .nilf
 | slice k sz es b o len cap val hlen hc hz hm h =>
  cases es with
  | nil=>exact .slice k sz [] b o len cap val hlen hc (fun i e he=>by simp at he) (fun i e j p he=>by simp at he) (fun i e j p he=>by simp at he)
  | cons=>simp [PV.scalar] at hs
 | _=>simp [PV.scalar] at hs
def zbl (φ φ':Phi) (nx:Nat) (L:List Nat):Phi:=fun i=>if i < nx then φ i else match L[i - nx]? with
 | some id=>φ' id
 | none=>none
theorem ze6 (H1:Heap):∀ (L:List Nat) (H:Heap),(H.adopt H1 L).nx=H.nx+L.length
 | [],H=>rfl
 | id::L,H=>by rw [Heap.adopt,ze6 H1 L,List.length_cons];show H.nx+1+L.length=_;omega
theorem zd9 (H1:Heap):∀ (L:List Nat) (H:Heap) (i:Nat),i < H.nx->(H.adopt H1 L).get i=H.get i
 | [],H,i,h=>rfl
 | id::L,H,i,h=>by
  rw [Heap.adopt,zd9 H1 L _ i (show i < H.nx+1 by omega),zas (by omega)]
theorem zef (H1:Heap):∀ (L:List Nat) (H:Heap) (i id:Nat),L[i]?=some id->(H.adopt H1 L).get (H.nx+i)=H1.get id
 | [],H,i,id,h=>by simp at h
 | x::L,H,0,id,h=>by
  simp at h;subst h;rw [Heap.adopt,zd9 H1 L _ _ (show H.nx+0 < H.nx+1 by omega)];exact zaG
 | x::L,H,i+1,id,h=>by
  have:=zef H1 L (H.alloc (H1.get x)) i id (by simpa using h);rw [Heap.adopt,<- this]
  congr 1
  show H.nx+(i+1)=H.nx+1+i;omega
theorem HRel.adopt {S1:Bool->Nat->Prop} {φ1:Phi} {H1:Heap} {w':World} (h:HRel C S base φ H w) (hb:Below w.heap.size w w') (h1:HRel C S1 w.heap.size φ1 H1 w') {L:List Nat} (hnd:L.Nodup)
  (hL:∀ id∈L,(∃ x,φ1 id=some x)/\∃ cs,H1.get id=.cells true cs/\cs.all AV.plain=true) :
  Evo φ H w (zbl φ φ1 H.nx L) (H.adopt H1 L) w'/\HRel C S base (zbl φ φ1 H.nx L) (H.adopt H1 L) w':=by
 have hlow:∀ i x,zbl φ φ1 H.nx L i=some x->(i < H.nx/\φ i=some x/\(H.adopt H1 L).get i=H.get i)\/(∃ j id,i=H.nx+j/\L[j]?=some id/\φ1 id=some x/\(H.adopt H1 L).get i=H1.get id):=fun i x hx=>by
  unfold zbl at hx
  split at hx
  ·rename_i hi;exact .inl ⟨hi,hx,zd9 H1 L H i hi⟩
  ·rename_i hi
   split at hx
   ·rename_i id hid;have e:i=H.nx+(i - H.nx):=by omega
    refine .inr ⟨i - H.nx,id,e,hid,hx,?_⟩
    have:=zef H1 L H (i - H.nx) id hid;rwa [<- e] at this
   ·cases hx
 have hmut:∀ c,c < w.heap.size->Mut (zbl φ φ1 H.nx L) (H.adopt H1 L) c->Mut φ H c:=by
  rintro c hc ⟨i,m,hi,hl⟩;rcases hlow i _ hi with ⟨_,h2,h3⟩|⟨j,id,_,_,h4,_⟩
  ·exact ⟨i,m,h2,by rw [<- h3];exact hl⟩
  ·have:=(h1.lt _ _ _ h4).1;omega
 have hevo:Evo φ H w (zbl φ φ1 H.nx L) (H.adopt H1 L) w' :=
  ⟨fun i x hx=>by unfold zbl;rw [if_pos (h.nx _ _ hx)];exact hx,hb.os,hb.tape,hb.output,hb.size,fun c hc _=>hb.block c hc,hmut,by rw [ze6];omega⟩
 refine ⟨hevo,Nat.le_trans h.sz hb.size,h.out,?_,?_,?_,?_,h.glob_evo hevo⟩
 ·intro i x hx;rw [ze6];rcases hlow i _ hx with ⟨h2,_⟩|⟨j,id,e,h3,_⟩
  ·omega
  ·have:=(List.getElem?_eq_some_iff.1 h3).1;omega
 ·intro i c m hx;rcases hlow i _ hx with ⟨_,h2,_⟩|⟨j,id,_,_,h4,_⟩
  ·have:=h.lt _ _ _ h2;have:=hb.size;omega
  ·have:=h1.lt _ _ _ h4;have:=h.sz;omega
 ·intro i c m hx;rcases hlow i _ hx with ⟨_,h2,h3⟩|⟨j,id,_,h5,h4,h3⟩
  ·rw [h3];exact (h.obj _ _ _ h2).mono (fun _ c hc=>hevo.imm hc) hevo.phi (hb.block c (h.lt _ _ _ h2).2)
  ·rw [h3];obtain ⟨_,cs,hg,hpl⟩:=hL id (List.mem_of_getElem? h5);have ho:=h1.obj _ _ _ h4;rw [hg] at ho ⊢;obtain ⟨c',e,fz,q1,q2,q3,q4,q5⟩:=ho
   refine ⟨c',e,fz,q1,q2,q3,q4,fun j a v ha hv=>?_⟩
   have hp:=List.all_eq_true.1 hpl a (List.mem_of_getElem? ha);have hr:=q5 j a v ha hv
   cases a<;>simp [AV.plain] at hp
   exact .pure _ _ (zkA hp hr.pure_inv)
 ·intro i j c m m' hi hj di dj;rcases hlow i _ hi with ⟨_,h2,h3⟩|⟨k,id,e1,h5,h4,h3⟩<;>rcases hlow j _ hj with ⟨_,h2',h3'⟩|⟨k',id',e1',h5',h4',h3'⟩
  ·rw [h3] at di;rw [h3'] at dj;exact h.inj _ _ _ _ _ h2 h2' di dj
  ·have:=(h.lt _ _ _ h2).2;have:=(h1.lt _ _ _ h4').1;omega
  ·have:=(h.lt _ _ _ h2').2;have:=(h1.lt _ _ _ h4).1;omega
  ·rw [h3] at di;rw [h3'] at dj;have e:=h1.inj _ _ _ _ _ h4 h4' di dj;subst e;have hk:=(List.getElem?_eq_some_iff.1 h5).1;have:k=k':=(List.getElem?_inj hk hnd).1 (h5.trans h5'.symm);omega
theorem zfF {H1:Heap} {nx:Nat} {I1 I2:Bool->Nat->Prop} {φ1:Phi} {w':World} {tk:AV->List Nat->Option (AV×List Nat)}
  (htk:∀ v L u L',tk v L=some (u,L')->(∃ T,L'=L++T/\∀ id∈T,∃ cs,H1.get id=.cells true cs/\cs.all AV.plain=true)/\(L.Nodup->L'.Nodup)/\∀ (φ2:Phi) val,VRel I1 φ1 w' v val->(∀ (j:Nat) id,L'[j]?=some id->φ2 (nx+j)=φ1 id)->VRel I2 φ2 w' u val/\∀ id∈L',id ∉ L->∃ x,φ1 id=some x) :
  ∀ (vs:List AV) (L:List Nat) (us:List AV) (L':List Nat),zeP tk vs L=some (us,L')->(∃ T,L'=L++T/\∀ id∈T,∃ cs,H1.get id=.cells true cs/\cs.all AV.plain=true)/\(L.Nodup->L'.Nodup)/\∀ (φ2:Phi) vals,VRels I1 φ1 w' vs vals->(∀ (j:Nat) id,L'[j]?=some id->φ2 (nx+j)=φ1 id)->VRels I2 φ2 w' us vals/\∀ id∈L',id ∉ L->∃ x,φ1 id=some x
 | [],L,us,L',h=>by
  simp [zeP] at h;obtain ⟨rfl,rfl⟩:=h
  refine ⟨⟨[],by simp,by simp⟩,id,fun φ2 vals hv _=>?_⟩
  rw [hv.nil_inv];exact ⟨.nil,fun id h1 h2=>absurd h1 h2⟩
 | v::vs,L,us,L',h=>by
  unfold zeP at h
  split at h
  ·simp at h
  ·rename_i u L1 h1
   split at h
   ·simp at h
   ·rename_i us' L2 h2;simp at h;obtain ⟨rfl,rfl⟩:=h;obtain ⟨⟨T1,e1,p1⟩,n1,r1⟩:=htk _ _ _ _ h1;obtain ⟨⟨T2,e2,p2⟩,n2,r2⟩:=zfF htk vs L1 us' L2 h2
    refine ⟨⟨T1++T2,by rw [e2,e1,List.append_assoc],fun id hid=>?_⟩,fun hn=>n2 (n1 hn),fun φ2 vals hv hφ=>?_⟩
    ·rcases List.mem_append.1 hid with h3|h3
     ·exact p1 id h3
     ·exact p2 id h3
    ·obtain ⟨x,xs,rfl,hx,hxs⟩:=hv.cons_inv;have hφ1:∀ (j:Nat) id,L1[j]?=some id->φ2 (nx+j)=φ1 id:=fun j id hj=>hφ j id (by
      rw [e2,List.getElem?_append_left (List.getElem?_eq_some_iff.1 hj).1];exact hj)
     obtain ⟨a1,a2⟩:=r1 φ2 x hx hφ1;obtain ⟨b1,b2⟩:=r2 φ2 xs hxs hφ
     refine ⟨.cons a1 b1,fun id h3 h4=>?_⟩
     by_cases h5:id∈L1
     ·exact a2 id h5 h4
     ·exact b2 id h3 h5
theorem zms {H1:Heap} {nx:Nat} {I1 I2:Bool->Nat->Prop} {φ1:Phi} {w':World} (hI:∀ b,I1 false b->I2 false b):∀ (n:Nat) (v:AV) (L:List Nat) (u:AV) (L':List Nat),zaH H1 nx n v L=some (u,L') ->
  (∃ T,L'=L++T/\∀ id∈T,∃ cs,H1.get id=.cells true cs/\cs.all AV.plain=true)/\(L.Nodup->L'.Nodup)/\∀ (φ2:Phi) val,VRel I1 φ1 w' v val->(∀ (j:Nat) id,L'[j]?=some id->φ2 (nx+j)=φ1 id)->VRel I2 φ2 w' u val/\∀ id∈L',id ∉ L->∃ x,φ1 id=some x:=by
 intro n
 induction n with
 | zero=>intro v L u L' h;simp [zaH] at h
 | succ n ih =>
  intro v L u L' h;unfold zaH at h
  split at h
  ·split at h
   ·rename_i hc;simp at h;obtain ⟨rfl,rfl⟩:=h
    refine ⟨⟨[],by simp,by simp⟩,id,fun φ2 val hv _=>⟨.pure _ _ (zj8 (fun b hb=>⟨hI b hb,rfl⟩) hc hv.pure_inv),fun id h1 h2=>absurd h1 h2⟩⟩
   ·simp at h
  ·rename_i id sz off len
   split at h
   ·rename_i cs hg
    split at h
    ·rename_i hc;simp at h;obtain ⟨rfl,rfl⟩:=h
     refine ⟨⟨[id],rfl,fun i hi=>by simp at hi;subst hi;exact ⟨cs,hg,hc.1⟩⟩,fun hn=>?_,fun φ2 val hv hφ=>?_⟩
     ·rw [List.nodup_append];exact ⟨hn,by simp,fun a ha b hb=>by simp at hb;subst hb;exact fun e=>hc.2 (e ▸ ha)⟩
     ·obtain ⟨b,m,cap,h1,rfl,h2,h3⟩:=hv.row_inv
      refine ⟨.row _ sz off len b m _ cap ?_ rfl h2 h3,fun i hi hn=>?_⟩
      ·rw [hφ L.length id (by simp)];exact h1
      ·rcases List.mem_append.1 hi with h4|h4
       ·exact absurd h4 hn
       ·simp at h4;subst h4;exact ⟨_,h1⟩
    ·simp at h
   ·simp at h
  ·split at h
   ·rename_i cs us L2 ht;simp at h;obtain ⟨rfl,rfl⟩:=h;obtain ⟨a1,a2,a3⟩:=zfF ih _ _ _ _ ht
    refine ⟨a1,a2,fun φ2 val hv hφ=>?_⟩
    cases hv with
    | agg _ vs hl hr =>
     obtain ⟨b1,b2⟩:=a3 φ2 vs.toList (.of_agg hl hr) hφ;exact ⟨.agg _ vs (by simpa using b1.1) fun i p v hp hv=>b1.2 i p v hp (by simpa using hv),b2⟩
   ·simp at h
  ·split at h
   ·rename_i cs us L2 ht;simp at h;obtain ⟨rfl,rfl⟩:=h;obtain ⟨a1,a2,a3⟩:=zfF ih _ _ _ _ ht
    refine ⟨a1,a2,fun φ2 val hv hφ=>?_⟩
    cases hv with
    | tup _ vs hl hr =>
     obtain ⟨b1,b2⟩:=a3 φ2 vs.toList (.of_agg hl hr) hφ;exact ⟨.tup _ vs (by simpa using b1.1) fun i p v hp hv=>b1.2 i p v hp (by simpa using hv),b2⟩
   ·simp at h
  ·simp at h
theorem zli {cl:Callee} (hcl:CalleeOk C P cl) (hH:HRel C S base φ H w) {c:Call} {g:Operand} {f:FuncId} {caps:List AV} {vcaps:Array Value} {args:List AV} (hop:o.op=.call c) (hc:c.callee=.value g)
  (hg:a.eval g=.func (.func f) #[] vcaps) (hcaps:VRels (Imm S base φ H w) φ w caps vcaps.toList) (hargs:VRels (Imm S base φ H w) φ w args (c.args.toList.map a.eval))
  (h:(match zK (freeze H true zab) (args++caps) with
    | none=>none
    | some (ps,_)=>match cl.run f (ps.map .pure) Heap.empty with
     | none=>none
     | some (v,H1)=>match zaH H1 H.nx 4 v [] with
      | none=>none
      | some (u,L)=>some (.upd u (H.adopt H1 L)):Option Eff)=some e)
  (hK:∀ v w',zdN C S base φ H w e v w'->K (a.put o.dst v) w'):o.wpIn (Fw ro) n P a w K Q:=by
 have hnd:∀ c,o.op≠.defer c:=fun c' h=>by rw [hop] at h;cases h
 have hall:=hargs.append hcaps;have hvals:((c.args.toList.map a.eval++vcaps.toList)).toArray=c.args.map a.eval++vcaps:=by
  apply Array.ext';simp
 split at h
 ·simp at h
 rename_i ps ids hfz
 split at h
 ·simp at h
 rename_i v H1 hr
 split at h
 ·simp at h
 rename_i u L ht;simp only [Option.some.injEq] at h;subst h;obtain ⟨hf,hrun⟩:=hcl.run _ _ _ _ _ hr;have hfrozen:=hH.freeze ids;have hJ:∀ id∈ids,∀ b n,φ id=some (b,n)->zdn S base φ H ids w true b:=fun id hid b m hb =>
  zgG hH hid hb (zaO (zgQ zab) hfz id hid)
 have hJ0:∀ k b,Imm S base φ H w k b->zdn S base φ H ids w k b:=fun k b hb=>by
  cases k with
  | true=>exact (hfrozen.1.imm hb).1
  | false=>exact hb
 have hps:=zaT (J:=zdn S base φ H ids w) (fun av p ids' v h1 h2 h3=>zex hH hJ0 zab av p ids' v h1 h2 h3) hfz hall hJ;have hE:HRel C (zdn S base φ H ids w) w.heap.size (fun _=>none) Heap.empty w :=
  ⟨Nat.le_refl _,fun k b hb=>zhh hb,fun id x h=>by simp at h,fun id b n h=>by simp at h,fun id b n h=>by simp at h,fun id id' b n n' h=>by simp at h,fun g hg=>⟨(hH.globW g hg).lt,hH.globW g hg⟩⟩
 have hI:∀ k b,zdn S base φ H ids w k b->Imm (zdn S base φ H ids w) w.heap.size (fun _=>none) Heap.empty w k b:=fun k b hb=>⟨.inl hb,zhh hb,fun ⟨id,m,hid,_⟩=>by simp at hid⟩
 refine zgZ hnd (znN hop hc hg hf) ?_
 rw [<- hvals]
 refine (hrun (n - 1) (zdn S base φ H ids w) w.heap.size (fun _=>none) w _ hE (VRels.pures hps.1 fun i p v hp hv=>(hps.2 i p v hp hv).mono fun k b hb=>⟨hI k b hb,rfl⟩)).mono ?_
 rintro e' w' ⟨x,φ1,rfl,hev,hH1,hv⟩;have hb:Below w.heap.size w w':=⟨hev.os,hev.tape,hev.output,hev.size,fun b hb=>hev.same b hb fun ⟨id,m,hid,_⟩=>by simp at hid⟩
 refine ⟨x,rfl,hK x w' ?_⟩
 obtain ⟨⟨T,hT,hTp⟩,hnd2,hrel⟩:=zms (I1:=Imm (zdn S base φ H ids w) w.heap.size φ1 H1 w') (I2:=Imm S base (zbl φ φ1 H.nx L) (H.adopt H1 L) w') (φ1:=φ1) (w':=w') (fun b hb'=>by
  refine ⟨?_,hb'.2.1,?_⟩
  ·rcases hb'.1 with h1|h1
   ·exact (show Imm S base φ H w false b from h1).1
   ·exact .inr (Nat.le_trans hH.sz h1)
  ·rintro ⟨i,m,hi,hl⟩;unfold zbl at hi
   split at hi
   ·rename_i hlt;rw [zd9 H1 L H i hlt] at hl;rcases hb'.1 with h1|h1
    ·exact (show Imm S base φ H w false b from h1).2.2 ⟨i,m,hi,hl⟩
    ·have:=(hH.lt _ _ _ hi).2;omega
   ·rename_i hlt
    split at hi
    ·rename_i id hid;have e:i=H.nx+(i - H.nx):=by omega
     rw [e,zef H1 L H (i - H.nx) id hid] at hl;exact hb'.2.2 ⟨id,m,hi,hl⟩
    ·cases hi) 4 v [] u L ht
 have hTL:L=T:=by simpa using hT
 obtain ⟨hval,hown⟩:=hrel (zbl φ φ1 H.nx L) x hv fun j id hj=>by
  unfold zbl;rw [if_neg (by omega),show H.nx+j - H.nx=j by omega,hj]
 have hx:=hH.adopt hb hH1 (hnd2 (by simp)) (fun id hid=>⟨hown id hid (by simp),hTp id (hTL ▸ hid)⟩);exact ⟨_,hx.1,hx.2,hval⟩
end
section
variable {C:Comp} {P:Program} {Z:List Nat} {S:Bool->Nat->Prop} {base:Nat} {φ:Phi} {H:Heap} {w:World} {env:Env} {a:Act} {e:Eff} {o:Oper} {I:Bool->Nat->Prop}
variable {ro:Option Nat} {n:Nat} {K:Act->World->Prop} {Q:Exit->Act->World->Prop}
theorem zct {x:AV} (h:zbE x=true):(∃ cs,x=.agg cs)\/∃ ps,x=.pure (.agg ps):=by
 unfold zbE at h
 split at h
 ·exact .inl ⟨_,rfl⟩
 ·exact .inr ⟨_,rfl⟩
 ·simp at h
theorem zfw (hH:HRel C S base φ H w):φ H.nx=none:=by
 cases h:φ H.nx with
 | none=>rfl
 | some x=>exact absurd (hH.nx _ _ h) (Nat.lt_irrefl _)
theorem ziS {g:Bool} {s:Nat} (h:¬ (g=false/\s≠1)):g=false->s=1:=fun hg=>by
 rcases Decidable.em (s=1) with h1|h1
 ·exact h1
 ·exact absurd ⟨hg,h1⟩ h
theorem zgo {av:AV} {r:Result Next} (h:Ran C S base φ H w (.val av) r):Ran C S base φ H w (.val .undef) r:=by
 rcases h with ⟨v,w',h1,h2,h3⟩|⟨w',h1,h2,h3⟩
 ·exact .inl ⟨v,w',h1,h2,.undef _⟩
 ·exact .inr ⟨w',h1,h2,.undef _⟩
theorem znt {cl:Callee} {vo:VOp} (hH:HRel C S base φ H w) (hE:ERel (Imm S base φ H w) φ w env a) (hc:zy P Z o=some vo) (hs:step cl env H vo=some e) (hnc:∀ f xs,vo≠.call f xs) :
  Ran C S base φ H w e ((execOp a.eval o).run P w)/\∀ c,o.op≠.defer c:=by
 unfold zy at hc
 split at hc
 ·-- move
  rename_i X hop
  cases hx:zu X with
  | none=>simp [hx] at hc
  | some x =>
   simp [hx] at hc;subst hc;simp [step] at hs;subst hs;exact ⟨zl0 hE hx (.inl hop),by simp [hop]⟩
 ·rename_i X hop
  cases hx:zu X with
  | none=>simp [hx] at hc
  | some x =>
   simp [hx] at hc;subst hc;simp [step] at hs;subst hs;exact ⟨zl0 hE hx (.inr hop),by simp [hop]⟩
 ·-- pick
  rename_i C' A B hop
  split at hc
  ·rename_i c x y h1 h2 h3;simp at hc;subst hc;simp only [step] at hs
   split at hs
   ·rename_i t ht;simp at hs;subst hs;exact ⟨zm8 hE h1 h2 h3 hop ht,by simp [hop]⟩
   ·simp at hs
  ·simp at hc
 ·-- alloc
  rename_i t hop
  cases hz:zbi P t with
  | none=>simp [hz] at hc
  | some z =>
   simp [hz] at hc;subst hc;simp [step] at hs;subst hs;exact ⟨zmb hz hop,by simp [hop]⟩
 ·-- box
  rename_i t X hop
  cases hx:zu X with
  | none=>simp only [hx,Option.map_none] at hc;(repeat' split at hc)<;>simp at hc
  | some x =>
   have hbox:vo=.box x->Ran C S base φ H w e ((execOp a.eval o).run P w)/\∀ c,o.op≠.defer c:=by
    intro h;subst h;simp [step] at hs;subst hs;exact ⟨zo9 hE hx hop,by simp [hop]⟩
   simp only [hx,Option.map_some] at hc
   split at hc
   ·split at hc
    ·simp at hc;exact hbox hc.symm
    ·simp at hc;subst hc;simp only [step] at hs
     split at hs
     ·rename_i ps hp;simp at hs;subst hs;exact ⟨znB hH hE hx hop hp,by simp [hop]⟩
     ·simp at hs
   ·simp at hc;exact hbox hc.symm
 ·-- build
  rename_i t parts hop
  split at hc
  ·rename_i z ps h1 h2
   split at hc
   ·rename_i hok;simp at hc;subst hc;simp only [step] at hs
    split at hs
    ·rename_i cs hf;simp at hs;subst hs;exact ⟨zmv hE h1 h2 hok hop hf,by simp [hop]⟩
    ·simp at hs
   ·simp at hc
  ·simp at hc
 ·-- buildSlice
  rename_i t len parts hop
  split at hc
  ·rename_i e' ht
   split at hc
   ·rename_i s z h1 h2
    split at hc
    ·rename_i hcond
     cases hp:zb4 (fun i=>some (i*s,s)) parts.toList with
     | none=>simp [hp] at hc
     | some ps =>
      simp [hp] at hc;subst hc;simp only [step] at hs
      split at hs
      ·rename_i cs hf;simp only [Option.some.injEq] at hs;subst hs;exact ⟨zht hE ht h1 h2 hcond.1 hcond.2.1 hcond.2.2 hp hop hf,by simp [hop]⟩
      ·simp at hs
    ·simp at hc
   ·simp at hc
  ·simp at hc
 ·-- load
  rename_i t X hop
  split at hc
  ·rename_i g s x h1 h2 h3
   split at hc
   ·simp at hc
   ·rename_i hg;simp at hc;subst hc;simp only [step] at hs
    split at hs
    ·rename_i cs hl
     cases ho:zae g cs with
     | none=>simp [ho] at hs
     | some av =>
      simp [ho] at hs;subst hs;exact ⟨znQ hH hE h3 h1 h2 (ziS hg) hop hl ho,by simp [hop]⟩
    ·simp at hs
  ·simp at hc
 ·-- store
  rename_i t A X hop
  split at hc
  ·rename_i s x y h1 h2 h3
   split at hc
   ·simp at hc
   ·rename_i h0;simp at hc;subst hc;simp only [step] at hs
    split at hs
    ·rename_i id off hb
     split at hs
     ·rename_i ds hg
      split at hs
      ·rename_i hcond;simp only [Option.some.injEq] at hs;subst hs;exact ⟨zmW hH hE h2 h3 h1 h0 hop hb hg hcond.1 hcond.2.2.1 hcond.2.2.2,by simp [hop]⟩
      ·simp at hs
     ·simp at hs
    ·simp at hs
  ·simp at hc
 ·-- nilCheck
  rename_i X hop
  cases hx:zu X with
  | none=>simp [hx] at hc
  | some x =>
   simp [hx] at hc;subst hc;simp only [step] at hs
   split at hs
   ·rename_i h1;simp at hs;subst hs;exact ⟨zeO hE hx hop (.inl h1),by simp [hop]⟩
   ·rename_i h1 _;simp at hs;subst hs;exact ⟨zeO hE hx hop (.inr h1),by simp [hop]⟩
   ·simp at hs
 ·-- binOp
  rename_i op t X Y t' hop
  split at hc
  ·rename_i x y d h1 h2 h3;have plain:∀ k,kOf P t k->vo=.bin op k x y->Ran C S base φ H w e ((execOp a.eval o).run P w)/\∀ c,o.op≠.defer c:=by
    intro k hk hvo;subst hvo;simp only [step] at hs
    cases hv:vbin op k (x.eval env) (y.eval env) with
    | none=>simp [hv] at hs
    | some av =>
     simp [hv] at hs;subst hs;exact ⟨zoN hE h1 h2 hk hop hv,by simp [hop]⟩
   split at hc
   ·rename_i fs
    split at hc
    ·rename_i ls hls
     split at hc
     ·rename_i s hsz;have main:∀ neg,vo=.aggEq neg s ls x y->((op=.eql/\neg=false)\/(op=.neq/\neg=true))->Ran C S base φ H w e ((execOp a.eval o).run P w)/\∀ c,o.op≠.defer c:=by
       intro neg hvo hneg;subst hvo;simp only [step] at hs
       split at hs
       ·rename_i hcond
        split at hs
        ·rename_i b hb;simp at hs;subst hs;have:=zl8 (C:=C) (P:=P) hE h1 h2 h3 hls hsz hop (hneg.imp And.left And.left) (zct hcond.1) (zct hcond.2.1) hcond.2.2.1 hcond.2.2.2 hb;have hn:(op == .neq)=neg:=by rcases hneg with ⟨rfl,rfl⟩|⟨rfl,rfl⟩<;>rfl
         rw [hn] at this;exact ⟨this,by simp [hop]⟩
        ·simp at hs
       ·simp at hs
      split at hc
      ·rename_i heq;simp at hc;exact main false hc.symm (.inl ⟨heq,rfl⟩)
      ·split at hc
       ·rename_i heq;simp at hc;exact main true hc.symm (.inr ⟨heq,rfl⟩)
       ·simp at hc
     ·simp at hc
    ·simp at hc
   ·rename_i k;simp at hc;exact plain .num (.inl ⟨k,h3⟩) hc.symm
   ·simp at hc;exact plain .num (.inr h3) hc.symm
   ·simp at hc;exact plain .bool h3 hc.symm
   ·rename_i el;simp at hc;exact plain .slice ⟨el,h3⟩ hc.symm
   ·rename_i el;simp at hc;exact plain .pointer ⟨el,h3⟩ hc.symm
   ·rename_i f1 f2 f3;simp at hc;exact plain .func ⟨f1,f2,f3,h3⟩ hc.symm
   ·simp at hc
  ·simp at hc
 ·-- unOp
  rename_i op t X hop
  cases hx:zu X with
  | none=>simp [hx] at hc
  | some x =>
   simp [hx] at hc;subst hc;simp only [step] at hs
   cases hv:vun op (x.eval env) with
   | none=>simp [hv] at hs
   | some av =>
    simp [hv] at hs;subst hs;exact ⟨zqk hE hx hop hv,by simp [hop]⟩
 ·-- convert
  rename_i src dst X hop
  split at hc
  ·rename_i k0 k x h1 h2 h3;simp at hc;subst hc;simp only [step] at hs
   split at hs
   ·rename_i k2 m e2;simp at hs;subst hs;exact ⟨zmN hE h3 h1 h2 hop e2,by simp [hop]⟩
   ·simp at hs
  ·rename_i x h1 h2 h3;simp at hc;subst hc;simp only [step] at hs
   split at hs
   ·rename_i b e2;simp at hs;subst hs;exact ⟨zi1 hE h3 h1 h2 hop e2,by simp [hop]⟩
   ·simp at hs
  ·rename_i el x h1 h2 h3
   split at hc
   ·rename_i h4 h5;simp at hc;subst hc;simp only [step] at hs
    split at hs
    ·rename_i b e2;simp only [Option.some.injEq] at hs;subst hs;exact ⟨zjl hE h3 h1 h2 h4 h5 hop e2,by simp [hop]⟩
    ·simp at hs
   ·simp at hc
  ·rename_i el x h1 h2 h3
   split at hc
   ·rename_i h4;simp at hc;subst hc;simp only [step] at hs
    split at hs
    ·rename_i cs m e2
     split at hs
     ·rename_i bs e3;simp only [Option.some.injEq] at hs;subst hs;exact ⟨zl4 hH hE h3 h1 h2 h4 hop e2 e3,by simp [hop]⟩
     ·simp at hs
    ·simp at hs
   ·simp at hc
  ·simp at hc
 ·-- makeFunc
  rename_i f first caps hop
  split at hc
  ·rename_i h0
   cases hx:zbh caps.toList with
   | none=>simp [hx] at hc
   | some xs =>
    simp [hx] at hc;subst hc;simp [step] at hs;subst hs;exact ⟨zi0 hE h0 hx hop,by simp [hop]⟩
  ·split at hc
   ·rename_i h0
    cases hx:zbh first.toList with
    | none=>simp [hx] at hc
    | some xs =>
     simp [hx] at hc;subst hc;simp only [step] at hs
     split at hs
     ·rename_i ps hp;simp only [Option.some.injEq] at hs;subst hs;exact ⟨ziX hE h0 hx hop hp,by simp [hop]⟩
     ·simp at hs
   ·simp at hc
 ·-- makeSlice
  rename_i t X Y hop
  split at hc
  ·rename_i el ht
   split at hc
   ·rename_i s b z x y h1 h2 h3 h4 h5
    split at hc
    ·rename_i hcond;simp at hc;subst hc;simp only [step] at hs
     split at hs
     ·rename_i k1 p k2 q e1 e2
      split at hs
      ·rename_i hcc;simp only [Option.some.injEq] at hs;subst hs;obtain ⟨c1,rfl,c3,c4,c5⟩:=hcc;exact ⟨zhv hE h4 h5 ht h1 h2 h3 hcond.1 hcond.2 hop e1 e2 c1 c4 c5,by simp [hop]⟩
      ·simp at hs
     ·simp at hs
    ·simp at hc
   ·simp at hc
  ·simp at hc
 ·-- slice
  rename_i t X lo hi hop
  split at hc
  ·rename_i el x lo' hi' ht h1 h2 h3
   cases hs':zR P el with
   | none=>simp [hs'] at hc
   | some sz =>
    simp [hs'] at hc;subst hc;simp only [step] at hs
    split at hs
    ·rename_i e1
     split at hs
     ·rename_i h b1
      split at hs
      ·rename_i l b2;simp at hs;subst hs;exact ⟨zhA hE h1 ht hs' h2 h3 hop e1 b1 b2,by simp [hop]⟩
      ·simp at hs
     ·simp at hs
    ·rename_i kk s es e1
     split at hs
     ·rename_i hss;subst hss
      split at hs
      ·rename_i h b1
       split at hs
       ·rename_i l b2;simp at hs;subst hs;exact ⟨zg6 hE h1 ht hs' h2 h3 hop e1 b1 b2,by simp [hop]⟩
       ·simp at hs
      ·simp at hs
     ·simp at hs
    ·rename_i id s off len e1
     split at hs
     ·rename_i hss;subst hss
      split at hs
      ·rename_i N hN
       split at hs
       ·rename_i h b1
        split at hs
        ·rename_i l b2;simp only [Option.some.injEq] at hs;subst hs;exact ⟨zhu hH hE h1 ht hs' h2 h3 hop e1 hN b1 b2,by simp [hop]⟩
        ·simp at hs
       ·simp at hs
      ·simp at hs
     ·simp at hs
    ·simp at hs
  ·rename_i x lo' hi' ht h1 h2 h3;simp at hc;subst hc;simp only [step] at hs
   split at hs
   ·rename_i s e1
    split at hs
    ·rename_i h b1
     split at hs
     ·rename_i l b2;simp at hs;subst hs;exact ⟨zkt hE h1 ht h2 h3 hop e1 b1 b2,by simp [hop]⟩
     ·simp at hs
    ·simp at hs
   ·simp at hs
  ·simp at hc
 ·-- slice3
  rename_i t X lo Y Z hop
  split at hc
  ·rename_i el x lo' y z ht h1 h2 h3 h4
   cases hs':zR P el with
   | none=>simp [hs'] at hc
   | some sz =>
    simp [hs'] at hc;subst hc;simp only [step] at hs
    split at hs
    ·rename_i len e1
     split at hs
     ·rename_i m b0
      split at hs
      ·rename_i h b1
       split at hs
       ·rename_i l b2;simp only [Option.some.injEq] at hs;subst hs;exact ⟨zk1 hE h1 h3 h4 ht hs' h2 hop e1 b0 b1 b2,by simp [hop]⟩
       ·simp at hs
      ·simp at hs
     ·simp at hs
    ·simp at hs
  ·simp at hc
 ·-- fieldAddr
  rename_i t X i hop
  split at hc
  ·rename_i fs x ht h1
   split at hc
   ·rename_i f hf
    split at hc
    ·rename_i s hsz
     split at hc
     ·simp at hc
     ·rename_i h0;simp at hc;subst hc;simp only [step] at hs
      split at hs
      ·rename_i kk cs q e1;simp at hs;subst hs;exact ⟨zeq hE h1 ht hf hsz h0 hop (.inl ⟨kk,cs,q,e1,rfl⟩),by simp [hop]⟩
      ·rename_i id q e1;simp at hs;subst hs;exact ⟨zeq hE h1 ht hf hsz h0 hop (.inr ⟨id,q,e1,rfl⟩),by simp [hop]⟩
      ·simp at hs
    ·simp at hc
   ·simp at hc
  ·simp at hc
 ·-- field
  rename_i t X i hop
  split at hc
  ·rename_i fs x ht h1
   split at hc
   ·rename_i f hf
    split at hc
    ·rename_i s g hsz hg
     split at hc
     ·simp at hc
     ·rename_i h0;simp at hc;subst hc;simp only [step] at hs
      split at hs
      ·rename_i hcond
       cases ho:zae g (((x.eval env).cells.drop f.offset).take s) with
       | none=>simp [ho] at hs
       | some av =>
        simp [ho] at hs;subst hs;exact ⟨zmw hE h1 ht hf hsz hg (ziS h0) hop (zct hcond.1) hcond.2 ho,by simp [hop]⟩
      ·simp at hs
    ·simp at hc
   ·simp at hc
  ·simp at hc
 ·-- indexAddr
  rename_i t X Y hop
  split at hc
  ·rename_i len el x y ht h1 h2
   cases hsz:zR P el with
   | none=>simp [hsz] at hc
   | some s =>
    simp [hsz] at hc;subst hc;simp only [step] at hs
    split at hs
    ·rename_i k m e1
     split at hs
     ·rename_i h0
      split at hs
      ·rename_i hlt
       split at hs
       ·rename_i kk cs q e2;simp at hs;subst hs;exact ⟨zc5 hE h1 h2 ht hsz hop e1 h0 hlt (.inl ⟨kk,cs,q,e2,rfl⟩),by simp [hop]⟩
       ·rename_i id q e2;simp at hs;subst hs;exact ⟨zc5 hE h1 h2 ht hsz hop e1 h0 hlt (.inr ⟨id,q,e2,rfl⟩),by simp [hop]⟩
       ·simp at hs
      ·simp at hs
     ·simp at hs
    ·simp at hs
  ·rename_i el x y ht h1 h2
   cases hsz:zR P el with
   | none=>simp [hsz] at hc
   | some s =>
    simp [hsz] at hc;subst hc;simp only [step] at hs
    split at hs
    ·rename_i k m e1
     split at hs
     ·rename_i h0
      split at hs
      ·rename_i kk s' es e2
       split at hs
       ·rename_i hss;subst hss
        split at hs
        ·rename_i el' e3;simp at hs;subst hs;exact ⟨zdq hE h1 h2 ht hsz hop e1 h0 (.inl ⟨kk,es,el',e2,e3,rfl⟩),by simp [hop]⟩
        ·simp at hs
       ·simp at hs
      ·rename_i id s' off len e2
       split at hs
       ·rename_i hcond;obtain ⟨hss,hlt⟩:=hcond;subst hss;simp at hs;subst hs;exact ⟨zdq hE h1 h2 ht hsz hop e1 h0 (.inr ⟨id,off,len,e2,hlt,rfl⟩),by simp [hop]⟩
       ·simp at hs
      ·simp at hs
     ·simp at hs
    ·simp at hs
  ·simp at hc
 ·-- index
  rename_i t X Y hop
  split at hc
  ·rename_i len el x y ht h1 h2
   split at hc
   ·rename_i s g hsz hg
    split at hc
    ·simp at hc
    ·rename_i h0;simp at hc;subst hc;simp only [step] at hs
     split at hs
     ·rename_i k m e1
      split at hs
      ·rename_i hcond
       cases ho:zae g (((x.eval env).cells.drop (m.toNat*s)).take s) with
       | none=>simp [ho] at hs
       | some av =>
        simp [ho] at hs;subst hs;exact ⟨zmG hE h1 h2 ht hsz hg (ziS h0) hop (zct hcond.1) e1 hcond.2.1 hcond.2.2.1 hcond.2.2.2 ho,by simp [hop]⟩
      ·simp at hs
     ·simp at hs
   ·simp at hc
  ·rename_i x y ht h1 h2;simp at hc;subst hc;simp only [step] at hs
   split at hs
   ·rename_i s k m e1 e2
    split at hs
    ·rename_i h0
     split at hs
     ·rename_i b hb;simp at hs;subst hs;exact ⟨zkV hE h1 h2 ht hop e1 e2 h0 hb,by simp [hop]⟩
     ·simp at hs
    ·simp at hs
   ·simp at hs
  ·simp at hc
 ·-- extract
  rename_i X i hop
  cases hx:zu X with
  | none=>simp only [hx,Option.map_none] at hc;(repeat' split at hc)<;>simp at hc
  | some x =>
   have hplain:vo=.extract i x->Ran C S base φ H w e ((execOp a.eval o).run P w)/\∀ c,o.op≠.defer c:=by
    intro h;subst h;simp only [step] at hs
    split at hs
    ·rename_i vs e1
     split at hs
     ·rename_i v e2;simp at hs;subst hs;exact ⟨zcX hE hx hop (.inl ⟨vs,e1,v,e2,rfl⟩),by simp [hop]⟩
     ·simp at hs
    ·rename_i vs e1
     split at hs
     ·rename_i v e2;simp at hs;subst hs;exact ⟨zcX hE hx hop (.inr ⟨vs,e1,e2⟩),by simp [hop]⟩
     ·simp at hs
    ·simp at hs
   simp only [hx,Option.map_some] at hc
   split at hc
   ·split at hc
    ·simp at hc;subst hc;simp only [step] at hs
     split at hs
     ·rename_i vs e1
      split at hs
      ·rename_i v e2;simp only [Option.some.injEq] at hs;subst hs;exact ⟨zgo (zcX hE hx hop (.inl ⟨vs,e1,v,e2,rfl⟩)),by simp [hop]⟩
      ·simp at hs
     ·rename_i vs e1
      split at hs
      ·rename_i v e2;simp only [Option.some.injEq] at hs;subst hs;exact ⟨zgo (zcX hE hx hop (.inr ⟨vs,e1,e2⟩)),by simp [hop]⟩
      ·simp at hs
     ·simp at hs
    ·simp at hc;exact hplain hc.symm
   ·simp at hc;exact hplain hc.symm
 ·-- call
  rename_i c hop
  split at hc
  ·split at hc
   ·simp at hc;exact absurd hc.symm (hnc _ _)
   ·simp at hc
  ·-- len
   rename_i hcal
   split at hc
   ·rename_i X t ha hb
    split at hc
    ·rename_i x len el h1 h2;simp at hc;subst hc;simp [step] at hs;subst hs;exact ⟨zjP hE h1 h2 hop hcal ha hb,by simp [hop]⟩
    ·rename_i x h1 h2;simp at hc;subst hc;simp only [step] at hs
     split at hs
     ·rename_i s e1;simp only [Option.some.injEq] at hs;subst hs;exact ⟨zgb hE h1 (.inl h2) hop hcal ha hb (.inl ⟨h2,s,e1,rfl⟩),by simp [hop]⟩
     ·simp at hs
    ·rename_i x el h1 h2;simp at hc;subst hc;simp only [step] at hs
     split at hs
     ·rename_i e1;simp only [Option.some.injEq] at hs;subst hs;exact ⟨zgb hE h1 (.inr ⟨_,h2⟩) hop hcal ha hb (.inr ⟨⟨_,h2⟩,.inl ⟨e1,rfl⟩⟩),by simp [hop]⟩
     ·rename_i kk s es e1;simp only [Option.some.injEq] at hs;subst hs;exact ⟨zgb hE h1 (.inr ⟨_,h2⟩) hop hcal ha hb (.inr ⟨⟨_,h2⟩,.inr (.inl ⟨kk,s,es,e1,rfl⟩)⟩),by simp [hop]⟩
     ·rename_i id s off m e1;simp only [Option.some.injEq] at hs;subst hs;exact ⟨zgb hE h1 (.inr ⟨_,h2⟩) hop hcal ha hb (.inr ⟨⟨_,h2⟩,.inr (.inr ⟨id,s,off,e1⟩)⟩),by simp [hop]⟩
     ·simp at hs
    ·rename_i x kt et h1 h2;simp at hc;subst hc;simp only [step] at hs
     split at hs
     ·rename_i id e1
      split at hs
      ·rename_i es hg;simp only [Option.some.injEq] at hs;subst hs;exact ⟨zkX hH hE h1 h2 hop hcal ha hb e1 hg,by simp [hop]⟩
      ·simp at hs
     ·simp at hs
    ·simp at hc
   ·simp at hc
  ·-- cap
   rename_i hcal
   split at hc
   ·rename_i X t ha hb
    split at hc
    ·rename_i x el h1 h2;simp at hc;subst hc;simp only [step] at hs
     split at hs
     ·rename_i e1;simp only [Option.some.injEq] at hs;subst hs;exact ⟨zoG hE h1 h2 hop hcal ha hb e1,by simp [hop]⟩
     ·simp at hs
    ·simp at hc
   ·simp at hc
  ·-- append
   rename_i hcal
   split at hc
   ·rename_i X Y t u ha hb
    split at hc
    ·rename_i x y el el' h1 h2 h3 h4
     split at hc
     ·rename_i s b s' z h5 h6 h7 h8
      split at hc
      ·rename_i hcond;simp at hc;subst hc;obtain ⟨c1,rfl,c3,c4⟩:=hcond;simp only [step] at hs;exact ⟨zlp hH hE h1 h2 ⟨⟨el,el',h3,h4,h5,h6,z,h8,c3⟩,c1,c4⟩ hop hcal ha hb (zfw hH) hs,by simp [hop]⟩
      ·simp at hc
     ·simp at hc
    ·rename_i x y el k0 h1 h2 h3 h4
     split at hc
     ·rename_i s b z h5 h6 h7
      split at hc
      ·rename_i hcond;simp at hc;subst hc;simp only [step] at hs
       split at hs
       ·rename_i k n e1 e2
        split at hs
        ·rename_i hb'
         refine ⟨zi7 hE h1 h2 h3 h4 h5 h6 h7 hcond.1 hcond.2.1 hcond.2.2 hop hcal ha hb e1 e2 hb'.1 hb'.2.2.1 hb'.2.2.2 ?_,by simp [hop]⟩
         split at hs
         ·rename_i h0;simp at hs;exact .inl ⟨h0,hs.symm⟩
         ·rename_i h0;simp only [Option.some.injEq] at hs;exact .inr ⟨h0,hs.symm⟩
        ·simp at hs
       ·simp at hs
      ·simp at hc
     ·simp at hc
    ·simp at hc
   ·simp at hc
  ·-- max
   rename_i hcal
   cases hx:zbh c.args.toList with
   | none=>simp [hx] at hc
   | some xs =>
    simp [hx] at hc;subst hc;simp only [step] at hs
    split at hs
    ·rename_i k p rest e1
     cases hm:zbS true k p rest with
     | none=>simp [hm] at hs
     | some m =>
      simp [hm] at hs;subst hs;exact ⟨zgJ (mx:=true) hE hx hop hcal e1 hm,by simp [hop]⟩
    ·simp at hs
  ·rename_i hcal
   cases hx:zbh c.args.toList with
   | none=>simp [hx] at hc
   | some xs =>
    simp [hx] at hc;subst hc;simp only [step] at hs
    split at hs
    ·rename_i k p rest e1
     cases hm:zbS false k p rest with
     | none=>simp [hm] at hs
     | some m =>
      simp [hm] at hs;subst hs;exact ⟨zgJ (mx:=false) hE hx hop hcal e1 hm,by simp [hop]⟩
    ·simp at hs
  ·-- clear
   rename_i hcal
   split at hc
   ·rename_i X t ha hb
    split at hc
    ·rename_i x el h1 h2
     split at hc
     ·rename_i s z h3 h4
      split at hc
      ·rename_i hcond;simp at hc;subst hc;simp only [step] at hs
       refine ⟨zmV hH hE h1 h2 h3 h4 hcond.1 hcond.2 hop hcal ha hb ?_,by simp [hop]⟩
       split at hs
       ·rename_i e1;simp only [Option.some.injEq] at hs;exact .inl ⟨e1,hs.symm⟩
       ·rename_i id sz off len e1
        split at hs
        ·rename_i hz
         split at hs
         ·rename_i ds hg
          split at hs
          ·rename_i hle;simp only [Option.some.injEq] at hs;have hszs:sz=s:=by rw [<- hz];exact hcond.2
           subst hszs;exact .inr ⟨id,off,len,ds,e1,hg,hle,hs.symm⟩
          ·simp at hs
         ·simp at hs
        ·simp at hs
       ·simp at hs
      ·simp at hc
     ·simp at hc
    ·simp at hc
   ·simp at hc
  ·simp at hc
 ·-- makeMap
  rename_i t hop;simp at hc;subst hc;simp [step] at hs;subst hs;exact ⟨zjD hop,by simp [hop]⟩
 ·-- lookup
  rename_i t M K ok hop
  split at hc
  ·rename_i str z m k h1 h2 h3 h4;simp at hc;subst hc;simp only [step] at hs
   split at hs
   ·rename_i id key e1 e2
    split at hs
    ·rename_i es hg
     split at hs
     ·rename_i v hf;simp only [Option.some.injEq] at hs;subst hs;exact ⟨zgX hH hE h1 h2 h3 h4 hop e1 e2 hg hf,by simp [hop]⟩
     ·rename_i hf;simp only [Option.some.injEq] at hs;subst hs;exact ⟨zgX hH hE h1 h2 h3 h4 hop e1 e2 hg hf,by simp [hop]⟩
     ·simp at hs
    ·simp at hs
   ·simp at hs
  ·simp at hc
 ·-- mapUpdate
  rename_i t M K X hop
  split at hc
  ·rename_i str m k x h1 h2 h3 h4;simp at hc;subst hc;simp only [step] at hs
   split at hs
   ·rename_i id key v e1 e2 e3
    split at hs
    ·rename_i es hg
     split at hs
     ·rename_i es' hf;simp only [Option.some.injEq] at hs;subst hs;exact ⟨zgO hH hE h1 h2 h3 h4 (.inl hop) e1 e2 e3 hg hf,by simp [hop]⟩
     ·simp at hs
    ·simp at hs
   ·simp at hs
  ·simp at hc
 ·-- insert
  rename_i t M K X hop
  split at hc
  ·rename_i str m k x h1 h2 h3 h4;simp at hc;subst hc;simp only [step] at hs
   split at hs
   ·rename_i id key v e1 e2 e3
    split at hs
    ·rename_i es hg
     split at hs
     ·rename_i es' hf;simp only [Option.some.injEq] at hs;subst hs;exact ⟨zgO hH hE h1 h2 h3 h4 (.inr hop) e1 e2 e3 hg hf,by simp [hop]⟩
     ·simp at hs
    ·simp at hs
   ·simp at hs
  ·simp at hc
 ·simp at hc
theorem ze9 {f:Opnd} {xs:List Opnd} (hc:zy P Z o=some (.call f xs)):∃ c g,o.op=.call c/\c.callee=.value g/\zu g=some f/\zbh c.args.toList=some xs:=by
 unfold zy at hc
 split at hc
 case h_23 =>
  rename_i c hop
  split at hc
  ·rename_i g hcal
   split at hc
   ·rename_i f' xs' h1 h2;simp at hc;obtain ⟨rfl,rfl⟩:=hc;exact ⟨c,g,hop,hcal,h1,h2⟩
   ·simp at hc
  all_goals
   exfalso
   revert hc
   (repeat' split)<;>simp
 all_goals
  exfalso
  revert hc
  (repeat' split)<;>simp
theorem zaY {cl:Callee} {vo:VOp} (hcl:CalleeOk C P cl) (hH:HRel C S base φ H w) (hE:ERel (Imm S base φ H w) φ w env a) (hc0:vo=(zy P Z o).getD .stuck) (hs:step cl env H vo=some e)
  (hK:∀ v w',zdN C S base φ H w e v w'->K (a.put o.dst v) w'):o.wpIn (Fw ro) n P a w K Q:=by
 have hc:zy P Z o=some vo:=by
  cases h:zy P Z o with
  | none =>
   rw [h] at hc0;subst hc0;simp [step] at hs
  | some v =>
   rw [h] at hc0;rw [hc0];rfl
 by_cases hcall:∃ f xs,vo=.call f xs
 ·obtain ⟨f,xs,rfl⟩:=hcall;obtain ⟨c,g,hop,hcal,h1,h2⟩:=ze9 hc;have hf:=zw hE h1;have hxs:=zcC hE h2;simp only [step,zM] at hs
  split at hs
  ·rename_i g' caps e1;rw [e1] at hf;obtain ⟨vs,hg,hl,hr⟩:=hf.pure_inv.func_inv;exact zh3 hcl hH hop hcal hg (VRels.pures (by simpa using hl) fun i p v hp hv=>hr i p v hp (by simpa using hv)) hxs hs hK
  ·rename_i g' caps e1;rw [e1] at hf;obtain ⟨vs,hg,hl,hr⟩:=hf.func_inv;exact zh3 hcl hH hop hcal hg (VRels.of_agg hl hr) hxs hs hK
  ·rename_i g' first e1
   rw [e1] at hf;obtain ⟨vs,hg,hl,hr⟩:=hf.pure_inv.meth_inv;exact zgA hcl hH hop hcal hg (VRels.pures (by simpa using hl) fun i p v hp hv=>hr i p v hp (by simpa using hv)) (caps:=[]) ⟨rfl,fun i p v h=>by simp at h⟩ hxs hs hK
  ·rename_i id e1;rw [e1] at hf;obtain ⟨b,m,hid,hg⟩:=hf.yield_inv
   split at hs
   ·rename_i v H' hy;simp at hs;subst hs;obtain ⟨l,hl,hlen,hround⟩:=hcl.yield _ _ _ _ _ hy (n - 1) S base φ w b m _ hid hH hxs;have hnd:∀ c,o.op≠.defer c:=by simp [hop]
    refine ⟨fun _ _=>trivial,?_⟩
    have hrun:(execOp a.eval o).run P w=.ok (.round b l.fn ((l.params.zip (c.args.toList.map a.eval).toArray).foldl (fun tmps (x:Tmp×Value)=>tmps.setIfInBounds x.1 x.2) l.tmps) l.assign l.body) w:=by
     have hobj:(getObj b).run P w=.ok (.loop l) w:=by
      simp only [getObj,Sem.run,hl]
     have hargs:(c.args.toList.map a.eval).toArray=c.args.map a.eval:=by apply Array.ext';simp
     simp only [execOp,hop,resolve,hcal,hg,Deferred.ofValue,Sem.run_bind,Sem.run_pure,Result.andThen_ok,invoke,Instr.yield,Instr.getLoop,hobj];rw [if_neg (by simp at hlen ⊢;omega)];rw [hargs];simp
    rw [Oper.semAt_eq _ _ _ hnd,hrun,Oper.uponIn_round]
    refine ⟨fun hd=>by simp [Fw,Fence.wide] at hd,?_⟩
    have:=RoundIn.mono hround (R':=fun
     | .returned v,w''=>K (a.put o.dst v) w''
     | .panicked chain,w''=>Q (.panic chain) a w''
     | .outgrown,_=>LetsOut Q) fun e w' ⟨v,φ',he,h1,h2,h3⟩=>by subst he;exact hK v w' ⟨φ',h1,h2,h3⟩
    exact this
   ·simp at hs
  ·simp at hs
 ·have hnc:∀ f xs,vo≠.call f xs:=fun f xs h=>hcall ⟨f,xs,h⟩;obtain ⟨h1,h2⟩:=znt hH hE hc hs hnc;exact znc h2 h1 hK
theorem zeC {s:Nat} (hc:zy P Z o=some (.buildSlice s [] [])):∃ t e parts,o.op=.buildSlice t 0 parts/\parts.toList=[]/\P.underlying t=some (.slice e)/\zR P e=some s/\0 < s:=by
 unfold zy at hc
 split at hc
 case h_7 =>
  rename_i t len parts hop
  split at hc
  ·rename_i e ht
   split at hc
   ·rename_i s' z h1 h2
    split at hc
    ·rename_i hcond
     cases hp:zb4 (fun i=>some (i*s',s')) parts.toList with
     | none=>simp [hp] at hc
     | some ps =>
      simp [hp] at hc;obtain ⟨rfl,hz,rfl⟩:=hc;have hps:parts.toList=[]:=by
       cases hl:parts.toList with
       | nil=>rfl
       | cons q qs =>
        obtain ⟨i,x⟩:=q;rw [hl] at hp;simp only [zb4] at hp
        revert hp
        (repeat' split)<;>simp
      have hlen:len=0:=by
       rcases Nat.eq_zero_or_pos len with h|h
       ·exact h
       ·have h9:=hcond.2.2;rw [hz (by omega)] at h9;simp at h9;omega
      subst hlen;exact ⟨t,e,parts,hop,hps,ht,h1,hcond.1⟩
    ·simp at hc
   ·simp at hc
  ·simp at hc
 all_goals
  exfalso
  revert hc
  (repeat' split)<;>simp
theorem zhl {s b:Nat} {x y:Opnd} (hc:zy P Z o=some (.append s b x y)):∃ c X Y t u,o.op=.call c/\c.callee=.builtin .append/\c.args.toList=[X,Y]/\c.argTypes.toList=[t,u]/\zu X=some x/\zu Y=some y/\AppT P t u s b:=by
 unfold zy at hc
 split at hc
 case h_23 =>
  rename_i c hop
  split at hc
  case h_4 =>
   rename_i hcal
   split at hc
   ·rename_i X Y t u ha hb
    split at hc
    ·rename_i x' y' el el' h1 h2 h3 h4
     split at hc
     ·rename_i s1 b1 s' z h5 h6 h7 h8
      split at hc
      ·rename_i hcond;simp at hc;obtain ⟨rfl,rfl,rfl,rfl⟩:=hc;obtain ⟨c1,rfl,c3,c4⟩:=hcond;exact ⟨c,X,Y,t,u,hop,hcal,ha,hb,h1,h2,⟨el,el',h3,h4,h5,h6,z,h8,c3⟩,c1,c4⟩
      ·simp at hc
     ·simp at hc
    ·revert hc
     (repeat' split)<;>simp
    ·simp at hc
   ·simp at hc
  all_goals
   exfalso
   revert hc
   (repeat' split)<;>simp
 all_goals
  exfalso
  revert hc
  (repeat' split)<;>simp
theorem zhG {t e:TypeId} {parts:Array (Nat×Operand)} {s:Nat} (hop:o.op=.buildSlice t 0 parts) (hps:parts.toList=[]) (ht:P.underlying t=some (.slice e)) (hs:zR P e=some s) (h0:0 < s) :
  Ran C S base φ H w (.new (.cells true []) fun id=>.void id s) ((execOp a.eval o).run P w):=by
 have hp:parts=#[]:=by rw [<- Array.toList_inj,hps]
 subst hp
 refine zfb (c:=#[]) (t:=e) (v:=.slice (some ⟨w.heap.size,0,none⟩) 0 0) ?_ (by simp) (fun j a v ha hv=>by simp at ha) fun I' φ' w' id hid=>.void id s _ hid
 simp only [execOp,hop,Instr.buildSlice,Sem.run_bind,ze ht,Result.andThen_ok,zO hs];rw [if_neg (by omega)];have hr00:Array.range 0=#[]:=rfl;simp only [Nat.zero_mul,if_true,Sem.run_pure,Result.andThen_ok,Sem.run_bind,hr00,Array.map_empty,List.map_toArray,List.map_nil];have hf:∀ f:Nat->Option (Nat×Nat),Instr.fill f #[] []=some #[]:=fun f=>rfl;simp [newRow,hf]
theorem zjQ {cl:Callee} (hH:HRel C S base φ H w) (hE:ERel (Imm S base φ H w) φ w env a) {X Y:Operand} {x y:Opnd} {t u:TypeId} {s b:Nat} {c:Call} (hx:zu X=some x) (hy:zu Y=some y) (hT:AppT P t u s b)
  (hop:o.op=.call c) (hc:c.callee=.builtin .append) (h1:c.args.toList=[X,Y]) (h2:c.argTypes.toList=[t,u]) (h:step cl env H (.appendE s b x y)=some e) :
  Ran C S base φ H w e ((execOp a.eval o).run P w):=by
 have hxv:=zw hE hx;have hyv:=zw hE hy;have hpos:=hT.pos;simp only [step] at h
 split at h
 ·simp at h
 ·rename_i new m hsc;obtain ⟨ad,cap',news,f1,f2,f3,f4,f5⟩:=zcR hH hpos hyv hsc;have hnl:news.length=m*s:=by have:=f2.1;omega
  split at h
  ·simp at h
  ·rename_i hone;have hfc:∀ w':World,(∀ a,ad=some a->∀ (j:Nat) v,news[j]?=some v->w'.cell? (a.add j)=some v)->(Builtin.firstCells s m (.slice ad m cap')).run P w'=.ok news.toArray w':=fun w' hc'=>zbn hnl f4 hc'
   split at h
   ·rename_i id s' heq;rw [heq] at hxv;obtain ⟨bb,hid,hX⟩:=hxv.void_inv
    split at h
    ·rename_i hss;subst hss
     split at h
     ·rename_i hm;subst hm;simp only [Option.some.injEq] at h;subst h;have hnews:news=[]:=List.eq_nil_of_length_eq_zero (by simpa using hnl);subst hnews
      refine zN (v:=.slice (some ⟨bb,0,none⟩) (0+0) 0) (zaJ hop hc h1 h2 (zdV hT hX f1 (Nat.le_refl 0) (by rw [f1];exact hfc w f5) rfl)) (.row id s' 0 0 bb 0 0 0 hid (by simp) (Nat.le_refl 0) (by simp))
     ·rename_i hm
      split at h
      ·rename_i hmax;simp only [Option.some.injEq] at h;subst h;have hb':(0+m)*b<=140737488355328:=by rw [Nat.zero_add];have:=hmax.2;simp only [zn] at this;omega
       obtain ⟨c',e,cp,g1,g2,g3,rest,g4⟩:=zc4 (ty:=o.type) (olds:=[]) hT hX f1 (by omega) (Nat.le_refl 0) hb' (by rw [hX];exact zbn (by simp) (fun h=>rfl) fun a ha j u hu=>by simp at hu) (by rw [f1];exact hfc _ f5) (by simp) hnl;have hlen:new.length<=c'.size:=by
        have:c'.toList.length=c'.size:=by simp
        rw [g4] at this;simp at this;have:=f2.1;omega
       refine .inl ⟨_,_,zaJ hop hc h1 h2 g1,w.heap.size,c'.size,((Below.refl _ w).drew).alloc (Nat.le_refl _) _,Nat.le_refl _,zbx w _,?_,fun I' φ' id hid=>?_⟩
       ·refine ⟨c',e,(0,0),heap_alloc_new w.drew _,rfl,hlen,fun j _ hj=>by simp at hj,fun j av v ha hv=>?_⟩
        have hj:j < news.length:=by have:=(List.getElem?_eq_some_iff.1 ha).1;have:=f2.1;omega
        rw [<- Array.getElem?_toList,g4,List.nil_append,List.getElem?_append_left hj] at hv;exact VRel.mono (w:=w) (fun _ b hb=>⟨hb,Below.heap_alloc w.drew _ b hb.2.1⟩) (fun _ _ h=>h) (f2.2 j av v ha hv)
       ·have:(0+m)=m:=by omega
        rw [this] at g2 ⊢;exact .row id s' 0 m _ _ 0 cp hid (by simp) g2 (by simp [g3])
      ·simp at h
    ·simp at h
   ·simp at h
theorem zhC {s:Nat} {x y:Opnd} (hc:zy P Z o=some (.store s x y)):∃ t A X,o.op=.store t A X/\zu A=some x/\zu X=some y/\zR P t=some s/\s≠0:=by
 unfold zy at hc
 split at hc
 case h_9 =>
  rename_i t A X hop
  split at hc
  ·rename_i s' x' y' h1 h2 h3
   split at hc
   ·simp at hc
   ·rename_i h0;simp at hc;obtain ⟨rfl,rfl,rfl⟩:=hc;exact ⟨t,A,X,hop,h2,h3,h1,h0⟩
  ·simp at hc
 all_goals
  exfalso
  revert hc
  (repeat' split)<;>simp
theorem zhw {r:Result Next} {cs:List AV} {ps:List PV} {s len:Nat} (hH:HRel C S base φ H w) (hp:zad cs=some ps) (hl:ps.length=len*s)
  (h:Ran C S base φ H w (.new (.cells true cs) fun id=>.row id s 0 len) r):Ran C S base φ H w (.val (.pure (.slice false s (chunks s len ps)))) r:=by
 have key:∀ v w',zdN C S base φ H w (.new (.cells true cs) fun id=>.row id s 0 len) v w'->zdN C S base φ H w (.val (.pure (.slice false s (chunks s len ps)))) v w':=by
  rintro v w' ⟨b,n,hbel,hb1,hb2,⟨c,e,fz,hh,hcn,hcl,_,hv⟩,hr⟩
  refine ⟨hbel,.pure _ _ ?_⟩
  obtain ⟨b',n',cap,hid,hvv,hcap,hn⟩:=(hr (fun _ _=>True) (fun _=>some (b,n)) 0 rfl).row_inv;simp only [Option.some.injEq,Prod.mk.injEq] at hid;obtain ⟨rfl,rfl⟩:=hid;rw [Nat.zero_mul] at hvv;subst hvv;have hcs:=zcw hp;subst hcs;have hnm:¬ Mut φ H b:=fun ⟨id,m,hid,_⟩=>by have:=(hH.lt _ _ _ hid).2;omega
  have himm:Imm S base φ H w' false b:=⟨.inr (Nat.le_trans hH.sz hb1),hb2,hnm⟩
  have hmono:∀ k b,Imm S base φ H w k b->Imm S base φ H w' k b/\w'.heap[b]?=w'.heap[b]?:=fun k b hb =>
   ⟨⟨hb.1,Nat.lt_of_lt_of_le hb.2.1 hbel.size,hb.2.2⟩,rfl⟩
  have hget:∀ (i:Nat) e (j:Nat) p,(chunks s len ps)[i]?=some e->e[j]?=some p->ps[i*s+j]?=some p:=fun i e j p he hp=>by
   obtain ⟨hi,rfl⟩:=zbD s len ps i e he;rw [List.getElem?_take] at hp
   split at hp
   ·rw [List.getElem?_drop] at hp;exact hp
   ·simp at hp
  have hval:∀ (k:Nat) p,ps[k]?=some p->k < c.size/\Rep (Imm S base φ H w') w' p (c.getD k undef):=fun k p hk=>by
   have hlt:=(List.getElem?_eq_some_iff.1 hk).1;have hk':k < c.size:=by simp at hcl;omega
   refine ⟨hk',?_⟩
   have h1:=hv k (.pure p) c[k] (by simp [hk]) (by simp [hk']);have h2:=h1.pure_inv.mono hmono;rw [show c.getD k undef=c[k] from by simp [hk']];exact h2
  refine .slice false s _ b 0 len cap (fun i j=>c.getD (i*s+j) undef) (zca _ _ _) hcap (fun i e he=>?_) (fun i e j p he hp=>⟨himm,?_⟩) (fun i e j p he hp=>(hval _ _ (hget i e j p he hp)).2)
  ·obtain ⟨hi,rfl⟩:=zbD s len ps i e he;have h5:(i+1)*s<=len*s:=Nat.mul_le_mul_right s hi;rw [Nat.add_mul,Nat.one_mul] at h5;rw [List.length_take,List.length_drop,hl];omega
  ·obtain ⟨hk,_⟩:=hval _ _ (hget i e j p he hp);simp [World.cell?,hh,hk,Nat.add_assoc]
 rcases h with ⟨v,w',h1,h2⟩|⟨w',h1,h2⟩
 ·exact .inl ⟨v,w',h1,key _ _ h2⟩
 ·exact .inr ⟨w',h1,key _ _ h2⟩
theorem zhL {cl:Callee} {s:Nat} {x y:Opnd} (hH:HRel C S base φ H w) (hE:ERel (Imm S base φ H w) φ w env a) (hc0:.store s x y=(zy P Z o).getD .stuck) (hs:step cl env H (.storeI s x y)=some e) :
  ∃ H2,e=.upd (.tup []) H2/\((∀ w',Evo φ H w φ H2 w'->HRel C S base φ H2 w'->K (a.put o.dst undef) w')->o.wpIn (Fw ro) n P a w K Q):=by
 have hc:zy P Z o=some (.store s x y):=by
  cases h:zy P Z o with
  | none=>rw [h] at hc0;simp at hc0
  | some v=>rw [h] at hc0;simpa using hc0.symm
 obtain ⟨t,A,X,hop,h1,h2,h3,h4⟩:=zhC hc;simp only [step] at hs
 split at hs
 ·rename_i id off hbox
  split at hs
  ·rename_i z hg
   split at hs
   ·rename_i hcond;simp only [Option.some.injEq] at hs;subst hs
    refine ⟨_,rfl,fun hK=>?_⟩
    have hb:=zw hE h1;rw [hbox] at hb;obtain ⟨b,m,hid,hv⟩:=hb.box_inv;have hu:=hH.write (o:=.cells true (z.map AV.pure)) (w':=w) hid (by rw [hg];rfl) rfl rfl rfl rfl (fun _ _=>rfl) (by have:=hH.obj _ _ _ hid;rw [hg] at this;exact this);obtain ⟨w',e1,e2,e3⟩:=run_store (P:=P) hu.2 (fun t=>hu.1.vrel (hE t)) h1 h2 h3 h4 hop hbox (zaS (hH.nx _ _ hid)) hcond.1 hcond.2.2.1 hcond.2.2.2;have hheap:∀ o2,(H.set id (.cells true (z.map AV.pure))).set id o2=H.set id o2:=fun o2=>Heap.ext' rfl fun i=>by
     simp only [Heap.set,upd]
     by_cases hi:i=id<;>simp [hi]
    rw [hheap] at e2 e3
    refine ⟨fun _ _=>trivial,?_⟩
    rw [Oper.semAt_eq _ _ _ (by simp [hop]),e1,Oper.uponIn_skip];exact hK w' (hu.1.trans e2) e3
   ·simp at hs
  ·simp at hs
 ·simp at hs
theorem zdJ {cl:Callee} {op:VOp} (h:step cl env H op=some e):step cl env H op.plain=some e:=by
 cases op<;>first|exact h|skip
 ·simp only [step,VOp.plain] at h ⊢
  split at h
  ·split at h
   ·exact h
   ·simp at h
  ·simp at h
 ·simp only [step,VOp.plain] at h ⊢
  split at h
  ·rename_i v H2 hd
   split at h
   ·rw [hd];exact h
   ·simp at h
  ·simp at h
 ·simp only [step,VOp.plain] at h ⊢
  split at h
  ·exact h
  ·simp at h
theorem zlK {cl:Callee} {vo:VOp} (hcl:CalleeOk C P cl) (hH:HRel C S base φ H w) (hE:ERel (Imm S base φ H w) φ w env a) (hc0:vo=zbQ Z o.dst ((zy P Z o).getD .stuck)) (hs:step cl env H vo=some e)
  (hK:∀ v w',zdN C S base φ H w e v w'->K (a.put o.dst v) w'):o.wpIn (Fw ro) n P a w K Q:=by
 have hran:(Ran C S base φ H w e ((execOp a.eval o).run P w)/\∀ c,o.op≠.defer c)->o.wpIn (Fw ro) n P a w K Q:=fun h=>znc h.2 h.1 hK;unfold zbQ at hc0
 split at hc0
 ·split at hc0
  ·rename_i s t x hx
   split at hc0
   ·subst hc0;obtain ⟨H2,rfl,hw⟩:=zhL (ro:=ro) (n:=n) (K:=K) (Q:=Q) hH hE hx.symm hs;exact hw fun w' h1 h2=>hK _ w' ⟨φ,h1,h2,.tup [] #[] rfl fun i p v h=>by simp at h⟩
   ·split at hc0
    ·subst hc0;exact zaY hcl hH hE hx.symm (zdJ hs) hK
    ·exact zaY hcl hH hE (hc0.trans hx.symm) hs hK
  ·exact zaY hcl hH hE hc0 hs hK
 ·split at hc0
  ·rename_i z hx
   split at hc0
   ·subst hc0;simp only [step,Option.some.injEq] at hs;subst hs;exact zaY (vo:=.alloc z) (e:=.new (.cells true (z.map .pure)) fun id=>.box id 0) hcl hH hE hx.symm rfl fun v w' hp=>hK v w' hp
   ·exact zaY hcl hH hE (hc0.trans hx.symm) hs hK
  ·rename_i x hx
   refine zaY (vo:=.mov x) hcl hH hE hx.symm ?_ hK
   split at hc0<;>subst hc0<;>exact hs
  ·rename_i off x hx
   refine zaY (vo:=.fieldAddr off x) hcl hH hE hx.symm ?_ hK
   split at hc0<;>subst hc0<;>exact hs
  ·rename_i g s x hx
   refine zaY (vo:=.load g s x) hcl hH hE hx.symm ?_ hK
   split at hc0
   ·subst hc0;exact hs
   ·split at hc0
    ·subst hc0;simp only [step] at hs ⊢
     split at hs
     ·rename_i k cs off hv
      split at hs
      ·rename_i hle;rw [hv];simp only [zH,if_pos hle];exact hs
      ·simp at hs
     ·simp at hs
    ·subst hc0;exact hs
  ·rename_i s x lo hi hx
   split at hc0
   ·subst hc0
    refine zaY (vo:=.slice s x lo hi) hcl hH hE hx.symm ?_ hK
    simp only [step] at hs ⊢
    split at hs
    ·rename_i h1;rw [h1];exact hs
    ·rename_i h1;rw [h1];exact hs
    ·simp at hs
   ·exact zaY hcl hH hE (hc0.trans hx.symm) hs hK
  ·rename_i s hx
   split at hc0
   ·have hc:zy P Z o=some (.buildSlice s [] []):=by
     cases h:zy P Z o with
     | none=>rw [h] at hx;simp at hx
     | some v=>rw [h] at hx;simpa using hx
    obtain ⟨t,e',parts,hop,hps,ht,h1,h2⟩:=zeC hc;subst hc0;simp only [step,Option.some.injEq] at hs;subst hs;exact hran ⟨zhG hop hps ht h1 h2,by simp [hop]⟩
   ·exact zaY hcl hH hE (hc0.trans hx.symm) hs hK
  ·rename_i s z ps hno hx
   split at hc0
   ·have hc:zy P Z o=some (.buildSlice s z ps):=by
     cases h:zy P Z o with
     | none=>rw [h] at hx;simp at hx
     | some v=>rw [h] at hx;simpa using hx
    subst hc0;simp only [step] at hs
    split at hs
    ·rename_i cs hf
     split at hs
     ·rename_i qs hq
      split at hs
      ·rename_i hl;simp only [Option.some.injEq] at hs;subst hs;have h9:=znt (cl:=cl) (e:=.new (.cells true cs) fun id=>.row id s 0 (if s=0 then 0 else cs.length / s)) hH hE hc (by simp only [step,hf]) (fun f xs h=>by simp at h);exact hran ⟨zhw hH hq hl h9.1,h9.2⟩
      ·simp at hs
     ·simp at hs
    ·simp at hs
   ·exact zaY hcl hH hE (hc0.trans hx.symm) hs hK
  ·rename_i s b x y hx
   split at hc0
   ·have hc:zy P Z o=some (.append s b x y):=by
     cases h:zy P Z o with
     | none=>rw [h] at hx;simp at hx
     | some v=>rw [h] at hx;simpa using hx
    obtain ⟨c,X,Y,t,u,hop,hcal,h1,h2,h3,h4,h5⟩:=zhl hc;subst hc0;exact hran ⟨zjQ hH hE h3 h4 h5 hop hcal h1 h2 hs,by simp [hop]⟩
   ·split at hc0
    ·subst hc0;exact zaY hcl hH hE hx.symm (zdJ hs) hK
    ·exact zaY hcl hH hE (hc0.trans hx.symm) hs hK
  ·rename_i f xs hx
   split at hc0
   ·have hc:zy P Z o=some (.call f xs):=by
     cases h:zy P Z o with
     | none=>rw [h] at hx;simp at hx
     | some v=>rw [h] at hx;simpa using hx
    obtain ⟨c,g,hop,hcal,h1,h2⟩:=ze9 hc;have hf:=zw hE h1;have hxs:=zcC hE h2;subst hc0;simp only [step,zb6] at hs
    split at hs
    ·rename_i g' caps e1;rw [e1] at hf;obtain ⟨vs,hg,hl,hr⟩:=hf.pure_inv.func_inv;exact zli hcl hH hop hcal hg (VRels.pures (by simpa using hl) fun i p v hp hv=>hr i p v hp (by simpa using hv)) hxs hs hK
    ·simp at hs
   split at hc0
   ·subst hc0;exact zaY hcl hH hE hx.symm (zdJ hs) hK
   ·exact zaY hcl hH hE (hc0.trans hx.symm) hs hK
  ·rename_i z ps hx
   refine zaY (vo:=.build z ps) hcl hH hE hx.symm ?_ hK
   split at hc0<;>subst hc0<;>exact hs
  ·exact zaY hcl hH hE hc0 hs hK
theorem zhH {P:Program} {Z:List Nat} {dst:Option Nat} {o:Oper} {s:Nat} {x y:Opnd} {ls:List Opnd} (h:VOp.storeE s x y ls=zbQ Z dst ((zy P Z o).getD .stuck)):.store s x y=(zy P Z o).getD .stuck:=by
 have key:∀ v,(zy P Z o).getD .stuck=v->VOp.storeE s x y ls≠v:=fun v hv he=>by
  subst he
  cases hc:zy P Z o with
  | none=>rw [hc] at hv;simp at hv
  | some u =>
   rw [hc] at hv;simp only [Option.getD_some] at hv;subst hv;unfold zy at hc
   revert hc
   (repeat' split)<;>simp
 unfold zbQ at h
 split at h
 ·split at h
  ·rename_i s' t x' hx
   split at h
   ·simp at h
   ·split at h
    ·simp only [VOp.storeE.injEq] at h;obtain ⟨rfl,rfl,rfl,_⟩:=h;exact hx.symm
    ·simp at h
  ·exact absurd h (key _ rfl)
 ·split at h<;>first|(exact absurd h (key _ rfl))|(split at h<;>simp at h;done)|(split at h<;>first|(simp at h;done)|(split at h<;>first|(simp at h;done)|(split at h<;>simp at h;done)))
theorem ziM {P:Program} {Z:List Nat} {dst:Option Nat} {o:Oper} {f:Opnd} {xs ls:List Opnd} (h:VOp.callE f xs ls=zbQ Z dst ((zy P Z o).getD .stuck)):.call f xs=(zy P Z o).getD .stuck:=by
 have key:∀ v,(zy P Z o).getD .stuck=v->VOp.callE f xs ls≠v:=fun v hv he=>by
  subst he
  cases hc:zy P Z o with
  | none=>rw [hc] at hv;simp at hv
  | some u =>
   rw [hc] at hv;simp only [Option.getD_some] at hv;subst hv;unfold zy at hc
   revert hc
   (repeat' split)<;>simp
 unfold zbQ at h
 split at h
 ·split at h
  ·split at h
   ·simp at h
   ·split at h<;>simp at h
  ·exact absurd h (key _ rfl)
 ·split at h
  case h_11=>exact absurd h (key _ rfl)
  case h_9 =>
   rename_i f' xs' hx
   split at h
   ·simp at h
   split at h
   ·simp only [VOp.callE.injEq] at h;obtain ⟨rfl,rfl,_⟩:=h;exact hx.symm
   ·simp at h
  all_goals first|(exact absurd h (key _ rfl))|(split at h<;>simp at h;done)|(split at h<;>first|(simp at h;done)|(split at h<;>simp at h;done))
theorem zjA {P:Program} {Z:List Nat} {dst:Option Nat} {o:Oper} {s b:Nat} {x y:Opnd} {ls:List Opnd} (h:VOp.appB s b x y ls=zbQ Z dst ((zy P Z o).getD .stuck)):.append s b x y=(zy P Z o).getD .stuck:=by
 have key:∀ v,(zy P Z o).getD .stuck=v->VOp.appB s b x y ls≠v:=fun v hv he=>by
  subst he
  cases hc:zy P Z o with
  | none=>rw [hc] at hv;simp at hv
  | some u =>
   rw [hc] at hv;simp only [Option.getD_some] at hv;subst hv;unfold zy at hc
   revert hc
   (repeat' split)<;>simp
 unfold zbQ at h
 split at h
 ·split at h
  ·split at h
   ·simp at h
   ·split at h<;>simp at h
  ·exact absurd h (key _ rfl)
 ·split at h
  case h_11=>exact absurd h (key _ rfl)
  case h_8 =>
   rename_i hx
   split at h
   ·simp at h
   ·split at h
    ·simp only [VOp.appB.injEq] at h;obtain ⟨rfl,rfl,rfl,rfl,_⟩:=h;exact hx.symm
    ·simp at h
  all_goals first|(exact absurd h (key _ rfl))|(split at h<;>simp at h;done)|(split at h<;>first|(simp at h;done)|(split at h<;>simp at h;done))
theorem zpX {cl:Callee} {vo:VOp} (hcl:CalleeOk C P cl) (hH:HRel C S base φ H w) (hE:ERel (Imm S base φ H w) φ w env a) (hc0:vo=zbQ Z o.dst ((zy P Z o).getD .stuck)) (hs:step cl env H vo.plain=some e)
  (hK:∀ v w',zdN C S base φ H w e v w'->K (a.put o.dst v) w'):o.wpIn (Fw ro) n P a w K Q:=by
 by_cases hx:∃ s x y ls,vo=.storeE s x y ls
 ·obtain ⟨s,x,y,ls,rfl⟩:=hx;exact zaY hcl hH hE (zhH hc0) hs hK
 ·by_cases hy:∃ f xs ls,vo=.callE f xs ls
  ·obtain ⟨f,xs,ls,rfl⟩:=hy;exact zaY hcl hH hE (ziM hc0) hs hK
  by_cases hz:∃ s b x y ls,vo=.appB s b x y ls
  ·obtain ⟨s,b,x,y,ls,rfl⟩:=hz;exact zaY hcl hH hE (zjA hc0) hs hK
  refine zlK hcl hH hE hc0 ?_ hK
  have:vo.plain=vo:=by
   cases vo<;>first|rfl|exact absurd ⟨_,_,_,_,rfl⟩ hx|exact absurd ⟨_,_,_,rfl⟩ hy|exact absurd ⟨_,_,_,_,_,rfl⟩ hz
  rwa [this] at hs
end
section
variable {env env':Env} {H H':Heap} {cl:Callee}
theorem zl {x:Opnd} (h:∀ t∈zU x,env t=env' t):x.eval env=x.eval env':=by
 cases x with
 | tmp t=>exact h t (by simp [zU])
 | const p=>rfl
theorem zbN {xs:List Opnd} (h:∀ t∈xs.flatMap zU,env t=env' t):xs.map (fun x=>x.eval env)=xs.map (fun x=>x.eval env') :=
 List.map_congr_left fun x hx=>zl fun t ht=>h t (List.mem_flatMap.2 ⟨x,hx,ht⟩)
theorem zcY {ps:List (Nat×Nat×Opnd)} (h:∀ t∈ps.flatMap (fun p=>zU p.2.2),env t=env' t):zV env ps=zV env' ps :=
 List.map_congr_left fun p hp=>by
  obtain ⟨o,s,x⟩:=p;simp only;rw [zl (x:=x) fun t ht=>h t (List.mem_flatMap.2 ⟨_,hp,ht⟩)]
theorem zaR {n d:Nat} {x:Option Opnd} (h:∀ t∈(x.map zU).getD [],env t=env' t):bound env n d x=bound env' n d x:=by
 cases x with
 | none=>rfl
 | some x =>
  unfold bound;simp only;rw [zl (x:=x) fun t ht=>h t (by simpa using ht)]
theorem zcT {op:VOp} (h:∀ t∈op.reads,env t=env' t):step cl env H op=step cl env' H op:=by
 cases op<;>simp only [VOp.reads] at h<;>simp only [step]
 case mov x=>rw [zl h]
 case pick c a b =>
  rw [zl (x:=c) fun t ht=>h t (by simp [ht]),zl (x:=a) fun t ht=>h t (by simp [ht]),zl (x:=b) fun t ht=>h t (by simp [ht])]
 case box x=>rw [zl h]
 case build z ps=>rw [zcY h]
 case buildSlice sz z ps=>rw [zcY h]
 case buildF sz z ps=>rw [zcY h]
 case buildL z ps=>rw [zcY h]
 case load g s x=>rw [zl h]
 case store s a x=>rw [zl (x:=a) fun t ht=>h t (by simp [ht]),zl (x:=x) fun t ht=>h t (by simp [ht])]
 case nilCheck x=>rw [zl h]
 case bin op d a x=>rw [zl (x:=a) fun t ht=>h t (by simp [ht]),zl (x:=x) fun t ht=>h t (by simp [ht])]
 case aggEq n s o a x=>rw [zl (x:=a) fun t ht=>h t (by simp [ht]),zl (x:=x) fun t ht=>h t (by simp [ht])]
 case un op x=>rw [zl h]
 case toInt k x=>rw [zl h]
 case strSame x=>rw [zl h]
 case toBytes x=>rw [zl h]
 case toStr x=>rw [zl h]
 case makeFunc f xs=>rw [zbN h]
 case makeMeth f xs=>rw [zbN h]
 case makeSlice s b z a x=>rw [zl (x:=a) fun t ht=>h t (by simp [ht]),zl (x:=x) fun t ht=>h t (by simp [ht])]
 case slice sz x lo hi =>
  have e1:=zl (x:=x) (env:=env) (env':=env') fun t ht=>h t (by simp [ht]);have e2:∀ n d,bound env n d lo=bound env' n d lo:=fun n d=>zaR fun t ht=>h t (by simp [ht]);have e3:∀ n d,bound env n d hi=bound env' n d hi:=fun n d=>zaR fun t ht=>h t (by simp [ht]);simp only [e1,e2,e3]
 case substr x lo hi =>
  have e1:=zl (x:=x) (env:=env) (env':=env') fun t ht=>h t (by simp [ht]);have e2:∀ n d,bound env n d lo=bound env' n d lo:=fun n d=>zaR fun t ht=>h t (by simp [ht]);have e3:∀ n d,bound env n d hi=bound env' n d hi:=fun n d=>zaR fun t ht=>h t (by simp [ht]);simp only [e1,e2,e3]
 case slice3 sz x lo hi mx =>
  have e1:=zl (x:=x) (env:=env) (env':=env') fun t ht=>h t (by simp [ht]);have e2:∀ n d,bound env n d lo=bound env' n d lo:=fun n d=>zaR fun t ht=>h t (by simp [ht]);have e3:∀ n d,bound env n d (some hi)=bound env' n d (some hi):=fun n d=>zaR fun t ht=>h t (by simp at ht;simp [ht]);have e4:∀ n d,bound env n d (some mx)=bound env' n d (some mx):=fun n d=>zaR fun t ht=>h t (by simp at ht;simp [ht]);simp only [e1,e2,e3,e4]
 case capSl x=>rw [zl h]
 case boxF x=>rw [zl h]
 case appendZ s b z a x=>rw [zl (x:=a) fun t ht=>h t (by simp [ht]),zl (x:=x) fun t ht=>h t (by simp [ht])]
 case idle i x=>rw [zl h]
 case movL x=>rw [zl h]
 case fieldL off x=>rw [zl h]
 case loadL g s x=>rw [zl h]
 case loadP g s x=>rw [zl h]
 case storeE s a x ls =>
  have e3:ls.all (fun l=>beside 0 (l.eval env))=ls.all (fun l=>beside 0 (l.eval env)):=rfl;have e4:∀ id,ls.all (fun l=>beside id (l.eval env))=ls.all (fun l=>beside id (l.eval env')):=fun id=>by
   rw [Bool.eq_iff_iff,List.all_eq_true,List.all_eq_true]
   constructor
   ·intro hh l hl;rw [<- zl (x:=l) fun t ht=>h t (by simp only [List.mem_append,List.mem_flatMap];exact .inr ⟨l,hl,ht⟩)];exact hh l hl
   ·intro hh l hl;rw [zl (x:=l) fun t ht=>h t (by simp only [List.mem_append,List.mem_flatMap];exact .inr ⟨l,hl,ht⟩)];exact hh l hl
  simp only [e4];rw [zl (x:=a) fun t ht=>h t (by simp [ht]),zl (x:=x) fun t ht=>h t (by simp [ht])]
 case sliceL sz x lo hi =>
  have e1:=zl (x:=x) (env:=env) (env':=env') fun t ht=>h t (by simp [ht]);have e2:∀ n d,bound env n d lo=bound env' n d lo:=fun n d=>zaR fun t ht=>h t (by simp [ht]);have e3:∀ n d,bound env n d hi=bound env' n d hi:=fun n d=>zaR fun t ht=>h t (by simp [ht]);simp only [e1,e2,e3]
 case appendE s b a x=>rw [zl (x:=a) fun t ht=>h t (by simp [ht]),zl (x:=x) fun t ht=>h t (by simp [ht])]
 case storeI s a x=>rw [zl (x:=a) fun t ht=>h t (by simp [ht]),zl (x:=x) fun t ht=>h t (by simp [ht])]
 case fieldAddr off x=>rw [zl h]
 case field off s g x=>rw [zl h]
 case indexAddr sz arr x i=>rw [zl (x:=x) fun t ht=>h t (by simp [ht]),zl (x:=i) fun t ht=>h t (by simp [ht])]
 case index sz l g x i=>rw [zl (x:=x) fun t ht=>h t (by simp [ht]),zl (x:=i) fun t ht=>h t (by simp [ht])]
 case byteAt x i=>rw [zl (x:=x) fun t ht=>h t (by simp [ht]),zl (x:=i) fun t ht=>h t (by simp [ht])]
 case extract i x=>rw [zl h]
 case callD f xs =>
  rw [zl (x:=f) fun t ht=>h t (by simp [ht]),zbN (xs:=xs) fun t ht=>h t (by simp only [List.mem_append];exact .inr ht)]
 case callE f xs ls =>
  have e1:∀ H2,ls.all (fun l=>keeps H H2 (l.eval env))=ls.all (fun l=>keeps H H2 (l.eval env')):=fun H2=>by
   rw [Bool.eq_iff_iff,List.all_eq_true,List.all_eq_true]
   constructor
   ·intro hh l hl;rw [<- zl (x:=l) fun t ht=>h t (by simp only [List.mem_append,List.mem_flatMap];exact .inr ⟨l,hl,ht⟩)];exact hh l hl
   ·intro hh l hl;rw [zl (x:=l) fun t ht=>h t (by simp only [List.mem_append,List.mem_flatMap];exact .inr ⟨l,hl,ht⟩)];exact hh l hl
  rw [zl (x:=f) fun t ht=>h t (by simp [ht]),zbN (xs:=xs) fun t ht=>h t (by simp only [List.mem_append];exact .inl (.inr ht))];simp only [e1]
 case appB s b a x ls =>
  have e1:ls.all (fun l=>zed (a.eval env) (l.eval env))=ls.all (fun l=>zed (a.eval env') (l.eval env')):=by
   rw [zl (x:=a) fun t ht=>h t (by simp [ht]),Bool.eq_iff_iff,List.all_eq_true,List.all_eq_true]
   constructor
   ·intro hh l hl;rw [<- zl (x:=l) fun t ht=>h t (by simp only [List.mem_append,List.mem_flatMap];exact .inr ⟨l,hl,ht⟩)];exact hh l hl
   ·intro hh l hl;rw [zl (x:=l) fun t ht=>h t (by simp only [List.mem_append,List.mem_flatMap];exact .inr ⟨l,hl,ht⟩)];exact hh l hl
  rw [e1,zl (x:=a) fun t ht=>h t (by simp [ht]),zl (x:=x) fun t ht=>h t (by simp [ht])]
 case call f xs=>rw [zl (x:=f) fun t ht=>h t (by simp [ht]),zbN (xs:=xs) fun t ht=>h t (by simp only [List.mem_append];exact .inr ht)]
 case lenStr x=>rw [zl h]
 case lenSl x=>rw [zl h]
 case append s b a x=>rw [zl (x:=a) fun t ht=>h t (by simp [ht]),zl (x:=x) fun t ht=>h t (by simp [ht])]
 case minmax m xs=>rw [zbN h]
 case clear z x=>rw [zl h]
 case lookup s z ok a x=>rw [zl (x:=a) fun t ht=>h t (by simp [ht]),zl (x:=x) fun t ht=>h t (by simp [ht])]
 case mapPut s c a b =>
  rw [zl (x:=c) fun t ht=>h t (by simp [ht]),zl (x:=a) fun t ht=>h t (by simp [ht]),zl (x:=b) fun t ht=>h t (by simp [ht])]
 case lenMap x=>rw [zl h]
def HExt (H H':Heap):Prop:=∀ id,H.get id≠.dead->(∀ z,H.get id≠.raw z)->H'.get id=H.get id
theorem HExt.cells (h:HExt H H') {id:Nat} {b:Bool} {cs:List AV} (hg:H.get id=.cells b cs):H'.get id=.cells b cs:=(h id (by rw [hg];simp) (by rw [hg];simp)).trans hg
theorem HExt.mapo (h:HExt H H') {id:Nat} {es:List (PV×PV)} (hg:H.get id=.mapo es):H'.get id=.mapo es:=(h id (by rw [hg];simp) (by rw [hg];simp)).trans hg
theorem zaP {fr fr':AV->Option (PV×List Nat)} (hfr:∀ v r,fr v=some r->fr' v=some r):∀ {cs:List AV} {r:List PV×List Nat},zK fr cs=some r->zK fr' cs=some r
 | [],r,h=>h
 | c::cs,r,h=>by
  unfold zK at h ⊢
  split at h
  ·simp at h
  ·rename_i p is hp;rw [hfr _ _ hp];simp only
   split at h
   ·simp at h
   ·rename_i qs js hq;rw [zaP hfr hq];exact h
theorem zjS {k:Bool} (h:HExt H H'):∀ (n:Nat) (v:AV) (r:PV×List Nat),freeze H k n v=some r->freeze H' k n v=some r:=by
 intro n
 induction n with
 | zero=>intro v r h;simp [freeze] at h
 | succ n ih =>
  intro v r hf;unfold freeze at hf ⊢
  split at hf
  ·exact hf
  ·split at hf
   ·rename_i e;rw [zaP ih e];exact hf
   ·simp at hf
  ·split at hf
   ·rename_i e;rw [zaP ih e];exact hf
   ·simp at hf
  ·split at hf
   ·rename_i e;rw [zaP ih e];exact hf
   ·simp at hf
  ·split at hf
   ·rename_i hg;rw [h.cells hg];simp only
    split at hf
    ·rename_i e;rw [zaP ih e];exact hf
    ·simp at hf
   ·simp at hf
  ·split at hf
   ·rename_i hg;rw [h.cells hg];simp only
    split at hf
    ·rename_i e;rw [zaP ih e];exact hf
    ·simp at hf
   ·simp at hf
  ·split at hf
   ·rename_i hg;rw [h.cells hg];simp only
    split at hf
    ·rename_i e;rw [zaP ih e];exact hf
    ·simp at hf
   ·simp at hf
  ·simp at hf
theorem zd6 (h:HExt H H') {s:Nat} {v:AV} {cs:List AV} (hl:zH H s v=some cs):zH H' s v=some cs:=by
 unfold zH at hl ⊢
 split at hl
 ·exact hl
 ·split at hl
  ·rename_i hg;rw [h.cells hg];exact hl
  ·simp at hl
 ·simp at hl
theorem zbB (h:HExt H H') {s:Nat} {v:AV} {r:List AV×Nat} (hl:zJ H s v=some r):zJ H' s v=some r:=by
 unfold zJ at hl ⊢
 split at hl
 ·exact hl
 ·exact hl
 ·split at hl
  ·rename_i hs;rw [if_pos hs]
   split at hl
   ·rename_i hg;rw [h.cells hg];exact hl
   ·simp at hl
  ·simp at hl
 ·simp at hl
theorem zif (h:HExt H H') {op:VOp} {e:Eff} (he:za0 e=false) (hs:step cl env H op=some e):step cl env H' op=some e:=by
 cases op<;>simp only [step] at hs ⊢
 case load g s x =>
  split at hs
  ·rename_i cs hl;rw [zd6 h hl];exact hs
  ·simp at hs
 case loadL g s x =>
  split at hs
  ·rename_i cs hl;rw [zd6 h hl];exact hs
  ·simp at hs
 case store s a x =>
  split at hs
  ·split at hs
   ·split at hs
    ·simp at hs;subst hs;simp [za0] at he
    ·simp at hs
   ·simp at hs
  ·simp at hs
 case callD f xs =>
  unfold zb6 at hs
  split at hs
  ·split at hs
   ·simp at hs
   ·split at hs
    ·simp at hs
    ·split at hs
     ·simp at hs
     ·simp at hs;subst hs;simp [za0] at he
  ·simp at hs
 case callE f xs ls =>
  split at hs
  ·split at hs
   ·simp at hs;subst hs;simp [za0] at he
   ·simp at hs
  ·simp at hs
 case storeE s a x ls =>
  split at hs
  ·split at hs
   ·split at hs
    ·split at hs
     ·simp at hs;subst hs;simp [za0] at he
     ·simp at hs
    ·simp at hs
   ·simp at hs
  ·simp at hs
 case slice sz x lo hi =>
  split at hs
  ·exact hs
  ·exact hs
  ·rename_i id s off len hx
   split at hs
   ·rename_i hss;rw [if_pos hss]
    split at hs
    ·rename_i N hN;have:zgz H' id sz off len=some N:=by
      unfold zgz at hN ⊢
      split at hN
      ·rename_i own cs hg;rw [h.cells hg];exact hN
      ·simp at hN
     rw [this];exact hs
    ·simp at hs
   ·simp at hs
  ·simp at hs
 case toStr x =>
  split at hs
  ·rename_i cs m hl;rw [zbB h hl];exact hs
  ·simp at hs
 case call f xs =>
  unfold zM at hs ⊢;have go:∀ (g:Nat) (ys:List AV),(if cl.shared g then
    match cl.run g ys H with
    | some (v,H')=>some (.upd v H')
    | none=>none
   else
    match zK (freeze H true zab) ys with
    | none=>none
    | some (ps,ids) =>
     match cl.pure g ps with
     | none=>none
     | some r=>if ids.isEmpty||r.cold then some (.val (.pure r)) else some (.upd (.pure r) (H.freeze ids)):Option Eff)=some e ->
    (if cl.shared g then
    match cl.run g ys H' with
    | some (v,H')=>some (.upd v H')
    | none=>none
   else
    match zK (freeze H' true zab) ys with
    | none=>none
    | some (ps,ids) =>
     match cl.pure g ps with
     | none=>none
     | some r=>if ids.isEmpty||r.cold then some (.val (.pure r)) else some (.upd (.pure r) (H'.freeze ids)):Option Eff)=some e:=by
   intro g ys hg
   split at hg
   ·split at hg
    ·simp at hg;subst hg;simp [za0] at he
    ·simp at hg
   ·rename_i hsh;rw [if_neg hsh]
    split at hg
    ·simp at hg
    ·rename_i ps ids hf;rw [zaP (zjS h zab) hf];simp only
     split at hg
     ·simp at hg
     ·rename_i r hr
      split at hg
      ·rename_i hc;rw [if_pos hc];exact hg
      ·simp at hg;subst hg;simp [za0] at he
  split at hs
  ·exact go _ _ hs
  ·exact go _ _ hs
  ·exact go _ _ hs
  ·split at hs
   ·simp at hs;subst hs;simp [za0] at he
   ·simp at hs
  ·simp at hs
 case storeI s a x =>
  split at hs
  ·split at hs
   ·split at hs
    ·simp at hs;subst hs;simp [za0] at he
    ·simp at hs
   ·simp at hs
  ·simp at hs
 case appendE s b a x =>
  split at hs
  ·simp at hs
  ·rename_i new m hl;rw [zbB h hl];exact hs
 case append s b a x =>
  unfold zi at hs ⊢
  split at hs
  ·simp at hs
  ·rename_i new m hl;rw [zbB h hl];simp only
   split at hs
   ·simp at hs
   ·rename_i hone;rw [if_neg hone]
    split at hs
    ·exact hs
    ·split at hs
     ·split at hs
      ·split at hs
       ·simp at hs;subst hs;simp [za0] at he
       ·split at hs
        ·simp at hs;subst hs;simp [za0] at he
        ·simp at hs
      ·simp at hs
     ·simp at hs
    ·split at hs
     ·rename_i hs0;rw [if_pos hs0]
      split at hs
      ·rename_i hm0;rw [if_pos hm0];exact hs
      ·rename_i hm0;rw [if_neg hm0]
       split at hs
       ·rename_i hg;rw [h.cells hg];exact hs
       ·simp at hs
     ·simp at hs
    ·simp at hs
 case appB s b a x ls =>
  split at hs
  case isFalse=>simp at hs
  rename_i hbeside;rw [if_pos hbeside];unfold zi at hs ⊢
  split at hs
  ·simp at hs
  ·rename_i new m hl;rw [zbB h hl];simp only
   split at hs
   ·simp at hs
   ·rename_i hone;rw [if_neg hone]
    split at hs
    ·exact hs
    ·split at hs
     ·split at hs
      ·split at hs
       ·simp at hs;subst hs;simp [za0] at he
       ·split at hs
        ·simp at hs;subst hs;simp [za0] at he
        ·simp at hs
      ·simp at hs
     ·simp at hs
    ·split at hs
     ·rename_i hs0;rw [if_pos hs0]
      split at hs
      ·rename_i hm0;rw [if_pos hm0];exact hs
      ·rename_i hm0;rw [if_neg hm0]
       split at hs
       ·rename_i hg;rw [h.cells hg];exact hs
       ·simp at hs
     ·simp at hs
    ·simp at hs
 case clear z x =>
  split at hs
  ·exact hs
  ·split at hs
   ·split at hs
    ·split at hs
     ·simp at hs;subst hs;simp [za0] at he
     ·simp at hs
    ·simp at hs
   ·simp at hs
  ·simp at hs
 case lookup s z ok m k =>
  split at hs
  ·rename_i id key e1 e2
   split at hs
   ·rename_i es hg;simp only [h.mapo hg];exact hs
   ·simp at hs
  ·simp at hs
 case mapPut s m k x =>
  split at hs
  ·split at hs
   ·split at hs
    ·simp at hs;subst hs;simp [za0] at he
    ·simp at hs
   ·simp at hs
  ·simp at hs
 case lenMap x =>
  split at hs
  ·rename_i id e1
   split at hs
   ·rename_i es hg;simp only [h.mapo hg];exact hs
   ·simp at hs
  ·simp at hs
 all_goals exact hs
end
abbrev zcH (r:Nat):Deferred:={ target:=.collected r,args:=#[] }
structure R (C:Comp) (S:Bool->Nat->Prop) (base lo nt:Nat) (φ:Phi) (H:Heap) (env:Env) (a:Act) (w:World):Prop where
 heap:HRel C S base φ H w
 env:ERel (Imm S base φ H w) φ w env a
 size:a.tmps.size=nt
 lole:lo<=w.heap.size
 defs:∃ marks:List Nat,a.defers=marks.map zcH/\marks.Nodup/\∀ r∈marks,lo<=r/\w.heap[r]?=some (.deferred (some []))
section
variable {C:Comp} {P:Program} {Z:List Nat} {S:Bool->Nat->Prop} {base lo nt:Nat} {φ φ':Phi} {H H':Heap} {w w':World} {env env':Env} {a:Act} {e:Eff} {o:Oper}
variable {ro:Option Nat} {n:Nat} {K:Act->World->Prop} {Q:Exit->Act->World->Prop}
theorem zfr (hH:HRel C S base φ H w) {r:Nat} {x:Option (List Deferred)} (h:w.heap[r]?=some (.deferred x)):¬ Mut φ H r:=by
 rintro ⟨id,m,hid,hl⟩;have ho:=hH.obj _ _ _ hid
 cases hg:H.get id with
 | dead=>rw [hg] at hl;simp [AObj.live] at hl
 | cells own cs =>
  rw [hg] at ho;obtain ⟨c,t,fz,h1,_⟩:=ho;rw [h] at h1;simp at h1
 | raw z =>
  rw [hg] at ho;obtain ⟨c,t,fz,h1,_⟩:=ho;rw [h] at h1;simp at h1
 | mapo es =>
  rw [hg] at ho;obtain ⟨ms,ck,h1,_⟩:=ho;rw [h] at h1;simp at h1
 | loop l =>
  rw [hg] at ho;obtain ⟨l',h1,_⟩:=ho;rw [h] at h1;simp at h1
theorem zdr (hH:HRel C S base φ H w) (hev:Evo φ H w φ' H' w') {ds:List Deferred} (h:∃ marks:List Nat,ds=marks.map zcH/\marks.Nodup/\∀ r∈marks,lo<=r/\w.heap[r]?=some (.deferred (some []))) :
  ∃ marks:List Nat,ds=marks.map zcH/\marks.Nodup/\∀ r∈marks,lo<=r/\w'.heap[r]?=some (.deferred (some [])):=by
 obtain ⟨marks,h1,h2,h3⟩:=h
 refine ⟨marks,h1,h2,fun r hr=>?_⟩
 obtain ⟨h4,h5⟩:=h3 r hr;have hlt:r < w.heap.size:=by
  rcases Nat.lt_or_ge r w.heap.size with h|h
  ·exact h
  ·rw [Array.getElem?_eq_none h] at h5;simp at h5
 exact ⟨h4,(hev.same r hlt (zfr hH h5)).trans h5⟩
theorem zjM {d:Option Nat} {v:Value} (hd:∀ i,d=some i->i < a.tmps.size) (t:Nat):(a.put d v).tmps.getD t undef=if d=some t then v else a.tmps.getD t undef:=by
 cases d with
 | none=>simp [Act.put]
 | some i =>
  have hi:=hd i rfl;simp only [Act.put]
  by_cases h:i=t
  ·subst h;simp [hi]
  ·simp [h]
theorem zkd {d:Option Nat} {v:Value}:(a.put d v).tmps.size=a.tmps.size:=by cases d<;>simp [Act.put]
theorem zf2 {d:Option Nat} {v:Value}:(a.put d v).defers=a.defers:=by cases d<;>rfl
theorem R.put (h:R C S base lo nt φ H env a w) (hev:Evo φ H w φ' H' w') (hH:HRel C S base φ' H' w') {d:Option Nat} {av:AV} {v:Value} (hd:∀ i,d=some i->i < nt) (hv:VRel (Imm S base φ' H' w') φ' w' av v) :
  R C S base lo nt φ' H' (zaq env d av) (a.put d v) w':=by
 refine ⟨hH,fun t=>?_,by rw [zkd];exact h.size,Nat.le_trans h.lole hev.size,?_⟩
 ·rw [zjM (by rw [h.size];exact hd)]
  by_cases ht:d=some t
  ·subst ht;simp [zaq,upd];exact hv
  ·rw [if_neg ht];have e:zaq env d av t=env t:=by
    cases d with
    | none=>rfl
    | some i=>simp only [zaq,upd];rw [if_neg (fun e=>ht (by rw [e]))]
   rw [e];exact hev.vrel (h.env t)
 ·rw [zf2];exact zdr h.heap hev h.defs
theorem R.after (h:R C S base lo nt φ H env a w) {d:Option Nat} {v:Value} (hd:∀ i,d=some i->i < nt) (hp:zdN C S base φ H w e v w') :
  ∃ φ',Evo φ H w φ' (apply H e).2 w'/\R C S base lo nt φ' (apply H e).2 (zaq env d (apply H e).1) (a.put d v) w':=by
 cases e with
 | val av =>
  obtain ⟨h1,h2⟩:=hp;exact ⟨φ,Evo.of_below h1,h.put (Evo.of_below h1) (h.heap.below h1) hd h2⟩
 | new ob f =>
  obtain ⟨b,m,h1,h2,h3,h4,h5⟩:=hp;have:=h.heap.new (H':=H.alloc ob) (id:=H.nx) h1 (zfw h.heap) zaG (fun i hi _=>zas hi) (Nat.lt_succ_self _) (Nat.le_succ _) h2 h3 h4;exact ⟨_,this.1,h.put this.1 this.2 hd (h5 _ _ _ (z8 _ _))⟩
 | upd av H1 =>
  obtain ⟨φ',h1,h2,h3⟩:=hp;exact ⟨φ',h1,h.put h1 h2 hd h3⟩
theorem zdo {I:Bool->Nat->Prop}:VRel I φ w (.tup []) undef:=.tup [] #[] rfl fun i p v h=>by simp at h
theorem zbk {I:Bool->Nat->Prop} (hE:ERel I φ w env a) {ops:Array Oper} {g:Option (Nat×Bool)} {g':Option (Option Nat×Bool)} (hg:zcs ops g=some g') {b:Bool} (hw:wanted env g'=some b) (hgo:o.guard=g) :
  Region.wanted o (yielded ops a.tmps)=b:=by
 unfold zcs at hg
 split at hg
 ·simp at hg;subst hg;simp [wanted] at hw;subst hw;simp [Region.wanted,hgo]
 ·rename_i j want
  split at hg
  ·rename_i oj hj
   split at hg
   ·rename_i d hd;simp at hg;subst hg;simp only [wanted] at hw;have hv:=hE d;simp only [Region.wanted,hgo,yielded,hj,Option.bind_some,hd]
    split at hw
    ·rename_i x e1;rw [e1] at hv;simp at hw;subst hw;have:=hv.bool_inv;have hlt:d < a.tmps.size:=by
      rcases Nat.lt_or_ge d a.tmps.size with h|h
      ·exact h
      ·simp [Array.getElem?_eq_none h,undef] at this
     have:a.tmps[d]?=some (.bool x):=by simpa [hlt] using this
     rw [this];rfl
    ·rename_i e1;rw [e1] at hv;simp at hw;subst hw;obtain ⟨vs,e2,e3,_⟩:=hv.tup_inv;have hemp:vs=#[]:=Array.eq_empty_of_size_eq_zero (by simpa using e3.symm);subst hemp;rcases Nat.lt_or_ge d a.tmps.size with h|h
     ·have:a.tmps[d]?=some (.tuple #[]):=by simpa [h] using e2
      rw [this];rfl
     ·simp [Array.getElem?_eq_none h]
    ·simp at hw
   ·simp at hg
  ·simp at hg
theorem zbX {ops:Array Oper} {v:VOper} (h:zc0 P Z nt ops o=some v):v.op=zbQ Z o.dst ((zy P Z o).getD .stuck)/\zcs ops o.guard=some v.guard/\v.dst=o.dst/\∀ i,o.dst=some i->i < nt:=by
 unfold zc0 at h
 split at h
 ·rename_i g' h2
  split at h
  ·rename_i d hd
   split at h
   ·rename_i hlt;simp at h;subst h;exact ⟨by rw [hd],h2,hd.symm,fun i hi=>by rw [hd] at hi;simp at hi;rw [<- hi];exact hlt⟩
   ·simp at h
  ·rename_i hd;simp at h;subst h;exact ⟨by rw [hd],h2,hd.symm,fun i hi=>by rw [hd] at hi;simp at hi⟩
 ·simp at h
theorem zk3 {cl:Callee} (hcl:CalleeOk C P cl) {ops:Array Oper}:∀ (l:List Oper) (vs:List VOper) (k:Nat) (env:Env) (H:Heap) (φ:Phi) (a:Act) (w:World) (env':Env) (H':Heap),
  (∀ j,l[j]?=ops[k+j]?)->zW P Z nt ops l=some vs->zT cl 0 vs env H=some (env',H')->R C S base lo nt φ H env a w ->
  (∀ φ' a' w',Evo φ H w φ' H' w'->R C S base lo nt φ' H' env' a' w'->Q .normal a' w')->wpOpsIn (Fw ro) n P ops Q (List.range' k l.length) a w:=by
 intro l
 induction l with
 | nil =>
  intro vs k env H φ a w env' H' hl hc hr hR hQ;simp [zW] at hc;subst hc;simp [zT] at hr;obtain ⟨rfl,rfl⟩:=hr;simp only [List.length_nil,List.range'_zero,wpOpsIn];exact hQ φ a w Evo.refl hR
 | cons o l ih =>
  intro vs k env H φ a w env' H' hl hc hr hR hQ;unfold zW at hc
  split at hc
  ·simp at hc
  ·rename_i v hv
   split at hc
   ·simp at hc
   ·rename_i vs' hvs;simp at hc;subst hc;obtain ⟨p1,p2,p3,p4⟩:=zbX hv;have h0:ops[k]?=some o:=by simpa using (hl 0).symm
    have hl':∀ j,l[j]?=ops[k+1+j]?:=fun j=>by have:=hl (j+1);simpa [Nat.add_assoc,Nat.add_comm 1 j] using this
    unfold zT at hr
    split at hr
    ·simp at hr
    ·rename_i hw;have hw':=zbk hR.env p2 hw rfl;simp only [List.length_cons,List.range'_succ,wpOpsIn,h0,hw',Bool.false_eq_true,if_false]
     refine ⟨fun _ _=>trivial,?_⟩
     have hR':=hR.put Evo.refl hR.heap (d:=o.dst) p4 (zdo (φ:=φ) (w:=w));rw [p3] at hr;exact ih _ _ _ _ _ _ _ _ _ hl' hvs hr hR' hQ
    ·rename_i hw;have hw':=zbk hR.env p2 hw rfl;simp only [List.length_cons,List.range'_succ,wpOpsIn,h0,hw',if_true]
     split at hr
     ·simp at hr
     ·rename_i e he
      split at hr
      ·rename_i hc;exact absurd rfl hc.1
      ·refine zlK hcl hR.heap hR.env p1 he fun v w' hp=>?_
       obtain ⟨φ',h1,h2⟩:=hR.after (d:=o.dst) p4 hp;rw [p3] at hr;exact ih _ _ _ _ _ _ _ _ _ hl' hvs hr h2 fun φ'' a' w'' h3 h4=>hQ φ'' a' w'' (h1.trans h3) h4
structure Sol (cl:Callee) (vs:List VOper) (pre:Nat) (env:Env) (H:Heap) (envp:Env) (Hp:Heap) (ids:Nat->Nat):Prop where
 ext:HExt H Hp
 nx:H.nx<=Hp.nx
 keep:∀ id,id < H.nx->Hp.get id=H.get id
 old:∀ t,(∀ (i:Nat) (v:VOper),i < pre->vs[i]?=some v->v.dst≠some t)->envp t=env t
 idlo:∀ i,i < pre->H.nx<=ids i
 idinj:∀ i j,i < pre->j < pre->(∃ v o f,vs[i]?=some v/\step cl envp Hp v.op=some (.new o f)/\wanted envp v.guard=some true)->(∃ v o f,vs[j]?=some v/\step cl envp Hp v.op=some (.new o f)/\wanted envp v.guard=some true)->ids i=ids j->i=j
 each:∀ (i:Nat) (v:VOper),i < pre->vs[i]?=some v->(wanted envp v.guard=some false/\(∀ d,v.dst=some d->envp d=.tup [])) \/
  (wanted envp v.guard=some true/\∃ e,step cl envp Hp v.op=some e/\za0 e=false /\
   (match e with
    | .val av=>∀ d,v.dst=some d->envp d=av
    | .new o f=>ids i < Hp.nx/\Hp.get (ids i)=o/\∀ d,v.dst=some d->envp d=f (ids i)
    | .upd _ _=>False))
theorem zhW:HExt H H:=fun _ _ _=>rfl
theorem zky {H1 H2 H3:Heap} (h:HExt H1 H2) (k:HExt H2 H3):HExt H1 H3:=fun id hid hr=>(k id (by rw [h id hid hr];exact hid) (by rw [h id hid hr];exact hr)).trans (h id hid hr)
theorem zkI (o:AObj):HExt H (H.alloc o):=fun id hid _=>zas (fun e=>by
 subst e;exact absurd (zb1 hid) (Nat.lt_irrefl _))
theorem zcZ (cl:Callee) (pre:Nat) (v:VOper) (vs:List VOper) (env:Env) (H:Heap):zT cl pre (v::vs) env H=match wanted env v.guard with
  | none=>none
  | some false=>zT cl (pre - 1) vs (zaq env v.dst (.tup [])) H
  | some true=>match step cl env H v.op with
   | none=>none
   | some e=>if pre≠0/\za0 e then none else zT cl (pre - 1) vs (zaq env v.dst (apply H e).1) (apply H e).2:=rfl
theorem zdK (cl:Callee):∀ (pre:Nat) (vs:List VOper) (env:Env) (H:Heap) (r:Env×Heap),pre<=vs.length->zT cl pre vs env H=some r ->
  ∃ envp Hp,zT cl pre (vs.take pre) env H=some (envp,Hp)/\zT cl 0 (vs.drop pre) envp Hp=some r
 | 0,vs,env,H,r,hl,h=>⟨env,H,by simp [zT],by simpa using h⟩
 | pre+1,[],env,H,r,hl,h=>by simp at hl
 | pre+1,v::vs,env,H,r,hl,h=>by
  simp only [List.take_succ_cons,List.drop_succ_cons,zcZ] at h ⊢
  split at h
  ·simp at h
  ·exact zdK cl pre vs _ _ r (by simpa using hl) h
  ·split at h
   ·simp at h
   ·split at h
    ·simp at h
    ·rename_i hc;rw [if_neg hc];exact zdK cl pre vs _ _ r (by simpa using hl) h
def Once (vs:List VOper):Prop:=∀ (i j:Nat) (a b:VOper),vs[i]?=some a->vs[j]?=some b->∀ d,b.dst=some d->(i≠j->a.dst≠some d)/\(d∈a.reads->j < i)
theorem Once.tail {v:VOper} {vs:List VOper} (h:Once (v::vs)):Once vs:=fun i j a b ha hb d hd=>by
 have:=h (i+1) (j+1) a b (by simpa using ha) (by simpa using hb) d hd;exact ⟨fun hij=>this.1 (fun e=>hij (Nat.succ.inj e)),fun hm=>by have:=this.2 hm;omega⟩
theorem zbo {v:VOper} {env env':Env} (h:∀ t∈v.reads,env t=env' t):wanted env v.guard=wanted env' v.guard:=by
 obtain ⟨dst,op,g⟩:=v
 cases g with
 | none=>rfl
 | some g =>
  obtain ⟨d,want⟩:=g
  cases d with
  | none=>rfl
  | some d =>
   simp only [wanted];rw [h d (by simp [VOper.reads])]
theorem zeM (cl:Callee):∀ (vs:List VOper) (env:Env) (H:Heap) (envp:Env) (Hp:Heap) (pre:Nat),vs.length<=pre->Once vs->zT cl pre vs env H=some (envp,Hp)->∃ ids,Sol cl vs vs.length env H envp Hp ids
 | [],env,H,envp,Hp,pre,hl,ho,h=>by
  simp [zT] at h;obtain ⟨rfl,rfl⟩:=h;exact ⟨fun _=>H.nx,⟨zhW,Nat.le_refl _,fun _ _=>rfl,fun _ _=>rfl,fun i hi=>by simp at hi,fun i j hi=>by simp at hi,fun i v hi=>by simp at hi⟩⟩
 | v::vs,env,H,envp,Hp,pre,hl,ho,h=>by
  simp only [List.length_cons] at hl;have hpre:pre≠0:=by omega
  -- slots: what this one reads and writes is not written any more
  have hread:∀ t∈v.reads,∀ (j:Nat) b,vs[j]?=some b->b.dst≠some t:=fun t ht j b hb hd=>by
   have:=(ho 0 (j+1) v b rfl (by simpa using hb) t hd).2 ht;omega
  have hdst:∀ d,v.dst=some d->∀ (j:Nat) b,vs[j]?=some b->b.dst≠some d:=fun d hd j b hb hd'=>by
   have:=(ho 0 (j+1) v b rfl (by simpa using hb) d hd').1 (by omega);exact this hd
  have hself:∀ d,v.dst=some d->d ∉ v.reads:=fun d hd hm=>by
   have:=(ho 0 0 v v rfl rfl d hd).2 hm;omega
  rw [zcZ] at h
  split at h
  ·simp at h
  ·rename_i hw;obtain ⟨ids,hs⟩:=zeM cl vs _ _ _ _ (pre - 1) (by omega) ho.tail h;have hold:∀ t∈v.reads,envp t=env t:=fun t ht=>by
    rw [hs.old t fun i b hi hb=>hread t ht i b hb]
    cases hd:v.dst with
    | none=>rfl
    | some d=>simp only [zaq,upd];rw [if_neg (fun (e:t=d)=>hself d hd (e ▸ ht))]
   have hw':wanted envp v.guard=some false:=by rw [zbo hold];exact hw
   refine ⟨fun i=>match i with|0=>H.nx|i+1=>ids i,⟨hs.ext,hs.nx,hs.keep,fun t ht=>?_,fun i hi=>?_,fun i j hi hj hvi hvj hij=>?_,fun i b hi hb=>?_⟩⟩
   ·rw [hs.old t fun i b hi hb=>ht (i+1) b (by simp;omega) (by simpa using hb)];have:=ht 0 v (by simp) rfl
    cases hd:v.dst with
    | none=>rfl
    | some d=>simp only [zaq,upd];rw [if_neg (fun e=>this (by rw [hd,e]))]
   ·cases i with
    | zero=>exact Nat.le_refl _
    | succ i=>exact hs.idlo i (by simpa using hi)
   ·cases i with
    | zero=>obtain ⟨b,o,f,e1,_,e3⟩:=hvi;simp at e1;subst e1;rw [hw'] at e3;simp at e3
    | succ i =>
     cases j with
     | zero=>obtain ⟨b,o,f,e1,_,e3⟩:=hvj;simp at e1;subst e1;rw [hw'] at e3;simp at e3
     | succ j=>rw [hs.idinj i j (by simpa using hi) (by simpa using hj) (by simpa using hvi) (by simpa using hvj) hij]
   ·cases i with
    | zero =>
     simp at hb;subst hb
     refine .inl ⟨hw',fun d hd=>?_⟩
     rw [hs.old d fun i b hi hb=>hdst d hd i b hb,hd];simp [zaq,upd]
    | succ i =>
     simp only [List.length_cons] at hi;exact hs.each i b (by omega) (by simpa using hb)
  ·rename_i hw
   split at h
   ·simp at h
   ·rename_i e he
    split at h
    ·simp at h
    ·rename_i hcond;have hup:za0 e=false:=by
      cases hb:za0 e with
      | false=>rfl
      | true=>exact absurd ⟨hpre,hb⟩ hcond
     obtain ⟨ids,hs⟩:=zeM cl vs _ _ _ _ (pre - 1) (by omega) ho.tail h;have hold:∀ t∈v.reads,envp t=env t:=fun t ht=>by
      rw [hs.old t fun i b hi hb=>hread t ht i b hb]
      cases hd:v.dst with
      | none=>rfl
      | some d=>simp only [zaq,upd];rw [if_neg (fun (e:t=d)=>hself d hd (e ▸ ht))]
     have hw':wanted envp v.guard=some true:=by rw [zbo hold];exact hw
     have hext:HExt H (apply H e).2/\H.nx<=(apply H e).2.nx:=by
      cases e with
      | val av=>exact ⟨zhW,Nat.le_refl _⟩
      | new o f=>exact ⟨zkI o,Nat.le_succ _⟩
      | upd av H'=>simp [za0] at hup
     have hext':=zky hext.1 hs.ext;have hkeep:∀ id,id < H.nx->(apply H e).2.get id=H.get id:=fun id hid=>by
      cases e with
      | val av=>rfl
      | new o f=>exact zas (by omega)
      | upd av H'=>simp [za0] at hup
     have he':step cl envp Hp v.op=some e:=by
      refine zif hext' hup ?_
      rw [zcT (env':=env) fun t ht=>hold t (by simp [VOper.reads,ht])];exact he
     have hput:∀ d,v.dst=some d->envp d=(apply H e).1:=fun d hd=>by
      rw [hs.old d fun i b hi hb=>hdst d hd i b hb,hd];simp [zaq,upd]
     refine ⟨fun i=>match i with|0=>H.nx|i+1=>ids i,⟨hext',Nat.le_trans hext.2 hs.nx,fun id hid=>(hs.keep id (Nat.lt_of_lt_of_le hid hext.2)).trans (hkeep id hid),fun t ht=>?_,fun i hi=>?_,fun i j hi hj hvi hvj hij=>?_,fun i b hi hb=>?_⟩⟩
     ·rw [hs.old t fun i b hi hb=>ht (i+1) b (by simp;omega) (by simpa using hb)];have:=ht 0 v (by simp) rfl
      cases hd:v.dst with
      | none=>rfl
      | some d=>simp only [zaq,upd];rw [if_neg (fun e=>this (by rw [hd,e]))]
     ·cases i with
      | zero=>exact Nat.le_refl _
      | succ i=>exact Nat.le_trans hext.2 (hs.idlo i (by simpa using hi))
     ·-- a fresh name is not given again
      have first:∀ j,j < vs.length->(∃ b o f,(v::vs)[0]?=some b/\step cl envp Hp b.op=some (.new o f)/\wanted envp b.guard=some true)->H.nx≠ids j:=by
       rintro j hj ⟨b,o,f,e1,e2,_⟩;simp at e1;subst e1;rw [he'] at e2;simp at e2;subst e2;have h1:=hs.idlo j hj;have h2:(apply H (.new o f)).2.nx=H.nx+1:=rfl;omega
      cases i with
      | zero =>
       cases j with
       | zero=>rfl
       | succ j=>exact absurd hij (first j (by simpa using hj) hvi)
      | succ i =>
       cases j with
       | zero=>exact absurd hij.symm (first i (by simpa using hi) hvj)
       | succ j=>rw [hs.idinj i j (by simpa using hi) (by simpa using hj) (by simpa using hvi) (by simpa using hvj) hij]
     ·cases i with
      | zero =>
       simp at hb;subst hb
       refine .inr ⟨hw',e,he',hup,?_⟩
       cases e with
       | val av=>exact hput
       | new o f =>
        refine ⟨Nat.lt_of_lt_of_le (Nat.lt_succ_self _) hs.nx,?_,hput⟩
        have h1:(H.alloc o).get H.nx=o:=zaG;have h2:=hs.keep H.nx (Nat.lt_succ_self _);exact h2.trans h1
       | upd av H'=>simp [za0] at hup
      | succ i =>
       simp only [List.length_cons] at hi;exact hs.each i b (by omega) (by simpa using hb)
end
theorem zgn {p q:Nat->Bool} {i:Nat} (hi:p i=true) (hq:∀ j,q j=if j=i then false else p j):∀ n,i < n->(List.range n).countP p=(List.range n).countP q+1
 | 0,h=>by omega
 | n+1,h=>by
  rw [List.range_succ,List.countP_append,List.countP_append]
  by_cases hn:n=i
  ·subst hn;have:(List.range n).countP p=(List.range n).countP q:=by
    apply List.countP_congr;intro j hj;have:j≠n:=by have:=List.mem_range.1 hj;omega
    rw [hq,if_neg this]
   rw [this];simp [hi,hq]
  ·rw [zgn hi hq n (by omega)];have:q n=p n:=by rw [hq,if_neg hn]
   simp only [List.countP_cons,List.countP_nil,this];omega
section
variable {C:Comp} {P:Program} {Z:List Nat} {S:Bool->Nat->Prop} {base lo nt:Nat} {φ φ' φ0:Phi} {H H':Heap} {w w' w0:World} {env env' envp:Env} {a:Act} {e:Eff} {o:Oper} {Hp:Heap}
variable {ro:Option Nat} {n:Nat} {K:Act->World->Prop} {Q:Exit->Act->World->Prop}
theorem za3 {ops:Array Oper}:∀ {l:List Oper} {vs:List VOper},zW P Z nt ops l=some vs->vs.length=l.length/\∀ (i:Nat) v,vs[i]?=some v->∃ o,l[i]?=some o/\zc0 P Z nt ops o=some v
 | [],vs,h=>by simp [zW] at h;subst h;exact ⟨rfl,fun i v h=>by simp at h⟩
 | o::l,vs,h=>by
  unfold zW at h
  split at h
  ·simp at h
  ·rename_i v hv
   split at h
   ·simp at h
   ·rename_i vs' hvs;simp at h;subst h;have ih:=za3 hvs
    refine ⟨by simp [ih.1],fun i u hu=>?_⟩
    cases i with
    | zero=>simp at hu;subst hu;exact ⟨o,rfl,hv⟩
    | succ i=>simp at hu;simpa using ih.2 i u hu
inductive Waits (ops:Array Oper):Nat->Nat->Prop
 | edge (i:Nat) (o:Oper) (e:Edge) (h:ops[i]?=some o) (he:e∈o.after) (hb:Region.binds .any e=true):Waits ops i e.on
 | trans (i j:Nat) (o:Oper) (e:Edge) (h:ops[i]?=some o) (he:e∈o.after) (hb:Region.binds .any e=true) (ht:Waits ops e.on j):Waits ops i j
theorem Waits.done {ops:Array Oper} {L:Array Bool} (hc:∀ i o,ops[i]?=some o->L.getD i true=true->∀ e∈o.after,Region.binds .any e=true->L.getD e.on true=true)
  {i j:Nat} (h:Waits ops i j):(∀ o,ops[i]?=some o->∀ e∈o.after,Region.binds .any e=true->L.getD e.on true=true)->L.getD j true=true:=by
 induction h with
 | edge i o e h he hb=>intro hd;exact hd o h e he hb
 | trans i j o e h he hb ht ih=>intro hd;exact ih fun o' ho'=>hc _ o' ho' (hd o h e he hb)
theorem zjL {ops:Array Oper} {ms:List Nat} (hms:∀ i j,(ms.getD i 0).testBit j=true->Waits ops i j) {i:Nat} {o:Oper} (ho:ops[i]?=some o) {j:Nat} (h:(znv ms o).testBit j=true):Waits ops i j:=by
 have main:∀ (l:List Edge) (m:Nat),(∀ e∈l,e∈o.after)->(m.testBit j=true->Waits ops i j) ->
   (l.foldl (fun m e=>if Region.binds .any e then m ||| (2 ^ e.on) ||| ms.getD e.on 0 else m) m).testBit j=true->Waits ops i j:=by
  intro l
  induction l with
  | nil=>intro m _ hm h;exact hm h
  | cons e l ih =>
   intro m hl hm h
   refine ih _ (fun e' he'=>hl e' (List.mem_cons_of_mem _ he')) (fun hb=>?_) h
   simp only at hb
   split at hb
   ·rename_i hbi;rw [Nat.testBit_or,Nat.testBit_or,Bool.or_eq_true,Bool.or_eq_true] at hb;rcases hb with (hb|hb)|hb
    ·exact hm hb
    ·rw [Nat.testBit_two_pow] at hb;simp at hb;subst hb;exact .edge i o e ho (hl e (List.mem_cons_self ..)) hbi
    ·exact .trans i j o e ho (hl e (List.mem_cons_self ..)) hbi (hms _ _ hb)
   ·exact hm hb
 exact main o.after.toList 0 (fun e he=>by simpa using he) (fun h=>by simp at h) h
theorem zcK {ops:Array Oper}:∀ (os:List Oper) (ms:List Nat),(∀ k,os[k]?=ops[ms.length+k]?)->(∀ i j,(ms.getD i 0).testBit j=true->Waits ops i j) ->
  ∀ i j,((masks os ms).getD i 0).testBit j=true->Waits ops i j
 | [],ms,_,hms=>hms
 | o::os,ms,ho,hms=>by
  unfold masks
  refine zcK os _ (fun k=>?_) fun i j h=>?_
  ·have:=ho (k+1);simp only [List.getElem?_cons_succ] at this;rw [this];simp only [List.length_append,List.length_cons,List.length_nil]
   congr 1
   omega
  ·have h0:=ho 0;simp only [List.getElem?_cons_zero,Nat.add_zero] at h0;rcases Nat.lt_trichotomy i ms.length with hlt|heq|hgt
   ·refine hms i j ?_
    simpa [List.getD_eq_getElem?_getD,List.getElem?_append_left hlt] using h
   ·subst heq
    refine zjL hms h0.symm ?_
    simpa [List.getD_eq_getElem?_getD] using h
   ·rw [List.getD_eq_getElem?_getD,List.getElem?_eq_none (by simp;omega)] at h;simp at h
structure DrawOk (ops:Array Oper) (vs:List VOper) (pre:Nat):Prop where
 back:∀ i o,ops[i]?=some o->∀ e∈o.after,Region.binds .any e=true->e.on < i
 wait:∀ i o,ops[i]?=some o->pre+inits vs pre<=i->∀ j,j < i->za2 vs j=false->Waits ops i j
 ini:∀ i,pre<=i->i < pre+inits vs pre->i < ops.size/\∃ s a x,vs[i]?=some ⟨none,.storeI s (.tmp a) x,none⟩ /\
  ∀ o,ops[i]?=some o->∀ (j:Nat) (y:VOper) d,j < pre->vs[j]?=some y->y.dst=some d->d∈VOper.reads ⟨none,.storeI s (.tmp a) x,none⟩->∃ e∈o.after,Region.binds .any e=true/\e.on=j
 idle:∀ (i:Nat) v,vs[i]?=some v->zav v=true->v.guard=none/\∃ d,v.dst=some d/\∀ (j:Nat) b,pre<=j->j≠i->vs[j]?=some b->b.dst≠some d/\(∀ t∈v.op.reads,b.dst≠some t)/\(d∈b.plain.reads->Waits ops j i)
 mem:∀ (i j:Nat) (v b:VOper) (x:Opnd),vs[i]?=some v->zc3 v=some x->pre<=j->vs[j]?=some b->zjk b=true\/zcp b x=true\/Waits ops j i
 once:∀ (i j:Nat) (x y:VOper) o,i < pre->j < pre->vs[i]?=some x->vs[j]?=some y->ops[i]?=some o->∀ d,y.dst=some d->(i≠j->x.dst≠some d)/\(d∈x.reads->j < i/\∃ e∈o.after,Region.binds .any e=true/\e.on=j)
 onceI:∀ (i j:Nat) (x y:VOper) o,vs[i]?=some x->vs[j]?=some y->zav x=true->zav y=true->ops[i]?=some o->∀ d,y.dst=some d->(i≠j->x.dst≠some d)/\(d∈x.reads->j < i/\∃ e∈o.after,Region.binds .any e=true/\e.on=j)
theorem ze8 {α:Type} {p:α->Bool}:∀ {l:List α} {i:Nat},i < (l.takeWhile p).length->∃ a,l[i]?=some a/\p a=true
 | [],i,h=>by simp at h
 | b::l,i,h=>by
  rw [List.takeWhile_cons] at h
  split at h
  ·rename_i hb
   cases i with
   | zero=>exact ⟨b,rfl,hb⟩
   | succ i=>simpa using ze8 (l:=l) (i:=i) (by simpa using h)
  ·simp at h
theorem zjB {ops:Array Oper} {vs:List VOper} {pre:Nat} (hvl:vs.length=ops.size) (h:zda ops vs pre=true):DrawOk ops vs pre:=by
 unfold zda at h;simp only [Bool.and_eq_true,List.all_eq_true,List.mem_range] at h;obtain ⟨⟨⟨⟨⟨⟨⟨h1,h2⟩,h6⟩,h8⟩,h7⟩,h4⟩,h3⟩,hI⟩:=h;have hget:∀ i o,ops[i]?=some o->i < ops.size/\ops.getD i default=o:=fun i o ho=>by
  have hlt:=(Array.getElem?_eq_some_iff.1 ho).1
  refine ⟨hlt,?_⟩
  have:=(Array.getElem?_eq_some_iff.1 ho).2;simp [hlt,this]
 have hmf:∀ (o:Oper) j,zcI o j=true->∃ e∈o.after,Region.binds .any e=true/\e.on=j:=fun o j hm=>by
  unfold zcI at hm;rw [Array.any_eq_true'] at hm;obtain ⟨e,he,hb⟩:=hm;simp at hb;exact ⟨e,he,hb.2,hb.1⟩
 refine ⟨fun i o ho e he hb=>?_,fun i o ho hpi j hj hidle=>?_,fun i hpi hpi2=>?_,fun i v hv hidle=>?_,fun i j v b x hv hm hj hb=>?_,fun i j x y o hi hj hx hy ho d hd=>?_,fun i j x y o hx hy ix iy ho d hd=>?_⟩
 ·obtain ⟨hlt,hg⟩:=hget i o ho;have:=h1 i hlt;rw [hg,Array.all_eq_true'] at this;have:=this e he;simp [hb] at this;exact this
 ·obtain ⟨hlt,hg⟩:=hget i o ho;have:=h2 i hlt;simp only [Bool.or_eq_true,decide_eq_true_eq] at this;rcases this with h|h
  ·omega
  ·refine zcK (ops:=ops) ops.toList [] (fun k=>by simp) (fun i j h=>by simp at h) i j ?_
   unfold zlk at h;have:=List.all_eq_true.1 h j (List.mem_range.2 hj);rw [hidle,Bool.or_false] at this;exact this
 ·have hx:i - pre < ((vs.drop pre).takeWhile zfL).length:=by unfold inits at hpi2;omega
  obtain ⟨v,hv,hin⟩:=ze8 hx;rw [List.getElem?_drop,show pre+(i - pre)=i by omega] at hv;unfold zfL at hin
  split at hin
  ·rename_i s a x;have hlo:i < ops.size:=by
    rcases Nat.lt_or_ge i ops.size with h|h
    ·exact h
    ·exfalso;have:=hvl;have:=(List.getElem?_eq_some_iff.1 hv).1;omega
   refine ⟨hlo,s,a,x,hv,?_⟩
   have:=h6 i hlo;simp only [Bool.or_eq_true,decide_eq_true_eq] at this;rcases this with (h|h)|h
   ·omega
   ·omega
   ·unfold zn7 at h;rw [hv] at h;simp only [List.all_eq_true,List.mem_range] at h;have h9:=h
    refine fun o ho j y d hj hy hd hm=>?_
    have:=h9 j hj;rw [hy] at this;simp only [hd] at this;rw [(hget i o ho).2] at this;simp only [Bool.or_eq_true,Bool.not_eq_true',List.contains_eq_mem,decide_eq_false_iff_not] at this;rcases this with h|h
    ·exact absurd hm h
    ·exact hmf o j h
  ·simp at hin
 ·have hlt:i < vs.length:=(List.getElem?_eq_some_iff.1 hv).1;have:=h4 i hlt;rw [hv] at this;simp only [hidle,Bool.not_true,Bool.false_or] at this;have h5:=this;unfold znW at h5
  split at h5
  ·rename_i d hd hgd
   refine ⟨hgd,d,hd,fun j b hj hji hb=>?_⟩
   have hjl:j < vs.length:=(List.getElem?_eq_some_iff.1 hb).1;have:=List.all_eq_true.1 h5 j (List.mem_range.2 hjl);rw [hb] at this;simp only [Bool.or_eq_true,decide_eq_true_eq,Bool.and_eq_true,bne_iff_ne,ne_eq,List.all_eq_true,Bool.not_eq_true',List.contains_eq_mem,decide_eq_false_iff_not,beq_iff_eq] at this;rcases this with (h|h)|h
   ·omega
   ·exact absurd h hji
   ·refine ⟨h.1.1,h.1.2,fun hm=>?_⟩
    rcases h.2 with h6|h6
    ·exact absurd hm h6
    ·exact zcK (ops:=ops) ops.toList [] (fun k=>by simp) (fun i j h=>by simp at h) j i h6
  ·simp at h5
 ·have hil:i < vs.length:=(List.getElem?_eq_some_iff.1 hv).1;have hjl:j < vs.length:=(List.getElem?_eq_some_iff.1 hb).1;have h9:=h8 i hil;rw [hv] at h9;simp only [hm,List.all_eq_true,List.mem_range] at h9;have h10:=h9 j hjl;rw [hb] at h10;simp only [Bool.or_eq_true,decide_eq_true_eq] at h10;rcases h10 with h|(h|h)|h
  ·omega
  ·exact .inl h
  ·exact .inr (.inl h)
  ·exact .inr (.inr (zcK (ops:=ops) ops.toList [] (fun k=>by simp) (fun i j h=>by simp at h) j i h))
 ·obtain ⟨hlt,hg⟩:=hget i o ho;have:=h3 i hi j hj;rw [hx,hy] at this;simp only [hd] at this;rw [hg] at this;simp at this
  refine ⟨fun hij=>?_,fun hm=>?_⟩
  ·rcases this.1 with h|h
   ·exact absurd h hij
   ·exact h
  ·rcases this.2 with h|h
   ·exact absurd hm h
   ·exact ⟨h.1,hmf o j h.2⟩
 ·obtain ⟨hlt,hg⟩:=hget i o ho;have hil:i < vs.length:=(List.getElem?_eq_some_iff.1 hx).1;have hjl:j < vs.length:=(List.getElem?_eq_some_iff.1 hy).1;have:=hI i hil j hjl;rw [hx,hy] at this;simp only [hd,ix,iy] at this;rw [hg] at this;simp at this
  refine ⟨fun hij=>?_,fun hm=>?_⟩
  ·rcases this.1 with h|h
   ·exact absurd h hij
   ·exact h
  ·rcases this.2 with h|h
   ·exact absurd hm h
   ·exact ⟨h.1,hmf o j h.2⟩
theorem zfA {ops:Array Oper} {vs:List VOper} {pre:Nat} (h:zda ops vs pre=true):pre<=ops.size:=by
 unfold zda at h;simp only [Bool.and_eq_true,decide_eq_true_eq] at h;exact h.1.1.1.2
theorem HRel.ext' (h:HRel C S base φ H w) (hk:∀ id,id < H.nx->Hp.get id=H.get id) (hnx:H.nx<=Hp.nx):Evo φ H w φ Hp w/\HRel C S base φ Hp w:=by
 have hget:∀ id x,φ id=some x->Hp.get id=H.get id:=fun id x hx=>hk id (h.nx _ _ hx);have hev:Evo φ H w φ Hp w:=⟨fun _ _ h=>h,rfl,rfl,rfl,Nat.le_refl _,fun _ _ _=>rfl,fun b _ ⟨id,m,hid,hl⟩=>⟨id,m,hid,by rw [<- hget _ _ hid];exact hl⟩,hnx⟩
 refine ⟨hev,h.sz,h.out,fun id x hx=>Nat.lt_of_lt_of_le (h.nx _ _ hx) hnx,h.lt,fun id b m hid=>?_,fun i j b m m' hi hj di dj=>h.inj _ _ _ _ _ hi hj (by rw [<- hget _ _ hi];exact di) (by rw [<- hget _ _ hj];exact dj),h.glob_evo hev⟩
 rw [hget _ _ hid];exact (h.obj _ _ _ hid).mono (fun _ b hb=>hev.imm hb) (fun _ _ h=>h) rfl
def zgg (cl:Callee) (vs:List VOper) (envp:Env) (Hp:Heap) (i:Nat):Prop:=∃ v o f,vs[i]?=some v/\step cl envp Hp v.op=some (.new o f)/\wanted envp v.guard=some true
structure DInv (ops:Array Oper) (C:Comp) (S:Bool->Nat->Prop) (base lo nt:Nat) (cl:Callee) (vs:List VOper) (pre:Nat) (envp:Env) (Hp:Heap) (hc:Array Bool->Heap) (ids:Nat->Nat) (φ0:Phi) (H:Heap) (w0:World) (L:Array Bool) (φ:Phi) (a:Act) (w:World):Prop where
 heap:HRel C S base φ (hc L) w
 env:∀ t,(∀ (i:Nat) v,i < pre->L.getD i true=false->vs[i]?=some v->v.dst≠some t)->VRel (Imm S base φ (hc L) w) φ w (envp t) (a.tmps.getD t undef)
 size:a.tmps.size=nt
 lole:lo<=w.heap.size
 defs:∃ marks:List Nat,a.defers=marks.map zcH/\marks.Nodup/\∀ r∈marks,lo<=r/\w.heap[r]?=some (.deferred (some []))
 phi:∀ i,i < pre->L.getD i true=false->zgg cl vs envp Hp i->φ (ids i)=none
 closed:∀ i o,ops[i]?=some o->L.getD i true=true->∀ e∈o.after,Region.binds .any e=true->L.getD e.on true=true
 evo:Evo φ0 H w0 φ (hc L) w
theorem zdH {L:Array Bool} {i j:Nat} (d:Bool):(L.setIfInBounds i true).getD j d=if i=j/\j < L.size then true else L.getD j d:=by
 by_cases h:i=j
 ·subst h
  by_cases hl:i < L.size
  ·simp [hl]
  ·simp [hl]
 ·simp [h]
structure Inits (cl:Callee) (vs:List VOper) (pre k:Nat) (envp:Env) (Hp:Heap) (tgt:Nat->Nat) (obj:Nat->AObj):Prop where
 each:∀ i,pre<=i->i < pre+k->∀ s a x,vs[i]?=some ⟨none,.storeI s (.tmp a) x,none⟩->∃ off z,envp a=.box (tgt i) off/\Hp.get (tgt i)=.raw z/\∀ Hq,Hq.get (tgt i)=.raw z->step cl envp Hq (.storeI s (.tmp a) x)=some (.upd (.tup []) (Hq.set (tgt i) (obj i)))
 inj:∀ i j,pre<=i->i < pre+k->pre<=j->j < pre+k->tgt i=tgt j->i=j
 cells:∀ i,pre<=i->i < pre+k->(∃ cs,obj i=.cells true cs)/\∃ z,Hp.get (tgt i)=.raw z
theorem zlm {cl:Callee} {s:Nat} {x y:Opnd} (h:step cl env H (.storeI s x y)=some e):∃ id off z cs,x.eval env=.box id off/\H.get id=.raw z/\(∀ H2,H2.get id=.raw z->step cl env H2 (.storeI s x y)=some (.upd (.tup []) (H2.set id (.cells true cs))))/\e=.upd (.tup []) (H.set id (.cells true cs)):=by
 simp only [step] at h
 split at h
 ·rename_i id off h1
  split at h
  ·rename_i z h2
   split at h
   ·rename_i h3;simp only [Option.some.injEq] at h;exact ⟨id,off,z,_,h1,h2,fun H2 h4=>by simp only [step,h1,h4];rw [if_pos h3],h.symm⟩
   ·simp at h
  ·simp at h
 ·simp at h
noncomputable def hcur (Hp:Heap) (pre k:Nat) (tgt:Nat->Nat) (obj:Nat->AObj) (L:Array Bool):Heap :=
 ⟨Hp.nx,fun id=>open Classical in if h:∃ i,pre<=i/\i < pre+k/\L.getD i true=true/\tgt i=id then obj (Classical.choose h) else Hp.arr id⟩
section
variable {cl:Callee} {vs:List VOper} {pre k:Nat} {tgt:Nat->Nat} {obj:Nat->AObj} {L:Array Bool}
theorem zfJ {id:Nat} (h:∀ i,pre<=i->i < pre+k->L.getD i true=true->tgt i≠id):(hcur Hp pre k tgt obj L).get id=Hp.get id:=by
 unfold Heap.get hcur;simp only;rw [dif_neg (by rintro ⟨i,h1,h2,h3,h4⟩;exact h i h1 h2 h3 h4)]
theorem zdi (hi:Inits cl vs pre k envp Hp tgt obj) {i:Nat} (h1:pre<=i) (h2:i < pre+k) (h3:L.getD i true=true):(hcur Hp pre k tgt obj L).arr (tgt i)=obj i:=by
 unfold hcur;simp only;have h:∃ j,pre<=j/\j < pre+k/\L.getD j true=true/\tgt j=tgt i:=⟨i,h1,h2,h3,rfl⟩
 rw [dif_pos h];obtain ⟨q1,q2,q3,q4⟩:=Classical.choose_spec h;rw [hi.inj _ _ q1 q2 h1 h2 q4]
theorem zbc {id:Nat} (h:∀ i,pre<=i->i < pre+k->L.getD i true=true->tgt i≠id):(hcur Hp pre k tgt obj L).arr id=Hp.arr id:=by
 unfold hcur;simp only;rw [dif_neg (by rintro ⟨i,h1,h2,h3,h4⟩;exact h i h1 h2 h3 h4)]
theorem zkl {L':Array Bool} (hi:Inits cl vs pre k envp Hp tgt obj) (h:∀ i,pre<=i->i < pre+k->L'.getD i true=L.getD i true):hcur Hp pre k tgt obj L'=hcur Hp pre k tgt obj L:=by
 refine Heap.ext' rfl fun id=>?_
 by_cases hx:∃ i,pre<=i/\i < pre+k/\L.getD i true=true/\tgt i=id
 ·obtain ⟨i,h1,h2,h3,rfl⟩:=hx;rw [zdi hi h1 h2 h3,zdi hi h1 h2 (by rw [h i h1 h2];exact h3)]
 ·rw [zbc (fun i h1 h2 h3 h4=>hx ⟨i,h1,h2,h3,h4⟩),zbc (fun i h1 h2 h3 h4=>hx ⟨i,h1,h2,by rw [<- h i h1 h2];exact h3,h4⟩)]
theorem zn2 (hi:Inits cl vs pre k envp Hp tgt obj) {i:Nat} (h1:pre<=i) (h2:i < pre+k) (hL:i < L.size):(hcur Hp pre k tgt obj L).set (tgt i) (obj i)=hcur Hp pre k tgt obj (L.setIfInBounds i true):=by
 refine Heap.ext' rfl fun id=>?_
 show upd _ _ _ id=_;simp only [upd]
 split
 ·rename_i he;subst he;rw [zdi hi h1 h2 (by rw [zdH,if_pos ⟨rfl,hL⟩])]
 ·rename_i hne
  by_cases hx:∃ j,pre<=j/\j < pre+k/\L.getD j true=true/\tgt j=id
  ·obtain ⟨j,q1,q2,q3,rfl⟩:=hx;have q5:(L.setIfInBounds i true).getD j true=true:=by
    rw [zdH]
    split
    ·rfl
    ·exact q3
   rw [zdi hi q1 q2 q3,zdi hi q1 q2 q5]
  ·rw [zbc (fun j q1 q2 q3 q4=>hx ⟨j,q1,q2,q3,q4⟩),zbc (fun j q1 q2 q3 q4=>?_)];rw [zdH] at q3
   split at q3
   ·rename_i hh;obtain ⟨rfl,_⟩:=hh;exact hne q4.symm
   ·exact hx ⟨j,q1,q2,q3,q4⟩
theorem zj0 (hi:Inits cl vs pre k envp Hp tgt obj):HExt Hp (hcur Hp pre k tgt obj L):=fun id _ hr=>zfJ fun i h1 h2 _ he=>by
 obtain ⟨_,z,hz⟩:=hi.cells i h1 h2;rw [he] at hz;exact hr z hz
theorem ziT (hvl:∀ i,pre<=i->i < pre+k->∃ s a x,vs[i]?=some ⟨none,.storeI s (.tmp a) x,none⟩) {r:Env×Heap} (hr:zT cl 0 (vs.drop pre) envp Hp=some r) :
  ∃ tgt obj HI,Inits cl vs pre k envp Hp tgt obj/\HI.nx=Hp.nx/\(∀ id,(∀ i,pre<=i->i < pre+k->tgt i≠id)->HI.arr id=Hp.arr id)/\(∀ i,pre<=i->i < pre+k->HI.arr (tgt i)=obj i)/\zT cl 0 (vs.drop (pre+k)) envp HI=some r:=by
 induction k with
 | zero=>exact ⟨fun _=>0,fun _=>.dead,Hp,⟨fun i h1 h2=>by omega,fun i j h1 h2=>by omega,fun i h1 h2=>by omega⟩,rfl,fun _ _=>rfl,fun i h1 h2=>by omega,hr⟩
 | succ k ih =>
  obtain ⟨tgt,obj,HI,hi,hn,ha,hb,hrun⟩:=ih fun i h1 h2=>hvl i h1 (by omega);obtain ⟨s,a,x,hv⟩:=hvl (pre+k) (by omega) (by omega);have hd:vs.drop (pre+k)=⟨none,.storeI s (.tmp a) x,none⟩::vs.drop (pre+(k+1)):=by
   have hlt:=(List.getElem?_eq_some_iff.1 hv)
   rw [List.drop_eq_getElem_cons hlt.1,hlt.2];rfl
  rw [hd] at hrun;simp only [zT,wanted,zaq] at hrun
  split at hrun
  ·simp at hrun
  ·rename_i ee hs;obtain ⟨id,off,z,cs,q1,q2,q3,rfl⟩:=zlm hs;simp only [za0,apply] at hrun;rw [if_neg (by simp)] at hrun;have hlt:id < HI.nx:=zb1 (by rw [q2];simp);have harr:HI.arr id=.raw z:=by unfold Heap.get at q2;rw [if_pos hlt] at q2;exact q2
   have hfresh:∀ i,pre<=i->i < pre+k->tgt i≠id:=fun i h1 h2 he=>by
    have:=hb i h1 h2;rw [he,harr] at this;obtain ⟨⟨cs',hc'⟩,_⟩:=hi.cells i h1 h2;rw [hc'] at this;simp at this
   have hHp:Hp.get id=.raw z:=by
    unfold Heap.get;rw [if_pos (by omega),<- ha id hfresh];exact harr
   have t1:∀ i,i < pre+k->upd tgt (pre+k) id i=tgt i:=fun i h=>by simp only [upd];rw [if_neg (by omega)]
   have t2:upd tgt (pre+k) id (pre+k)=id:=by simp [upd]
   have o1:∀ i,i < pre+k->upd obj (pre+k) (.cells true cs) i=obj i:=fun i h=>by simp only [upd];rw [if_neg (by omega)]
   have o2:upd obj (pre+k) (.cells true cs) (pre+k)=.cells true cs:=by simp [upd]
   refine ⟨upd tgt (pre+k) id,upd obj (pre+k) (.cells true cs),HI.set id (.cells true cs),⟨fun i h1 h2 s' a' x' hv'=>?_,fun i j h1 h2 h3 h4 he=>?_,fun i h1 h2=>?_⟩,hn,fun id2 h=>?_,fun i h1 h2=>?_,hrun⟩
   ·rcases Nat.lt_or_ge i (pre+k) with h|h
    ·rw [t1 i h,o1 i h];exact hi.each i h1 h s' a' x' hv'
    ·have:i=pre+k:=by omega
     subst this;rw [hv] at hv';simp only [Option.some.injEq,VOper.mk.injEq,VOp.storeI.injEq,Opnd.tmp.injEq,true_and,and_true] at hv';obtain ⟨rfl,rfl,rfl⟩:=hv';rw [t2,o2];exact ⟨off,z,q1,hHp,q3⟩
   ·rcases Nat.lt_or_ge i (pre+k) with h|h<;>rcases Nat.lt_or_ge j (pre+k) with h'|h'
    ·rw [t1 i h,t1 j h'] at he;exact hi.inj i j h1 h h3 h' he
    ·rw [t1 i h,show j=pre+k by omega,t2] at he;exact absurd he (hfresh i h1 h)
    ·rw [t1 j h',show i=pre+k by omega,t2] at he;exact absurd he.symm (hfresh j h3 h')
    ·omega
   ·rcases Nat.lt_or_ge i (pre+k) with h|h
    ·rw [t1 i h,o1 i h];exact hi.cells i h1 h
    ·rw [show i=pre+k by omega,t2,o2];exact ⟨⟨cs,rfl⟩,z,hHp⟩
   ·have hne:=h (pre+k) (by omega) (by omega);rw [t2] at hne;show upd _ _ _ id2=_;simp only [upd];rw [if_neg (fun e=>hne e.symm)];exact ha id2 fun i h1 h2=>by have:=h i h1 (by omega);rwa [t1 i h2] at this
   ·show upd _ _ _ _=_;rcases Nat.lt_or_ge i (pre+k) with h|h
    ·rw [t1 i h,o1 i h];simp only [upd];rw [if_neg (hfresh i h1 h)];exact hb i h1 h
    ·rw [show i=pre+k by omega,t2,o2];simp [upd]
theorem zhz {P:Program} {Z:List Nat} {o:Oper} {s:Nat} {x y:Opnd} (h:VOp.storeI s x y=zbQ Z none ((zy P Z o).getD .stuck)):.store s x y=(zy P Z o).getD .stuck:=by
 unfold zbQ at h;simp only at h
 split at h
 ·rename_i s' t x' hx
  split at h
  ·simp only [VOp.storeI.injEq] at h;obtain ⟨rfl,rfl,rfl⟩:=h;exact hx.symm
  ·split at h<;>simp at h
 ·exfalso
  cases hc:zy P Z o with
  | none=>rw [hc] at h;simp at h
  | some v =>
   rw [hc] at h;simp only [Option.getD_some] at h;subst h;unfold zy at hc
   revert hc
   (repeat' split)<;>simp
end
theorem zL {L:Array Bool} {i j:Nat} (d:Bool):(L.setIfInBounds i true).getD j d=if i=j/\j < L.size then true else L.getD j d:=by
 by_cases h:i=j
 ·subst h
  by_cases hl:i < L.size
  ·simp [hl]
  ·simp [hl]
 ·simp [h]
theorem zhi {ops:Array Oper} {L:Array Bool} (hL:L.size=ops.size) (hback:∀ i o,ops[i]?=some o->∀ e∈o.after,Region.binds .any e=true->e.on < i)
  (hex:∃ i,i < ops.size/\L.getD i true=false):Region.ready .any ops L≠[]:=by
 have key:∀ k,(∃ i,i < k/\L.getD i true=false/\i < ops.size)->∃ i,L.getD i true=false/\i < ops.size/\∀ j,j < i->L.getD j true=true:=by
  intro k
  induction k with
  | zero=>rintro ⟨i,hi,_⟩;omega
  | succ k ihk =>
   rintro ⟨i,hi,hl,hs⟩
   by_cases hlow:∃ i,i < k/\L.getD i true=false/\i < ops.size
   ·exact ihk hlow
   ·refine ⟨i,hl,hs,fun j hj=>?_⟩
    cases hjl:L.getD j true with
    | true=>rfl
    | false=>exact absurd ⟨j,by omega,hjl,by omega⟩ hlow
 obtain ⟨i0,hi0,hl0⟩:=hex;obtain ⟨i,hl,hs,hmin⟩:=key (i0+1) ⟨i0,by omega,hl0,by omega⟩;intro hnil;have hg:ops[i]?=some ops[i]:=Array.getElem?_eq_getElem hs;have:i∈Region.ready .any ops L:=mem_ready.2 ⟨hl,_,hg,fun e he hb=>by
  have hlt:=hback i _ hg e he hb;have:=hmin e.on hlt;simp [hL,show e.on < ops.size by omega] at this ⊢;exact this⟩
 rw [hnil] at this
 cases this
abbrev Closed (ops:Array Oper) (L:Array Bool):Prop:=∀ i o,ops[i]?=some o->L.getD i true=true->∀ e∈o.after,Region.binds .any e=true->L.getD e.on true=true
theorem zb5 {ops:Array Oper} {L:Array Bool} (hL:L.size=ops.size) (hback:∀ i o,ops[i]?=some o->∀ e∈o.after,Region.binds .any e=true->e.on < i) {i:Nat} (hi:i∈Region.ready .any ops L) :
  L.getD i true=false/\i < ops.size/\∀ o,ops[i]?=some o->∀ e∈o.after,Region.binds .any e=true->L.getD e.on true=true:=by
 obtain ⟨hu,oi,ho,hall⟩:=mem_ready.1 hi;have hi':i < ops.size:=(Array.getElem?_eq_some_iff.1 ho).1
 refine ⟨hu,hi',fun o ho' e he hb=>?_⟩
 rw [ho] at ho';simp only [Option.some.injEq] at ho';subst ho';have hlt':=hback i _ ho e he hb;have:=hall e he hb;simp [hL,show e.on < ops.size by omega] at this ⊢;exact this
theorem zeG {ops:Array Oper} {L:Array Bool} (hL:L.size=ops.size) (hc:Closed ops L) {i:Nat} (hi:∀ o,ops[i]?=some o->∀ e∈o.after,Region.binds .any e=true->L.getD e.on true=true):Closed ops (L.setIfInBounds i true):=by
 intro i1 o1 hq hd e he hb;rw [zL]
 split
 ·rfl
 ·by_cases hii:i1=i
  ·subst hii;exact hi o1 hq e he hb
  ·rw [zL,if_neg (fun h=>hii h.1.symm)] at hd;exact hc i1 o1 hq hd e he hb
theorem zfE {ops:Array Oper} {L:Array Bool} (hL:L.size=ops.size) {i m:Nat} (hi:i < ops.size) (hu:L.getD i true=false) (hm:m+1=(List.range ops.size).countP (fun i=>!L.getD i true)) :
  m=(List.range ops.size).countP (fun j=>!(L.setIfInBounds i true).getD j true):=by
 have:=zgn (p:=fun j=>!L.getD j true) (q:=fun j=>!(L.setIfInBounds i true).getD j true) (i:=i) (by simp only [hu];rfl) (fun j=>by
  simp only [zL]
  by_cases hj:j=i
  ·subst hj;simp [hL,hi]
  ·rw [if_neg hj,if_neg (fun h=>hj h.1.symm)]) ops.size hi
 omega
def CellsSame (H H2:Heap):Prop:=∀ id own cs,H.get id=.cells own cs->H2.get id=.cells own cs
theorem HExt.same {H2:Heap} (h:HExt H H2):CellsSame H H2:=fun _ _ _ hg=>h.cells hg
theorem zoa {cl:Callee} {v:VOper} (hv:zjk v=true) (h:step cl env H v.op=some e):CellsSame H (apply H e).2:=by
 obtain ⟨dst,op,guard⟩:=v
 cases op<;>simp only [zjk] at hv<;>first|contradiction|skip
 simp only [step] at h
 split at h
 ·rename_i id key x e1 e2 e3
  split at h
  ·rename_i es hg
   split at h
   ·simp only [Option.some.injEq] at h;subst h;intro i own cs hi;have hne:i≠id:=fun he=>by subst he;rw [hg] at hi;simp at hi
    show Heap.get (Heap.set _ _ _) _=_;unfold Heap.get Heap.set at *;simp only [upd];rw [if_neg hne];exact hi
   ·simp at h
  ·simp at h
 ·simp at h
theorem zgR {H2:Heap} (h:CellsSame H H2) {s:Nat} {v:AV} {cs:List AV} (hl:zH H s v=some cs):zH H2 s v=some cs:=by
 unfold zH at hl ⊢
 split at hl
 ·exact hl
 ·split at hl
  ·rename_i hg;rw [h _ _ _ hg];exact hl
  ·simp at hl
 ·simp at hl
def zcB (v:VOper) (env:Env) (H H2:Heap):Prop:=∀ x,zc3 v=some x->∀ s cs,zH H s (x.eval env)=some cs->zH H2 s (x.eval env)=some cs
theorem zdE {v:VOper}:zcB v env H H:=fun _ _ _ _ h=>h
theorem CellsSame.reads {v:VOper} {H2:Heap} (h:CellsSame H H2):zcB v env H H2:=fun _ _ _ _ hl=>zgR h hl
theorem zgk:∀ {p q:PV},p.plainEq q=true->p=q
 | .int k a,.int k' b,h=>by simp [PV.plainEq] at h;rw [h.1,h.2]
 | .bool a,.bool b,h=>by simp [PV.plainEq] at h;rw [h]
 | .str _,_,h|.agg _,_,h|.tup _,_,h|.nils,_,h|.slice _ _ _,_,h|.nilp,_,h|.ptr _ _ _,_,h|.func _ _,_,h|.nilf,_,h|.meth _ _,_,h=>by simp [PV.plainEq] at h
 | .int _ _,.bool _,h|.int _ _,.str _,h|.int _ _,.agg _,h|.int _ _,.tup _,h|.int _ _,.nils,h|.int _ _,.slice _ _ _,h|.int _ _,.nilp,h|.int _ _,.ptr _ _ _,h|.int _ _,.func _ _,h|.int _ _,.nilf,h|.int _ _,.meth _ _,h=>by simp [PV.plainEq] at h
 | .bool _,.int _ _,h|.bool _,.str _,h|.bool _,.agg _,h|.bool _,.tup _,h|.bool _,.nils,h|.bool _,.slice _ _ _,h|.bool _,.nilp,h|.bool _,.ptr _ _ _,h|.bool _,.func _ _,h|.bool _,.nilf,h|.bool _,.meth _ _,h=>by simp [PV.plainEq] at h
theorem zeX {α:Type} {f:α->α->Bool} (hf:∀ a b,f a b=true->a=b):∀ {l m:List α},all2 f l m=true->l=m
 | [],[],_=>rfl
 | a::l,[],h=>by simp [all2] at h
 | [],b::m,h=>by simp [all2] at h
 | a::l,b::m,h=>by
  simp only [all2,Bool.and_eq_true] at h;rw [hf a b h.1,zeX hf h.2]
theorem zhb:∀ (n:Nat) (p q:PV),PV.sameN n p q=true->p=q
 | 0,_,_,h=>by simp [PV.sameN] at h
 | n+1,p,q,h=>by
  unfold PV.sameN at h
  split at h
  ·split at h
   ·simp only [Bool.and_eq_true,beq_iff_eq] at h;rw [h.1.1,h.1.2,zeX (fun _ _ h=>zeX (zhb n) h) h.2]
   ·simp at h
  ·split at h
   ·simp only [Bool.and_eq_true,beq_iff_eq] at h;rw [h.1.1,h.1.2,zeX (zhb n) h.2]
   ·simp at h
  ·split at h
   ·rfl
   ·simp at h
  ·exact zgk h
theorem zlo (a b:AV) (h:AV.sameCap a b=true):a=b:=by
 unfold AV.sameCap at h
 split at h
 ·rw [zhb _ _ _ h]
 ·simp only [Bool.and_eq_true,beq_iff_eq] at h;rw [h.1,h.2]
 ·simp at h
theorem zdz:∀ {l m:List AV},zbs l m=true->l=m
 | [],[],_=>rfl
 | a::l,[],h=>by cases a<;>simp [zbs] at h
 | [],b::m,h=>by simp [zbs] at h
 | a::l,b::m,h=>by
  cases a<;>cases b<;>first|(simp [zbs] at h;done)|skip
  ·simp only [zbs,Bool.and_eq_true] at h;rw [zgk h.1,zdz h.2]
  ·simp only [zbs,Bool.and_eq_true,beq_iff_eq] at h;rw [h.1.1,zeX zlo h.1.2,zdz h.2]
theorem zhF {H:Heap} {sz bytes s:Nat} {a b v:AV} {e:Eff} {cs:List AV} (h:zi H sz bytes a b=some e) (hbe:zed a v=true) (hl:zH H s v=some cs):zH (apply H e).2 s v=some cs:=by
 have key:∀ id off,v=.box id off->(apply H e).2.get id=H.get id->zH (apply H e).2 s v=some cs:=fun id off hv hg=>by
  subst hv;unfold zH at hl ⊢;simp only at hl ⊢;rw [hg];exact hl
 unfold zed at hbe
 split at hbe
 ·rename_i rid s' o' n' id off;have hne:id≠rid:=by simpa using hbe
  have hlt:id < H.nx:=by
   unfold zH at hl;simp only at hl
   split at hl
   ·rename_i hg;exact zb1 (by rw [hg];simp)
   ·simp at hl
  refine key id off rfl ?_
  unfold zi at h
  split at h
  ·simp at h
  ·split at h
   ·simp at h
   ·simp only at h
    split at h
    ·split at h
     ·split at h
      ·simp only [Option.some.injEq] at h;subst h;exact zg hne
      ·split at h
       ·simp only [Option.some.injEq] at h;subst h;show ((H.set rid .dead).alloc _).get id=_;rw [zas (Nat.ne_of_lt (by exact hlt)),zg hne]
       ·simp at h
     ·simp at h
    ·simp at h
 ·rename_i id off;have hlt:id < H.nx:=by
   unfold zH at hl;simp only at hl
   split at hl
   ·rename_i hg;exact zb1 (by rw [hg];simp)
   ·simp at hl
  refine key id off rfl ?_
  unfold zi at h
  split at h
  ·simp at h
  ·split at h
   ·simp at h
   ·simp only at h
    split at h
    ·simp only [Option.some.injEq] at h;subst h;rfl
    ·split at h
     ·simp only [Option.some.injEq] at h;subst h;exact zas (Nat.ne_of_lt hlt)
     ·simp at h
 ·simp at hbe
theorem zjV {cl:Callee} {b v:VOper} (hb:∀ x,zc3 v=some x->zcp b x=true) (h:step cl env H b.op=some e):zcB v env H (apply H e).2:=by
 intro x hx s cs hl;have h1:=hb x hx;obtain ⟨dst,op,guard⟩:=b;unfold zcp at h1;simp only at h1 h
 split at h1
 ·rename_i sz a y ls;rw [List.any_eq_true] at h1;obtain ⟨l,hlm,h2⟩:=h1;have hlx:l=x:=by
   unfold zga at h2
   split at h2
   ·simp only [beq_iff_eq] at h2;rw [h2]
   ·simp at h2
  subst hlx;simp only [step] at h
  split at h
  ·rename_i id off ha
   split at h
   ·rename_i hall
    split at h
    ·rename_i cs0 hg
     split at h
     ·simp only [Option.some.injEq] at h;subst h;have hbe:=List.all_eq_true.1 hall l hlm;unfold zH at hl ⊢
      split at hl
      ·exact hl
      ·rename_i i2 o2 hv;rw [hv] at hbe;simp only [beside,bne_iff_ne,ne_eq] at hbe;have e:(Heap.set H id (.cells true (cs0.take off++(y.eval env).cells++cs0.drop (off+sz)))).get i2=H.get i2:=by
        unfold Heap.get Heap.set;simp only [upd];rw [if_neg hbe]
       simp only [apply];rw [e];exact hl
      ·simp at hl
     ·simp at h
    ·simp at h
   ·simp at h
  ·simp at h
 ·rename_i f xs ls;rw [List.any_eq_true] at h1;obtain ⟨l,hlm,h2⟩:=h1;have hlx:l=x:=by
   unfold zga at h2
   split at h2
   ·simp only [beq_iff_eq] at h2;rw [h2]
   ·simp at h2
  subst hlx;simp only [step] at h
  split at h
  ·rename_i v H2 hd
   split at h
   ·rename_i hall;simp only [Option.some.injEq] at h;subst h;have hk:=List.all_eq_true.1 hall l hlm;show zH H2 s (l.eval env)=some cs;unfold keeps at hk
    split at hk
    ·rename_i id off hv
     split at hk
     ·rename_i o c1 o2 c2 g1 g2;simp only [Bool.and_eq_true,beq_iff_eq] at hk;have hc:=zdz hk.2;subst hc;rw [hv] at hl ⊢;simp only [zH] at hl ⊢;rw [g1] at hl;rw [g2];exact hl
     ·simp at hk
    ·simp at hk
   ·simp at h
  ·simp at h
 ·rename_i sz bytes a y ls;rw [List.any_eq_true] at h1;obtain ⟨l,hlm,h2⟩:=h1;have hlx:l=x:=by
   unfold zga at h2
   split at h2
   ·simp only [beq_iff_eq] at h2;rw [h2]
   ·simp at h2
  subst hlx;simp only [step] at h
  split at h
  case isFalse=>simp at h
  rename_i hall;exact zhF h (List.all_eq_true.1 hall l hlm) hl
 ·simp only [step] at h
  split at h
  ·simp only [Option.some.injEq] at h;subst h;exact hl
  ·simp only [Option.some.injEq] at h;subst h;exact hl
  ·simp at h
 ·simp at h1
theorem zcz {cl:Callee} {v:VOper} (hv:zav v=true) {e:Eff} (h:step cl env H v.op=some e):∃ av,e=.val av/\∀ env2 H2,zcB v env H H2->(∀ t∈v.op.reads,env2 t=env t)->step cl env2 H2 v.op=some (.val av):=by
 obtain ⟨dst,op,guard⟩:=v;have hval:∃ av,e=.val av:=by
  cases op<;>simp only [zav] at hv<;>first|contradiction|skip
  all_goals
   simp only [step] at h
   revert h
   (repeat' split)<;>(intro h;simp at h)<;>first|exact ⟨_,h.symm⟩|exact ⟨_,h.2.symm⟩|exact ⟨_,h.choose_spec.2.symm⟩
 obtain ⟨av,rfl⟩:=hval
 refine ⟨av,rfl,fun env2 H2 hm h3=>?_⟩
 rw [zcT h3]
 cases hml:zc3 ⟨dst,op,guard⟩ with
 | none =>
  have hH:step cl env H2 op=step cl env H op:=by
   cases op<;>first|rfl|(exfalso;simp [zc3] at hml;done)|(exfalso;simp [zav] at hv;done)
  simp only at h ⊢;rw [hH,h]
 | some x =>
  have hs:=hm x hml
  cases op<;>simp only [zc3] at hml<;>first|contradiction|skip
  simp only [Option.some.injEq] at hml;subst hml;simp only [step] at h ⊢
  split at h
  ·rename_i cs hl;rw [hs _ _ hl];exact h
  ·simp at h
noncomputable def mask (vs:List VOper) (L:Array Bool) (env:Env):Env:=fun t =>
 open Classical in if ∃ (i:Nat) (v:VOper),vs[i]?=some v/\zav v=true/\L.getD i true=false/\v.dst=some t then .undef else env t
theorem zeT {vs:List VOper} {L:Array Bool} {t:Nat} (h:∀ (i:Nat) (v:VOper),vs[i]?=some v->zav v=true->v.dst=some t->L.getD i true=true):mask vs L env t=env t:=by
 unfold mask;rw [if_neg];rintro ⟨i,v,h1,h2,h3,h4⟩;rw [h i v h1 h2 h4] at h3;simp at h3
theorem zev {vs:List VOper} {L L':Array Bool} {env':Env} {t:Nat} (h:∀ (i:Nat) (v:VOper),vs[i]?=some v->zav v=true->v.dst=some t->L'.getD i true=L.getD i true) (he:env' t=env t):mask vs L' env' t=mask vs L env t:=by
 have hiff:(∃ (i:Nat) (v:VOper),vs[i]?=some v/\zav v=true/\L'.getD i true=false/\v.dst=some t)↔(∃ (i:Nat) (v:VOper),vs[i]?=some v/\zav v=true/\L.getD i true=false/\v.dst=some t):=by
  constructor
  ·rintro ⟨i,v,h1,h2,h3,h4⟩;exact ⟨i,v,h1,h2,by rw [<- h i v h1 h2 h4];exact h3,h4⟩
  ·rintro ⟨i,v,h1,h2,h3,h4⟩;exact ⟨i,v,h1,h2,by rw [h i v h1 h2 h4];exact h3,h4⟩
 unfold mask
 by_cases hx:∃ (i:Nat) (v:VOper),vs[i]?=some v/\zav v=true/\L.getD i true=false/\v.dst=some t
 ·rw [if_pos (hiff.2 hx),if_pos hx]
 ·rw [if_neg (fun h=>hx (hiff.1 h)),if_neg hx];exact he
theorem zhn {cl:Callee} {ops:Array Oper} {vs:List VOper} {pre:Nat} (hok:DrawOk ops vs pre) (hvlen:vs.length=ops.size) {L:Array Bool} {H:Heap} {r:Env×Heap}:∀ (q k:Nat) (env:Env),q=ops.size - k->pre+inits vs pre<=k->k<=ops.size ->
  (∀ i,i < k->za2 vs i=false->L.getD i true=true)->(∀ i,k<=i->i < ops.size->L.getD i true=false) ->
  (∀ (i:Nat) v,i < k->vs[i]?=some v->zav v=true->L.getD i true=false->∀ d,v.dst=some d->step cl env H v.op=some (.val (env d))) ->
  zT cl 0 (vs.drop k) env H=some r ->
  ∃ k' env2,k<=k'/\k'<=ops.size/\(k' < ops.size->za2 vs k'=false)/\(∀ i,i < k'->za2 vs i=false->L.getD i true=true) /\
   (∀ (i:Nat) v,i < k'->vs[i]?=some v->zav v=true->L.getD i true=false->∀ d,v.dst=some d->step cl env2 H v.op=some (.val (env2 d))) /\
   zT cl 0 (vs.drop k') env2 H=some r/\mask vs L env2=mask vs L env
 | 0,k,env,hq,hpk,hks,h1,h2,hid,hr=>⟨k,env,Nat.le_refl _,hks,fun h=>by omega,h1,hid,hr,rfl⟩
 | q+1,k,env,hq,hpk,hks,h1,h2,hid,hr=>by
  cases hik:za2 vs k with
  | false=>exact ⟨k,env,Nat.le_refl _,hks,fun _=>hik,h1,hid,hr,rfl⟩
  | true =>
   have hkl:k < vs.length:=by omega
   have hvk:vs[k]?=some vs[k]:=List.getElem?_eq_getElem hkl;have hidle:zav vs[k]=true:=by unfold za2 at hik;rw [hvk] at hik;exact hik
   obtain ⟨hgn,d,hd,hdist⟩:=hok.idle k _ hvk hidle;have hgk:ops[k]?=some ops[k]:=Array.getElem?_eq_getElem (by omega);rw [List.drop_eq_getElem_cons hkl,zcZ] at hr;have hw:wanted env vs[k].guard=some true:=by rw [hgn];rfl
   rw [hw] at hr;simp only at hr
   split at hr
   ·simp at hr
   ·rename_i e he
    split at hr
    ·rename_i hcc;exact absurd rfl hcc.1
    ·obtain ⟨av,rfl,hfl⟩:=zcz hidle he;simp only [apply] at hr;have hown:d ∉ vs[k].op.reads:=fun hm=>by
      have:=(hok.onceI k k _ _ _ hvk hvk hidle hidle hgk d hd).2 (by simp [VOper.reads,hm]);omega
     have hput:∀ t,d≠t->zaq env vs[k].dst av t=env t:=fun t ht=>by
      rw [hd];simp only [zaq,upd];rw [if_neg (fun e=>ht e.symm)]
     have hputd:zaq env vs[k].dst av d=av:=by rw [hd];simp [zaq,upd]
     obtain ⟨k',env2,a1,a2,a3,a4,a5,a6,a7⟩:=zhn hok hvlen q (k+1) (zaq env vs[k].dst av) (by omega) (by omega) (by omega)
      (fun i hi hni=>by
       rcases Nat.lt_or_ge i k with h|h
       ·exact h1 i h hni
       ·rw [show i=k by omega] at hni;rw [hik] at hni;simp at hni)
      (fun i hi hs=>h2 i (by omega) hs)
      (fun i v hi hv hvid hl d' hd'=>by
       rcases Nat.lt_or_ge i k with h|h
       ·obtain ⟨_,d2,hd2,hdist2⟩:=hok.idle i _ hv hvid;have hdd:d'=d2:=by rw [hd'] at hd2;simpa using hd2
        subst hdd;have hne:=hdist2 k _ (by omega) (by omega) hvk;rw [hd] at hne;have hst:=hid i v h hv hvid hl d' hd';obtain ⟨av',hav,hfl'⟩:=zcz hvid hst;simp only [Eff.val.injEq] at hav;subst hav;rw [hput d' fun e=>hne.1 (by rw [e])];exact hfl' _ _ zdE fun t ht=>hput t fun e=>hne.2.1 t ht (by rw [e])
       ·have hik':i=k:=by omega
        subst hik';rw [hvk] at hv;simp only [Option.some.injEq] at hv;subst hv;rw [hd] at hd';simp only [Option.some.injEq] at hd';subst hd';rw [hputd];exact hfl _ _ zdE fun t ht=>hput t fun e=>hown (e ▸ ht))
      hr
     refine ⟨k',env2,by omega,a2,a3,a4,a5,a6,a7.trans ?_⟩
     funext t
     by_cases ht:d=t
     ·subst ht;have:∀ env3:Env,mask vs L env3 d=.undef:=fun env3=>by
       unfold mask;rw [if_pos ⟨k,_,hvk,hidle,h2 k (Nat.le_refl _) (by omega),hd⟩]
      rw [this,this]
     ·exact zev (fun _ _ _ _ _=>rfl) (hput t ht)
theorem zl6 {cl:Callee} (hcl:CalleeOk C P cl) {ops:Array Oper} {vs:List VOper} {pre:Nat} (hok:DrawOk ops vs pre) (hcomp:zW P Z nt ops ops.toList=some vs):∀ (m:Nat) (k:Nat) (L:Array Bool) (env:Env) (H:Heap) (φ:Phi) (a:Act) (w:World) (env':Env) (H':Heap),
  m=(List.range ops.size).countP (fun i=>!L.getD i true)->pre+inits vs pre<=k->k<=ops.size->L.size=ops.size->(∀ i,i < k->za2 vs i=false->L.getD i true=true)->(∀ i,k<=i->i < ops.size->L.getD i true=false)->Closed ops L ->
  (∀ (i:Nat) v,i < k->vs[i]?=some v->zav v=true->L.getD i true=false->∀ d,v.dst=some d->step cl env H v.op=some (.val (env d))) ->
  zT cl 0 (vs.drop k) env H=some (env',H')->R C S base lo nt φ H (mask vs L env) a w ->
  (∀ φ' a' w',Evo φ H w φ' H' w'->R C S base lo nt φ' H' env' a' w'->Q .normal a' w')->wpAnyIn (Fw ro) n P .any ops Q m L a w:=by
 have hget:=za3 hcomp;have hvlen:vs.length=ops.size:=by simpa using hget.1
 intro m
 induction m with
 | zero =>
  intro k L env H φ a w env' H' hm hpk hks hL h1 h2 hcls hid hr hR hQ;obtain ⟨k2,env2,b1,b2,b3,b4,b5,b6,b7⟩:=zhn hok hvlen _ k env rfl hpk hks h1 h2 hid hr;rw [<- b7] at hR;clear hid hr h1 b7;have h2:∀ i,k2<=i->i < ops.size->L.getD i true=false:=fun i hi=>h2 i (by omega);have hpk:pre+inits vs pre<=k2:=by omega
  clear b1 hks;generalize k2=k at *;generalize env2=env at *;have hks:=b2;have hr:=b6;have hall:∀ i,i < ops.size->L.getD i true=true:=fun i hi=>by
   have:=List.countP_eq_zero.1 hm.symm i (List.mem_range.2 hi)
   simpa using this
  have hk:k=ops.size:=by
   rcases Nat.lt_or_ge k ops.size with h|h
   ·have h3:=h2 k (Nat.le_refl _) h;rw [hall k h] at h3;simp at h3
   ·omega
  have hdv:vs.drop k=[]:=by rw [List.drop_eq_nil_iff];omega
  rw [hdv] at hr;simp [zT] at hr;obtain ⟨rfl,rfl⟩:=hr;have hmask:mask vs L env=env:=funext fun t=>zeT fun i v hv _ _=>hall i (by have:=(List.getElem?_eq_some_iff.1 hv).1;omega);rw [hmask] at hR
  refine ⟨?_,hQ _ _ _ Evo.refl hR⟩
  rw [List.eq_nil_iff_forall_not_mem];intro i hi;obtain ⟨hu,hlt,_⟩:=zb5 hL hok.back hi;rw [hall i hlt] at hu;simp at hu
 | succ m ih =>
  intro k L env H φ a w env' H' hm hpk hks hL h1 h2 hcls hid hr hR hQ;obtain ⟨k2,env2,b1,b2,b3,b4,b5,b6,b7⟩:=zhn hok hvlen _ k env rfl hpk hks h1 h2 hid hr;rw [<- b7] at hR;have h2:∀ i,k2<=i->i < ops.size->L.getD i true=false:=fun i hi=>h2 i (by omega);have hpk:pre+inits vs pre<=k2:=by omega
  clear hid hr h1 b7 b1 hks;have h1:=b4;have hid:=b5;have hr:=b6;have hks:=b2;clear b4 b5 b6 b2;generalize k2=k at *;generalize env2=env at *;have hex:∃ i,i < ops.size/\L.getD i true=false:=by
   have:0 < (List.range ops.size).countP (fun i=>!L.getD i true):=by omega
   obtain ⟨i,hi,hp⟩:=List.countP_pos_iff.1 this;exact ⟨i,List.mem_range.1 hi,by simpa using hp⟩
  refine ⟨fun h=>absurd h (zhi hL hok.back hex),fun i hi=>?_⟩
  obtain ⟨hu,hlt,hdeps⟩:=zb5 hL hok.back hi;have hL':(L.setIfInBounds i true).size=ops.size:=by simpa using hL
  have hm':=zfE hL hlt hu hm;have hcls':=zeG hL hcls hdeps;have hgi:ops[i]?=some ops[i]:=Array.getElem?_eq_getElem hlt;have hvi:vs[i]?=some vs[i]:=List.getElem?_eq_getElem (by omega);obtain ⟨o',ho',hco⟩:=hget.2 i _ hvi;rw [Array.getElem?_toList,hgi] at ho';simp only [Option.some.injEq] at ho';subst ho';obtain ⟨p1,p2,p3,p4⟩:=zbX hco;have hund:∀ j,(L.setIfInBounds i true).getD j true=false->L.getD j true=false:=fun j hj=>by
   rw [zL] at hj
   split at hj
   ·simp at hj
   ·exact hj
  cases hidle:zav vs[i] with
  | true =>
   obtain ⟨hgn,d,hd,hdist⟩:=hok.idle i _ hvi hidle;have hik:i < k:=by
    refine Classical.byContradiction fun hn=>?_
    have hki:=b3 (by omega);have hne:i≠k:=fun e=>by
     subst e;unfold za2 at hki;rw [hvi] at hki;simp only [hidle] at hki;simp at hki
    have:=(hok.wait i _ hgi (by omega) k (by omega) hki).done hcls hdeps;rw [h2 k (Nat.le_refl _) (by omega)] at this;simp at this
   have hst0:=hid i _ hik hvi hidle hu d hd;obtain ⟨av,hav,hfl⟩:=zcz hidle hst0;simp only [Eff.val.injEq] at hav;subst hav;have hst:step cl (mask vs L env) H vs[i].op=some (.val (env d)):=hfl _ _ zdE fun t ht=>zeT fun i' v' hv' hid' hd'=>by
    obtain ⟨_,h3⟩:=hok.onceI i i' _ v' _ hvi hv' hidle hid' hgi t hd';obtain ⟨_,e,he,hb,hon⟩:=h3 (by simp [VOper.reads,ht]);have:=hdeps _ hgi e he hb;rw [hon] at this;exact this
   have hw':=zbk hR.env p2 (b:=true) (by rw [hgn];rfl) rfl;unfold wpOpIn;simp only [hgi];rw [hw'];simp only [if_true]
   refine zlK hcl hR.heap hR.env p1 hst fun u w' hp=>?_
   obtain ⟨φ',g1,g2⟩:=hR.after (d:=ops[i].dst) p4 hp;have henv:zaq (mask vs L env) ops[i].dst (apply H (.val (env d))).1=mask vs (L.setIfInBounds i true) env:=by
    rw [<- p3,hd]
    funext t
    simp only [zaq,upd,apply]
    split
    ·rename_i ht;subst ht
     refine (zeT fun i' v' hv' hid' hd'=>?_).symm
     have hii:i=i':=by
      rcases Decidable.em (i=i') with h|h
      ·exact h
      ·exact absurd hd ((hok.onceI i i' _ v' _ hvi hv' hidle hid' hgi t hd').1 h)
     rw [zL,if_pos ⟨hii,by omega⟩]
    ·rename_i ht
     refine (zev (fun i' v' hv' hid' hd'=>?_) rfl).symm
     rw [zL,if_neg];rintro ⟨rfl,_⟩;rw [hvi] at hv';simp only [Option.some.injEq] at hv';subst hv';rw [hd] at hd';simp only [Option.some.injEq] at hd';exact ht hd'.symm
   rw [henv] at g2
   refine ih k _ env H φ' _ w' env' H' hm' hpk hks hL' (fun j hj hji=>?_) (fun j hj hjs=>?_) hcls' (fun j v hjk hv hi hl=>hid j v hjk hv hi (hund j hl)) hr g2 fun φ'' a' w'' h3 h4=>hQ φ'' a' w'' (g1.trans h3) h4
   ·rw [zL]
    split
    ·rfl
    ·exact h1 j hj hji
   ·rw [zL,if_neg (by omega)];exact h2 j hj hjs
  | false =>
   have hik:i=k:=by
    rcases Nat.lt_trichotomy i k with h|h|h
    ·have:=h1 i h (by unfold za2;rw [hvi];exact hidle);rw [hu] at this;simp at this
    ·exact h
    ·exfalso;have hki:za2 vs k=false:=b3 (by omega);have:=(hok.wait i _ hgi (by omega) k h hki).done hcls hdeps;rw [h2 k (Nat.le_refl _) (by omega)] at this;simp at this
   subst hik;have h1':∀ j,j < i+1->za2 vs j=false->(L.setIfInBounds i true).getD j true=true:=fun j hj hji=>by
    rw [zL]
    split
    ·rfl
    ·rename_i hne;exact h1 j (by rw [hL] at hne;omega) hji
   have h2':∀ j,i+1<=j->j < ops.size->(L.setIfInBounds i true).getD j true=false:=fun j hj hjs=>by
    rw [zL,if_neg (by omega)];exact h2 j (by omega) hjs
   have hid':∀ (H2:Heap) (av:AV),(∀ (j:Nat) v,vs[j]?=some v->(L.setIfInBounds i true).getD j true=false->zcB v env H H2)->∀ (j:Nat) v,j < i+1->vs[j]?=some v->zav v=true->(L.setIfInBounds i true).getD j true=false->∀ d,v.dst=some d->step cl (zaq env vs[i].dst av) H2 v.op=some (.val (zaq env vs[i].dst av d)):=by
    intro H2 av hsame j v hjk hv hvid hlj d hd;obtain ⟨_,d',hd',hdist⟩:=hok.idle j _ hv hvid;have hdd:d=d':=by rw [hd] at hd';simpa using hd'
    subst hdd;have hji:i≠j:=fun e=>by
     subst e;rw [hvi] at hv;simp only [Option.some.injEq] at hv;subst hv;rw [hidle] at hvid;simp at hvid
    have hst:=hid j _ (by omega) hv hvid (hund j hlj) d hd;have hne:=hdist i _ (by omega) hji hvi;have hput:∀ t,vs[i].dst≠some t->zaq env vs[i].dst av t=env t:=fun t ht=>by
     cases hd:vs[i].dst with
     | none=>rfl
     | some y=>simp only [zaq,upd];rw [if_neg (fun e=>ht (by rw [hd,e]))]
    rw [hput d hne.1];obtain ⟨av',hav,hfl⟩:=zcz hvid hst;simp only [Eff.val.injEq] at hav;subst hav;exact hfl _ _ (hsame j v hv hlj) fun t ht=>hput t (hne.2.1 t ht)
   have hmr:∀ t∈vs[i].plain.reads,mask vs L env t=env t:=fun t ht=>zeT fun i' v' hv' hid2 hd'=>by
    obtain ⟨_,d',hd2,hdist⟩:=hok.idle i' _ hv' hid2;have hdd:t=d':=by rw [hd'] at hd2;simpa using hd2
    subst hdd;exact ((hdist i _ (by omega) (fun e=>by subst e;rw [hvi] at hv';simp only [Option.some.injEq] at hv';subst hv';rw [hidle] at hid2;simp at hid2) hvi).2.2 ht).done hcls hdeps
   have hmput:∀ av,zaq (mask vs L env) ops[i].dst av=mask vs (L.setIfInBounds i true) (zaq env vs[i].dst av):=by
    intro av;rw [<- p3]
    funext t
    have hcong:∀ env2:Env,env2 t=env t->mask vs (L.setIfInBounds i true) env2 t=mask vs L env t:=fun env2 he=>zev (fun i' v' hv' hid2 hd'=>by
     rw [zL,if_neg];rintro ⟨rfl,_⟩;rw [hvi] at hv';simp only [Option.some.injEq] at hv';subst hv';rw [hidle] at hid2;simp at hid2) he
    cases hdi:vs[i].dst with
    | none=>exact (hcong env rfl).symm
    | some y =>
     simp only [zaq,upd]
     split
     ·rename_i ht;subst ht;have:mask vs (L.setIfInBounds i true) (upd env t av) t=upd env t av t:=zeT fun i' v' hv' hid2 hd'=>by
       obtain ⟨_,d',hd2,hdist⟩:=hok.idle i' _ hv' hid2;have hdd:t=d':=by rw [hd'] at hd2;simpa using hd2
       subst hdd;exact absurd hdi (hdist i _ (by omega) (fun e=>by subst e;rw [hvi] at hv';simp only [Option.some.injEq] at hv';subst hv';rw [hidle] at hid2;simp at hid2) hvi).1
      simpa [upd] using this.symm
     ·rename_i ht;exact (hcong _ (by simp only [upd];rw [if_neg ht])).symm
   have hdropv:vs.drop i=vs[i]::vs.drop (i+1):=List.drop_eq_getElem_cons (by omega);rw [hdropv,zcZ] at hr;unfold wpOpIn;simp only [hgi]
   split at hr
   ·simp at hr
   ·rename_i hw;have hw':=zbk hR.env p2 (b:=false) (by rw [show wanted (mask vs L env) vs[i].guard=wanted env vs[i].guard from zbo (v:=vs[i].plain) hmr];exact hw) rfl;rw [hw'];simp only [Bool.false_eq_true,if_false]
    refine ⟨fun _ _=>trivial,?_⟩
    have hR':=hR.put Evo.refl hR.heap (d:=ops[i].dst) p4 (zdo (φ:=φ) (w:=w));rw [hmput] at hR';exact ih (i+1) _ _ _ _ _ _ _ _ hm' (by omega) (by omega) hL' h1' h2' hcls' (hid' _ _ fun _ _ _ _=>zdE) hr hR' hQ
   ·rename_i hw;have hw':=zbk hR.env p2 (b:=true) (by rw [show wanted (mask vs L env) vs[i].guard=wanted env vs[i].guard from zbo (v:=vs[i].plain) hmr];exact hw) rfl;rw [hw'];simp only [if_true]
    split at hr
    ·simp at hr
    ·rename_i e he
     split at hr
     ·rename_i hcc;exact absurd rfl hcc.1
     ·have he':step cl (mask vs L env) H vs[i].op.plain=some e:=by
       rw [zcT (env':=env) fun t ht=>hmr t (by simp [VOper.reads,VOper.plain,ht])];exact zdJ he
      have hrs:∀ (j:Nat) v,vs[j]?=some v->(L.setIfInBounds i true).getD j true=false->zcB v env H (apply H e).2:=fun j v hv hlj=>by
       cases hma:zc3 v with
       | none=>exact fun x hx=>by rw [hma] at hx;simp at hx
       | some x =>
        rcases hok.mem j i v _ x hv hma (by omega) hvi with h|h|h
        ·exact (zoa h he).reads
        ·exact zjV (fun y hy=>by rw [hma] at hy;simp only [Option.some.injEq] at hy;rw [<- hy];exact h) he
        ·have:=h.done hcls hdeps;rw [hund j hlj] at this;simp at this
      refine zpX hcl hR.heap hR.env p1 he' fun u w' hp=>?_
      obtain ⟨φ',g1,g2⟩:=hR.after (d:=ops[i].dst) p4 hp;rw [hmput] at g2;exact ih (i+1) _ _ _ _ _ _ _ _ hm' (by omega) (by omega) hL' h1' h2' hcls' (hid' _ _ hrs) hr g2 fun φ'' a' w'' h3 h4=>hQ φ'' a' w'' (g1.trans h3) h4
theorem znT {cl:Callee} (hcl:CalleeOk C P cl) {ops:Array Oper} {vs:List VOper} {pre:Nat} (hok:DrawOk ops vs pre) (hpre:pre<=ops.size) (hcomp:zW P Z nt ops ops.toList=some vs) {envp:Env} {Hp HI:Heap} {ids:Nat->Nat} {w0:World} {tgt:Nat->Nat} {obj:Nat->AObj}
  (hsol:Sol cl (vs.take pre) pre env H envp Hp ids) (hini:Inits cl vs pre (inits vs pre) envp Hp tgt obj) (hik:pre+inits vs pre<=ops.size)
  (hHI:∀ L:Array Bool,(∀ i,pre<=i->i < pre+inits vs pre->L.getD i true=true)->hcur Hp pre (inits vs pre) tgt obj L=HI) (htail:zT cl 0 (vs.drop (pre+inits vs pre)) envp HI=some (env',H'))
  (hQ:∀ φ' a' w',Evo φ0 H w0 φ' H' w'->R C S base lo nt φ' H' env' a' w'->Q .normal a' w'):∀ (m:Nat) (L:Array Bool) (φ:Phi) (a:Act) (w:World),
  m=(List.range ops.size).countP (fun i=>!L.getD i true)->L.size=ops.size->(∀ i,pre+inits vs pre<=i->i < ops.size->L.getD i true=false) ->
  DInv ops C S base lo nt cl vs pre envp Hp (hcur Hp pre (inits vs pre) tgt obj) ids φ0 H w0 L φ a w->wpAnyIn (Fw ro) n P .any ops Q m L a w:=by
 have hget:=za3 hcomp;have hvlen:vs.length=ops.size:=by simpa using hget.1
 have hidp:∀ (i:Nat) v,i < pre->vs[i]?=some v->zav v=true->∀ d,v.dst=some d->step cl envp Hp v.op=some (.val (envp d)):=by
  intro i v hip hv hidle d hd;obtain ⟨hgn,_⟩:=hok.idle i v hv hidle;have hvt:(vs.take pre)[i]?=some v:=by rw [List.getElem?_take_of_lt hip];exact hv
  rcases hsol.each i v hip hvt with ⟨hw,_⟩|⟨_,e,he,_,hres⟩
  ·rw [hgn] at hw;simp [wanted] at hw
  ·obtain ⟨av,rfl,_⟩:=zcz hidle he;rw [he,hres d hd]
 have toTail:∀ (m:Nat) (L:Array Bool) (φ:Phi) (a:Act) (w:World),m=(List.range ops.size).countP (fun i=>!L.getD i true)->L.size=ops.size->(∀ i,pre+inits vs pre<=i->i < ops.size->L.getD i true=false) ->
   DInv ops C S base lo nt cl vs pre envp Hp (hcur Hp pre (inits vs pre) tgt obj) ids φ0 H w0 L φ a w->(∀ i,i < pre+inits vs pre->za2 vs i=false->L.getD i true=true)->wpAnyIn (Fw ro) n P .any ops Q m L a w:=by
  intro m L φ a w hm hL h2 hD hall;have hnoi:∀ i,pre<=i->i < pre+inits vs pre->za2 vs i=false:=fun i h1 h2=>by
   obtain ⟨_,s,b,x,hv,_⟩:=hok.ini i h1 h2;unfold za2;rw [hv];rfl
  have hheq:hcur Hp pre (inits vs pre) tgt obj L=HI:=hHI L fun i h1 h2=>hall i h2 (hnoi i h1 h2);have hR:R C S base lo nt φ HI (mask vs L envp) a w:=⟨by rw [<- hheq];exact hD.heap,fun t=>by
   rw [<- hheq]
   by_cases ht:∃ (i:Nat) (v:VOper),vs[i]?=some v/\zav v=true/\L.getD i true=false/\v.dst=some t
   ·have:mask vs L envp t=.undef:=by unfold mask;rw [if_pos ht]
    rw [this];exact .undef _
   ·have:mask vs L envp t=envp t:=by unfold mask;rw [if_neg ht]
    rw [this]
    refine hD.env t fun i v hi hl hv hd=>ht ⟨i,v,hv,?_,hl,hd⟩
    cases hq:zav v with
    | true=>rfl
    | false =>
     have:=hall i (by omega) (by unfold za2;rw [hv];exact hq);rw [hl] at this;simp at this,hD.size,hD.lole,hD.defs⟩
  have hev:=hD.evo;rw [hheq] at hev;exact zl6 hcl hok hcomp m (pre+inits vs pre) L envp HI φ a w env' H' hm (Nat.le_refl _) hik hL hall h2 hD.closed (fun i v hik2 hv hid _ d hd=>by
   have hip:i < pre:=by
    refine Classical.byContradiction fun hn=>?_
    have:=hnoi i (by omega) hik2;unfold za2 at this;rw [hv] at this;simp only [hid] at this;simp at this
   have h:=hidp i v hip hv hid d hd;obtain ⟨av,h5,h6⟩:=zcz hid h;rw [h6 envp HI (CellsSame.reads (by rw [<- hheq];exact (zj0 hini).same)) (fun _ _=>rfl),h5]) htail hR fun φ' a' w' h3 h4=>hQ φ' a' w' (hev.trans h3) h4
 intro m
 induction m with
 | zero =>
  intro L φ a w hm hL h2 hD
  refine toTail 0 L φ a w hm hL h2 hD fun i hi _=>?_
  have:=List.countP_eq_zero.1 hm.symm i (List.mem_range.2 (by omega))
  simpa using this
 | succ m ih =>
  intro L φ a w hm hL h2 hD
  by_cases hleft:∀ i,i < pre+inits vs pre->za2 vs i=false->L.getD i true=true
  ·exact toTail (m+1) L φ a w hm hL h2 hD hleft
  have hex:∃ i,i < pre+inits vs pre/\za2 vs i=false/\L.getD i true=false:=by
   rcases Classical.em (∃ i,i < pre+inits vs pre/\za2 vs i=false/\L.getD i true=false) with h|h
   ·exact h
   ·refine absurd (fun i hi hidle=>?_) hleft
    cases hq:L.getD i true with
    | true=>rfl
    | false=>exact absurd ⟨i,hi,hidle,hq⟩ h
  have hnot:∀ i∈Region.ready .any ops L,i < pre+inits vs pre:=fun i hi=>by
   obtain ⟨hu,hlt,hdeps⟩:=zb5 hL hok.back hi;rcases Nat.lt_or_ge i (pre+inits vs pre) with h|h
   ·exact h
   ·exfalso;obtain ⟨j,hj,hjid,hjl⟩:=hex;have:=(hok.wait i _ (Array.getElem?_eq_getElem hlt) h j (by omega) hjid).done hD.closed hdeps;rw [hjl] at this;simp at this
  have hready:Region.ready .any ops L≠[]:=by
   obtain ⟨j,hj,hjid,hjl⟩:=hex;exact zhi hL hok.back ⟨j,by omega,hjl⟩
  refine ⟨fun h=>absurd h hready,fun i hi=>?_⟩
  have hip0:=hnot i hi;obtain ⟨hu,o,ho,hall⟩:=mem_ready.1 hi;have hil:i < vs.length:=by omega
  have hvi:vs[i]?=some vs[i]:=List.getElem?_eq_getElem hil;obtain ⟨o',ho',hco⟩:=hget.2 i _ hvi;have hoo:o'=o:=by
   rw [Array.getElem?_toList] at ho';rw [ho'] at ho
   simpa using ho
  subst hoo;obtain ⟨p1,p2,p3,p4⟩:=zbX hco;have hcount:=zfE hL (show i < ops.size by omega) hu hm;have hL':(L.setIfInBounds i true).size=ops.size:=by simpa using hL
  have h2':∀ j,pre+inits vs pre<=j->j < ops.size->(L.setIfInBounds i true).getD j true=false:=fun j hj hjs=>by
   rw [zL,if_neg (by omega)];exact h2 j hj hjs
  have hunl:∀ j,(L.setIfInBounds i true).getD j true=false->j≠i/\L.getD j true=false:=fun j hj=>by
   rw [zL] at hj
   split at hj
   ·simp at hj
   ·rename_i hne
    refine ⟨fun e=>hne ⟨e.symm,by rw [e,hL];omega⟩,hj⟩
  have hclosed:=zeG hL hD.closed (zb5 hL hok.back hi).2.2;have hdone:∀ e∈o'.after,Region.binds .any e=true->L.getD e.on true=true:=fun e he hb=>(zb5 hL hok.back hi).2.2 o' ho e he hb;rcases Nat.lt_or_ge i pre with hip|hip
  ·have hvt:(vs.take pre)[i]?=some vs[i]:=by rw [List.getElem?_take_of_lt hip];exact hvi
   -- what it reads is there
   have hreads:∀ t∈vs[i].reads,VRel (Imm S base φ (hcur Hp pre (inits vs pre) tgt obj L) w) φ w (envp t) (a.tmps.getD t undef):=fun t ht=>by
    refine hD.env t fun j v hj hjl hvj hd=>?_
    obtain ⟨_,h3⟩:=hok.once i j _ v o' hip hj hvi hvj ho t hd;obtain ⟨_,e,he,hb,hon⟩:=h3 ht;have:=hdone e he hb;rw [hon,hjl] at this;simp at this
   let envi:Env:=fun t=>if t∈vs[i].reads then envp t else .undef
   have hE:ERel (Imm S base φ (hcur Hp pre (inits vs pre) tgt obj L) w) φ w envi a:=fun t=>by
    show VRel _ _ _ (if t∈vs[i].reads then envp t else .undef) _
    split
    ·rename_i h;exact hreads t h
    ·exact .undef _
   have henvi:∀ t∈vs[i].reads,envi t=envp t:=fun t ht=>if_pos ht;have hsame:hcur Hp pre (inits vs pre) tgt obj (L.setIfInBounds i true)=hcur Hp pre (inits vs pre) tgt obj L:=zkl hini fun j h3 h4=>by
    rw [zL,if_neg (by omega)]
   have hset:∀ (φ':Phi) (v:Value) (w':World),Evo φ (hcur Hp pre (inits vs pre) tgt obj L) w φ' (hcur Hp pre (inits vs pre) tgt obj L) w'->HRel C S base φ' (hcur Hp pre (inits vs pre) tgt obj L) w'->(∀ d,vs[i].dst=some d->VRel (Imm S base φ' (hcur Hp pre (inits vs pre) tgt obj L) w') φ' w' (envp d) v)->(∀ j,j < pre->(L.setIfInBounds i true).getD j true=false->zgg cl vs envp Hp j->φ' (ids j)=none) ->
     DInv ops C S base lo nt cl vs pre envp Hp (hcur Hp pre (inits vs pre) tgt obj) ids φ0 H w0 (L.setIfInBounds i true) φ' (a.put o'.dst v) w':=by
    intro φ' v w' hev hH' hdst hphi
    refine ⟨by rw [hsame];exact hH',fun t ht=>?_,by rw [zkd];exact hD.size,Nat.le_trans hD.lole hev.size,by rw [zf2];exact zdr hD.heap hev hD.defs,hphi,hclosed,by rw [hsame];exact hD.evo.trans hev⟩
    rw [hsame,zjM (by rw [hD.size];exact p4)]
    by_cases hdt:o'.dst=some t
    ·rw [if_pos hdt];exact hdst t (by rw [p3];exact hdt)
    ·rw [if_neg hdt]
     refine hev.vrel (hD.env t fun j v' hj hjl hvj=>?_)
     by_cases hji:j=i
     ·subst hji;rw [hvi] at hvj;simp at hvj;subst hvj;rw [p3];exact hdt
     ·refine ht j v' hj ?_ hvj
      rw [zL,if_neg (fun h=>hji h.1.symm)];exact hjl
   have aux:∀ k,k < pre->zgg cl vs envp Hp k->∃ v o f,(vs.take pre)[k]?=some v/\step cl envp Hp v.op=some (.new o f)/\wanted envp v.guard=some true:=fun k hk ⟨v,o,f,h1,h2,h3⟩=>⟨v,o,f,by rw [List.getElem?_take_of_lt hk];exact h1,h2,h3⟩
   unfold wpOpIn;rw [ho];simp only;rcases hsol.each i _ hip hvt with ⟨hw,hd⟩|⟨hw,e,he,hup,hres⟩
   ·have hw':wanted envi vs[i].guard=some false:=by rw [zbo henvi];exact hw
    rw [zbk hE p2 hw' rfl];simp only [Bool.false_eq_true,if_false]
    refine ⟨fun _ _=>trivial,ih _ φ _ w hcount hL' h2' (hset φ undef w Evo.refl hD.heap (fun d hd'=>by rw [hd d hd'];exact zdo) fun j hj hjl hn=>hD.phi j hj (hunl j hjl).2 hn)⟩
   ·have hw':wanted envi vs[i].guard=some true:=by rw [zbo henvi];exact hw
    rw [zbk hE p2 hw' rfl];simp only [if_true];have he':step cl envi (hcur Hp pre (inits vs pre) tgt obj L) vs[i].op=some e:=by
     rw [zcT (env':=envp) fun t ht=>henvi t (by simp [VOper.reads,ht])];exact zif (zj0 hini) hup he
    refine zlK hcl hD.heap hE p1 he' fun v w' hp=>?_
    cases e with
    | val av =>
     obtain ⟨g1,g2⟩:=hp;exact ih _ φ _ w' hcount hL' h2' (hset φ v w' (Evo.of_below g1) (hD.heap.below g1) (fun d hd'=>by rw [hres d hd'];exact g2) fun j hj hjl hn=>hD.phi j hj (hunl j hjl).2 hn)
    | new ob f =>
     obtain ⟨b,mm,g1,g2,g3,g4,g5⟩:=hp;obtain ⟨r1,r2,r3⟩:=hres;have hnew:zgg cl vs envp Hp i:=⟨_,ob,f,hvi,he,hw⟩
     have hfree:=hD.phi i hip hu hnew
     -- nothing was written there yet
     have r2':(hcur Hp pre (inits vs pre) tgt obj L).get (ids i)=ob:=by
      rw [zfJ fun j hj1 hj2 hjd hje=>?_]
      ·exact r2
      ·obtain ⟨hjs,s,b',x,hvj,hdeps⟩:=hok.ini j hj1 hj2;obtain ⟨off,z',hb',_⟩:=hini.each j hj1 hj2 s b' x hvj;have hgj:ops[j]?=some ops[j]:=Array.getElem?_eq_getElem hjs;have hbr:=hD.env b' fun i' v hi' hil' hvi' hdv=>by
        obtain ⟨e2,he2,hb2,hon⟩:=hdeps _ hgj i' _ b' hi' hvi' hdv (by simp [VOper.reads,VOp.reads,zU]);have:=hD.closed j _ hgj hjd e2 he2 hb2;rw [hon,hil'] at this;simp at this
       rw [hb'] at hbr;obtain ⟨b2,n2,hid2,_⟩:=hbr.box_inv;rw [hje,hfree] at hid2;simp at hid2
     have hn:=hD.heap.new (H':=hcur Hp pre (inits vs pre) tgt obj L) (id:=ids i) g1 hfree r2' (fun _ _ _=>rfl) r1 (Nat.le_refl _) g2 g3 g4
     refine ih _ _ _ w' hcount hL' h2' (hset _ v w' hn.1 hn.2 (fun d hd'=>by rw [r3 d hd'];exact g5 _ _ _ (z8 _ _)) fun j hj hjl hnj=>?_)
     obtain ⟨hji,hjl'⟩:=hunl j hjl;rw [zS _ fun e=>hji (hsol.idinj j i hj hip (aux j hj hnj) (aux i hip hnew) e)];exact hD.phi j hj hjl' hnj
    | upd av H1=>exact hres.elim
  ·-- a first write
   obtain ⟨his,s,b,x,hvb,hdeps⟩:=hok.ini i hip hip0;obtain ⟨off,z,hb,hz,hst⟩:=hini.each i hip hip0 s b x hvb;have hveq:vs[i]=⟨none,.storeI s (.tmp b) x,none⟩:=by rw [hvi] at hvb;simpa using hvb
   rw [hveq] at p1 p2 p3;simp only at p1 p2 p3;have hreads:∀ t∈VOper.reads ⟨none,.storeI s (.tmp b) x,none⟩,VRel (Imm S base φ (hcur Hp pre (inits vs pre) tgt obj L) w) φ w (envp t) (a.tmps.getD t undef):=fun t ht=>by
    refine hD.env t fun j v hj hjl hvj hd=>?_
    obtain ⟨e,he,hb3,hon⟩:=hdeps o' ho j v t hj hvj hd ht;have:=hdone e he hb3;rw [hon,hjl] at this;simp at this
   let envi:Env:=fun t=>if t∈VOper.reads ⟨none,.storeI s (.tmp b) x,none⟩ then envp t else .undef
   have hE:ERel (Imm S base φ (hcur Hp pre (inits vs pre) tgt obj L) w) φ w envi a:=fun t=>by
    show VRel _ _ _ (if t∈VOper.reads ⟨none,.storeI s (.tmp b) x,none⟩ then envp t else .undef) _
    split
    ·rename_i h;exact hreads t h
    ·exact .undef _
   have henvi:∀ t∈VOper.reads ⟨none,.storeI s (.tmp b) x,none⟩,envi t=envp t:=fun t ht=>if_pos ht;have hraw:(hcur Hp pre (inits vs pre) tgt obj L).get (tgt i)=.raw z:=by
    rw [zfJ fun j hj1 hj2 hjd hje=>?_]
    ·exact hz
    ·have:=hini.inj j i hj1 hj2 hip hip0 hje;subst this;rw [hu] at hjd;simp at hjd
   have hstep:step cl envi (hcur Hp pre (inits vs pre) tgt obj L) (.storeI s (.tmp b) x)=some (.upd (.tup []) ((hcur Hp pre (inits vs pre) tgt obj L).set (tgt i) (obj i))):=by
    rw [zcT (env':=envp) fun t ht=>henvi t (by simp [VOper.reads,ht])];exact hst _ hraw
   rw [zn2 hini hip hip0 (by omega)] at hstep;unfold wpOpIn;rw [ho];simp only;rw [zbk hE p2 (b:=true) rfl rfl];simp only [if_true];rw [<- p3] at p1;obtain ⟨H2,hH2,hw⟩:=zhL (ro:=ro) (n:=n) (Q:=Q) (K:=fun a' w'=>wpAnyIn (Fw ro) n P .any ops Q m (L.setIfInBounds i true) a' w') hD.heap hE (zhz p1) hstep;simp only [Eff.upd.injEq,true_and] at hH2;subst hH2
   refine hw fun w' hev hH'=>?_
   rw [<- p3]
   refine ih _ φ _ w' hcount hL' h2' ⟨hH',fun t ht=>?_,hD.size,Nat.le_trans hD.lole hev.size,zdr hD.heap hev hD.defs,fun j hj hjl hn=>hD.phi j hj (hunl j hjl).2 hn,hclosed,hD.evo.trans hev⟩
   refine hev.vrel (hD.env t fun j v' hj hjl hvj=>ht j v' hj ?_ hvj)
   rw [zL,if_neg (by omega)];exact hjl
theorem zfI {cl:Callee} (hcl:CalleeOk C P cl) {ops:Array Oper} {vs:List VOper} {pre:Nat} (hok:zda ops vs pre=true) (hpre:pre<=ops.size) (hcomp:zW P Z nt ops ops.toList=some vs)
  (hr:zT cl pre vs env H=some (env',H')) (hR:R C S base lo nt φ H env a w) (hQ:∀ φ' a' w',Evo φ H w φ' H' w'->R C S base lo nt φ' H' env' a' w'->Q .normal a' w') :
  wpAnyIn (Fw ro) n P .any ops Q ops.size (Array.replicate ops.size false) a w:=by
 have hlen:vs.length=ops.size:=by have:=(za3 hcomp).1;simpa using this
 have hD:=zjB hlen hok;obtain ⟨envp,Hp,h1,h2⟩:=zdK cl pre vs env H _ (by omega) hr;have hget:=za3 hcomp;have honce:Once (vs.take pre):=fun i j x y hx hy d hd=>by
  have hi:i < pre:=by have:=(List.getElem?_eq_some_iff.1 hx).1;simp at this;omega
  have hj:j < pre:=by have:=(List.getElem?_eq_some_iff.1 hy).1;simp at this;omega
  rw [List.getElem?_take_of_lt hi] at hx;rw [List.getElem?_take_of_lt hj] at hy;obtain ⟨o,ho,_⟩:=hget.2 i _ hx;rw [Array.getElem?_toList] at ho;have:=hD.once i j x y o hi hj hx hy ho d hd;exact ⟨this.1,fun hm=>(this.2 hm).1⟩
 obtain ⟨ids,hsol⟩:=zeM cl (vs.take pre) env H envp Hp pre (by simp;omega) honce h1;have hl:(vs.take pre).length=pre:=by rw [List.length_take];omega
 rw [hl] at hsol;have hbelow:Below w.heap.size w w:=Below.refl _ w;have hR':R C S base lo nt φ H env a w:=hR;have hext:=hR'.heap.ext' hsol.keep hsol.nx;obtain ⟨tgt,obj,HI,hini,hnx,ha,hb,hrun⟩:=ziT (k:=inits vs pre) (fun i h3 h4=>by obtain ⟨_,s,b,x,hv,_⟩:=hD.ini i h3 h4;exact ⟨s,b,x,hv⟩) h2;have hik:pre+inits vs pre<=ops.size:=by
  unfold inits;have:=(List.takeWhile_sublist zfL (l:=vs.drop pre)).length_le;simp only [List.length_drop] at this;omega
 have hhc0:hcur Hp pre (inits vs pre) tgt obj (Array.replicate ops.size false)=Hp:=Heap.ext' rfl fun id=>zbc fun i h3 h4 h5=>by
  simp [show i < ops.size by omega] at h5
 have hHI:∀ L:Array Bool,(∀ i,pre<=i->i < pre+inits vs pre->L.getD i true=true)->hcur Hp pre (inits vs pre) tgt obj L=HI:=fun L hL=>by
  refine Heap.ext' hnx.symm fun id=>?_
  by_cases hx:∃ i,pre<=i/\i < pre+inits vs pre/\tgt i=id
  ·obtain ⟨i,h3,h4,rfl⟩:=hx;rw [zdi hini h3 h4 (hL i h3 h4),hb i h3 h4]
  ·rw [zbc (fun i h3 h4 _ h5=>hx ⟨i,h3,h4,h5⟩),ha id fun i h3 h4 h5=>hx ⟨i,h3,h4,h5⟩]
 have hcount:(List.range ops.size).countP (fun i=>!(Array.replicate ops.size false).getD i true)=ops.size:=by
  have:(List.range ops.size).countP (fun i=>!(Array.replicate ops.size false).getD i true)=(List.range ops.size).length:=List.countP_eq_length.2 fun i hi=>by
   have:=List.mem_range.1 hi;simp [this]
  simpa using this
 have:=znT (ro:=ro) (n:=n) (Q:=Q) hcl hD hpre hcomp hsol hini hik hHI hrun (φ0:=φ) (w0:=w) (fun φ' a' w' h3 h4=>hQ φ' a' w' h3 h4) ops.size (Array.replicate ops.size false) φ a w hcount.symm (by simp) (fun i _ hi=>by simp [hi]) ⟨by rw [hhc0];exact hext.2,fun t ht=>?_,hR'.size,hR'.lole,hR'.defs,fun i hi _ _=>?_,fun i o ho hd=>?_,by rw [hhc0];exact (Evo.of_below hbelow).trans hext.1⟩
 ·exact this
 ·rw [hhc0];have hold:envp t=env t:=hsol.old t fun i v hi hv=>by
   rw [List.getElem?_take_of_lt hi] at hv;exact ht i v hi (by simp [show i < ops.size by omega]) hv
  rw [hold];exact hext.1.vrel (hR'.env t)
 ·cases hc:φ (ids i) with
  | none=>rfl
  | some x =>
   have h3:=hR.heap.nx _ _ hc;have h4:=hsol.idlo i hi;omega
 ·have hi':i < ops.size:=(Array.getElem?_eq_some_iff.1 ho).1;simp [hi'] at hd
theorem evo_drew:Evo φ H w φ H w.drew:=Evo.of_below ((Below.refl _ w).drew)
theorem zkF (hR:R C S base lo nt φ H env a w):R C S base lo nt φ H env a w.drew :=
 ⟨hR.heap.below ((Below.refl _ w).drew),fun t=>(Evo.of_below ((Below.refl _ w).drew)).vrel (hR.env t),hR.size,hR.lole,zdr hR.heap (Evo.of_below ((Below.refl _ w).drew)) hR.defs⟩
theorem zni {cl:Callee} (hcl:CalleeOk C P cl) {ops:Array Oper} {vs:List VOper} {pre:Nat} (hok:zda ops vs pre=true) (hpre:pre<=ops.size) (hcomp:zW P Z nt ops ops.toList=some vs)
  (hr:zT cl pre vs env H=some (env',H')) (hR:R C S base lo nt φ H env a w) (hQ:∀ φ' a' w',Evo φ H w φ' H' w'->R C S base lo nt φ' H' env' a' w'->Q .normal a' w') :
  wpAnyIn (Fw ro) n P .any ops Q ops.size (Array.replicate ops.size false) a w.drew :=
 zfI hcl hok hpre hcomp hr (zkF hR) fun φ' a' w' he hR'=>hQ φ' a' w' ((Evo.of_below ((Below.refl _ w).drew)).trans he) hR'
theorem zo4 {cl:Callee} (hcl:CalleeOk C P cl) (hmix:P.follows .mixedOrders=true) {id:Nat} {ops:Array Oper} {vs:List VOper} {pre:Nat} (hok:zda ops vs pre=true) (hpre:pre<=ops.size) (hcomp:zW P Z nt ops ops.toList=some vs)
  (hr:zT cl pre vs env H=some (env',H')) (hR:R C S base lo nt φ H env a w) (hQ:∀ φ' a' w',Evo φ H w φ' H' w'->R C S base lo nt φ' H' env' a' w'->Q .normal a' w') :
  (Code.region id ops true).wpIn (Fw ro) n P Q a w:=by
 refine wpIn_region_any hmix ?_
 exact zni hcl hok hpre hcomp hr hR hQ
end
open Go
structure Perm (pos inv:Nat->Nat) (n:Nat):Prop where
 lt:∀ i,i < n->pos i < n
 out:∀ i,n<=i->pos i=i
 li:∀ i,inv (pos i)=i
 ri:∀ i,pos (inv i)=i
section
variable {pos inv:Nat->Nat} {ops ops':Array Oper} {F:Fence} {n:Nat} {P:Program} {Q:Exit->Act->World->Prop}
theorem Perm.inv_lt (h:Perm pos inv n) {i:Nat} (hi:i < n):inv i < n:=by
 rcases Nat.lt_or_ge (inv i) n with h1|h1
 ·exact h1
 ·have:=h.out _ h1;rw [h.ri] at this;omega
theorem znS {L L':Array Bool} (hp:Perm pos inv ops.size) (hL:L.size=ops.size) (hL':L'.size=ops.size) (h:∀ i d,L'.getD (pos i) d=L.getD i d) {i:Nat} (hi:i < ops.size) :
  ∀ j d,(L'.setIfInBounds (pos i) true).getD (pos j) d=(L.setIfInBounds i true).getD j d:=by
 intro j d;rw [zL,zL,h j d]
 by_cases e:i=j
 ·subst e;rw [if_pos ⟨rfl,by rw [hL'];exact hp.lt i hi⟩,if_pos ⟨rfl,by rw [hL];exact hi⟩]
 ·rw [if_neg (fun h1=>e (by have:=congrArg inv h1.1;rwa [hp.li,hp.li] at this)),if_neg (fun h1=>e h1.1)]
theorem memReady {L:Array Bool} {i:Nat}:i∈Region.ready .any ops L↔i < ops.size/\L.getD i true=false/\∃ o,ops[i]?=some o/\∀ e∈o.after,Region.binds .any e=true->L.getD e.on false=true:=by
 unfold Region.ready;simp only [List.mem_filter,List.mem_range,Bool.and_eq_true,Bool.not_eq_true']
 constructor
 ·rintro ⟨h1,h2,h3⟩
  refine ⟨h1,h2,ops[i],Array.getElem?_eq_getElem h1,?_⟩
  rw [Array.getElem?_eq_getElem h1] at h3;simp only [Option.map_some,Option.getD_some,Array.all_eq_true_iff_forall_mem] at h3;intro e he hb;have:=h3 e he
  simpa [hb] using this
 ·rintro ⟨h1,h2,o,h3,h4⟩
  refine ⟨h1,h2,?_⟩
  rw [h3];simp only [Option.map_some,Option.getD_some,Array.all_eq_true_iff_forall_mem];intro e he
  cases hb:Region.binds .any e with
  | false=>rfl
  | true=>simp [h4 e he hb]
theorem zeE {L L':Array Bool} (hp:Perm pos inv ops.size) (hs:ops'.size=ops.size) (hop:∀ i o,ops[i]?=some o->ops'[pos i]?=some (zcQ pos o)) (h:∀ i d,L'.getD (pos i) d=L.getD i d) {i:Nat} :
  i∈Region.ready .any ops L↔pos i∈Region.ready .any ops' L':=by
 rw [memReady,memReady,hs]
 constructor
 ·rintro ⟨h1,h2,o,h3,h4⟩
  refine ⟨hp.lt i h1,by rw [h];exact h2,_,hop i o h3,?_⟩
  intro e he hb;simp only [zcQ,Array.mem_map] at he;obtain ⟨e0,he0,rfl⟩:=he;have:=h4 e0 he0 hb;simp only [zkW];rw [h];exact this
 ·rintro ⟨h1,h2,o,h3,h4⟩;have hi:i < ops.size:=by
   have:=hp.inv_lt h1;rwa [hp.li] at this
  refine ⟨hi,by rw [<- h i];exact h2,ops[i],Array.getElem?_eq_getElem hi,?_⟩
  have h5:=hop i _ (Array.getElem?_eq_getElem hi);rw [h3] at h5;obtain rfl:=Option.some.inj h5;intro e he hb;have:=h4 (zkW pos e) (by simp only [zcQ,Array.mem_map];exact ⟨e,he,rfl⟩) hb;rw [<- h e.on];exact this
theorem ziQ {tmps:Array Value} (hp:Perm pos inv ops.size) (hs:ops'.size=ops.size) (hop:∀ i o,ops[i]?=some o->ops'[pos i]?=some (zcQ pos o)) (j:Nat):yielded ops' tmps (pos j)=yielded ops tmps j:=by
 unfold yielded
 by_cases hj:j < ops.size
 ·rw [Array.getElem?_eq_getElem hj,hop j _ (Array.getElem?_eq_getElem hj)];rfl
 ·rw [hp.out j (by omega),Array.getElem?_eq_none (by omega),Array.getElem?_eq_none (by omega)]
theorem zj1 {tmps:Array Value} (hp:Perm pos inv ops.size) (hs:ops'.size=ops.size) (hop:∀ i o,ops[i]?=some o->ops'[pos i]?=some (zcQ pos o)) (o:Oper):Region.wanted (zcQ pos o) (yielded ops' tmps)=Region.wanted o (yielded ops tmps):=by
 unfold Region.wanted;simp only [zcQ]
 cases o.guard with
 | none=>rfl
 | some g=>simp only [Option.map_some];rw [ziQ hp hs hop]
theorem zm2 {i:Nat} (hp:Perm pos inv ops.size) (hs:ops'.size=ops.size) (hop:∀ i o,ops[i]?=some o->ops'[pos i]?=some (zcQ pos o)) (hi:i < ops.size) {K:Act->World->Prop} {a:Act} {w:World} (h:wpOpIn F n P ops' Q (pos i) K a w):wpOpIn F n P ops Q i K a w:=by
 unfold wpOpIn at *;have hg:=Array.getElem?_eq_getElem hi;rw [hop i _ hg] at h;rw [hg];simp only at h ⊢;rw [zj1 hp hs hop] at h;exact h
theorem zkT (hp:Perm pos inv ops.size) (hs:ops'.size=ops.size) (hop:∀ i o,ops[i]?=some o->ops'[pos i]?=some (zcQ pos o)):∀ (m:Nat) (L L':Array Bool) (a:Act) (w:World),L.size=ops.size->L'.size=ops.size->(∀ i d,L'.getD (pos i) d=L.getD i d) ->
  wpAnyIn F n P .any ops' Q m L' a w->wpAnyIn F n P .any ops Q m L a w:=by
 intro m
 induction m with
 | zero =>
  intro L L' a w hL hL' h hw
  refine ⟨?_,hw.2⟩
  rw [List.eq_nil_iff_forall_not_mem];intro i hi;have:=(zeE hp hs hop h).1 hi;rw [hw.1] at this;simp at this
 | succ m ih =>
  intro L L' a w hL hL' h hw
  refine ⟨fun hr=>hw.1 ?_,fun i hi=>?_⟩
  ·rw [List.eq_nil_iff_forall_not_mem];intro p hp';have h1:pos (inv p)∈Region.ready .any ops' L':=by rw [hp.ri];exact hp'
   have:=(zeE hp hs hop h).2 h1;rw [hr] at this;simp at this
  ·have hi':=(memReady.1 hi).1;have h1:=zm2 hp hs hop hi' (hw.2 _ ((zeE hp hs hop h).1 hi))
   refine wpOpIn_mono (fun a' w' hk=>?_) h1
   exact ih _ _ _ _ (by simpa using hL) (by simpa using hL') (znS hp hL hL' h hi') hk
end
theorem zj4 {n:Nat} {order pos:List Nat} (h:zkJ n order pos=true):Perm (zce pos) (zce order) n/\order.length=n:=by
 unfold zkJ at h;simp only [Bool.and_eq_true,beq_iff_eq,List.all_eq_true,List.mem_range,decide_eq_true_eq] at h;obtain ⟨⟨h1,h2⟩,h3⟩:=h;have hpos:∀ i,i < n->zce pos i=pos.getD i 0:=fun i hi=>by unfold zce;rw [if_pos (by omega)]
 have hord:∀ i,i < n->zce order i=order.getD i 0:=fun i hi=>by unfold zce;rw [if_pos (by omega)]
 have hout:∀ i,n<=i->zce pos i=i:=fun i hi=>by unfold zce;rw [if_neg (by omega)]
 have hout2:∀ i,n<=i->zce order i=i:=fun i hi=>by unfold zce;rw [if_neg (by omega)]
 refine ⟨⟨fun i hi=>by rw [hpos i hi];exact (h3 i hi).1.1.1,hout,fun i=>?_,fun i=>?_⟩,h1⟩
 ·rcases Nat.lt_or_ge i n with hi|hi
  ·rw [hpos i hi,hord _ (h3 i hi).1.1.1];exact (h3 i hi).1.2
  ·rw [hout i hi,hout2 i hi]
 ·rcases Nat.lt_or_ge i n with hi|hi
  ·rw [hord i hi,hpos _ (h3 i hi).1.1.2];exact (h3 i hi).2
  ·rw [hout2 i hi,hout i hi]
section
variable {C:Comp} {P:Program} {Z:List Nat} {S:Bool->Nat->Prop} {base lo nt:Nat} {φ:Phi} {H H':Heap} {w:World} {env env':Env} {a:Act}
variable {ro:Option Nat} {n:Nat} {Q:Exit->Act->World->Prop}
theorem zhP {cl:Callee} (hcl:CalleeOk C P cl) {ops:Array Oper} {vs:List VOper} {c:VCode} (hc:zbp P Z nt ops vs=some c) :
  ∃ pre vs',c=.region (some pre) vs'/\∀ (env:Env) (H:Heap) (env':Env) (H':Heap) (φ:Phi) (a:Act) (w:World) (Q:Exit->Act->World->Prop),zT cl pre vs' env H=some (env',H')->R C S base lo nt φ H env a w->(∀ φ' a' w',Evo φ H w φ' H' w'->R C S base lo nt φ' H' env' a' w'->Q .normal a' w') ->
  wpAnyIn (Fw ro) n P .any ops Q ops.size (Array.replicate ops.size false) a w:=by
 unfold zbp at hc
 split at hc
 ·simp at hc
 ·rename_i order pos Z' _;simp only at hc
  split at hc
  ·simp at hc
  ·rename_i vs' hvs
   split at hc
   ·rename_i hok;simp only [Option.some.injEq] at hc;subst hc;simp only [Bool.and_eq_true] at hok;obtain ⟨hp,hl⟩:=zj4 hok.1
    refine ⟨_,_,rfl,fun env H env' H' φ a w Q hr hR hQ=>?_⟩
    have hsz:(reorder ops order pos).size=ops.size:=by simp [reorder,hl]
    have hop:∀ i o,ops[i]?=some o->(reorder ops order pos)[zce pos i]?=some (zcQ (zce pos) o):=fun i o ho=>by
     have hi:i < ops.size:=(Array.getElem?_eq_some_iff.1 ho).1;have h1:zce order (zce pos i)=i:=hp.li i;have h2:=hp.lt i hi;generalize zce pos i=k at h1 h2 ⊢;unfold zce at h1;rw [if_pos (by rw [hl];exact h2)] at h1;have h3:order[k]?=some i:=by
      rw [List.getD_eq_getElem?_getD] at h1;have h4:order[k]?=some order[k]:=List.getElem?_eq_getElem (by rw [hl];exact h2);rw [h4] at h1 ⊢
      simpa using h1
     simp only [reorder,List.getElem?_toArray,List.getElem?_map,h3,Option.map_some];rw [Array.getD_eq_getD_getElem?,ho];rfl
    have:=zfI (ro:=ro) (n:=n) (Q:=Q) hcl hok.2 (zfA hok.2) hvs hr hR hQ;rw [hsz] at this
    refine zkT hp hsz hop ops.size _ _ a _ (by simp) (by simp) (fun i d=>?_) this
    by_cases hi:i < ops.size
    ·simp [hi,hp.lt i hi]
    ·rw [hp.out i (by omega)]
   ·simp at hc
theorem zof {cl:Callee} (hcl:CalleeOk C P cl) (hmix:P.follows .mixedOrders=true) {id:Nat} {ops:Array Oper} {vs:List VOper} {c:VCode} (hc:zbp P Z nt ops vs=some c) :
  ∃ pre vs',c=.region (some pre) vs'/\(zT cl pre vs' env H=some (env',H')->R C S base lo nt φ H env a w->(∀ φ' a' w',Evo φ H w φ' H' w'->R C S base lo nt φ' H' env' a' w'->Q .normal a' w') ->
  (Code.region id ops true).wpIn (Fw ro) n P Q a w):=by
 obtain ⟨pre,vs',h1,h2⟩:=zhP (S:=S) (base:=base) (lo:=lo) (ro:=ro) (n:=n) hcl hc;exact ⟨pre,vs',h1,fun hr hR hQ=>wpIn_region_any hmix (h2 _ _ _ _ _ _ _ _ hr (zkF hR) fun φ' a' w' he hR'=>hQ φ' a' w' (evo_drew.trans he) hR')⟩
end
section
variable {ops:Array Oper} {F:Fence} {n s:Nat} {P:Program} {Q:Exit->Act->World->Prop}
theorem zhe (ops:Array Oper) (s i:Nat):(zaD ops s)[i]?=(ops[s+i]?).map (zdB s):=by
 simp [zaD]
theorem zgm (ops:Array Oper) {s i:Nat} (h:i < s):(za6 ops s)[i]?=ops[i]?:=by
 simp [za6,List.getElem?_take_of_lt h]
theorem zhS (ops:Array Oper) (s:Nat):(zaD ops s).size=ops.size - s:=by simp [zaD]
theorem zcy {ops:Array Oper} {s:Nat} (h:s<=ops.size):(za6 ops s).size=s:=by simp [za6,h]
structure CutOk (ops:Array Oper) (s:Nat):Prop where
 le:s<=ops.size
 back:∀ i o,ops[i]?=some o->∀ e∈o.after,Region.binds .any e=true->e.on < i
 gh:∀ i o g,ops[i]?=some o->o.guard=some g->i < s->g.1 < s
 gt:∀ i o g,ops[i]?=some o->o.guard=some g->s<=i->s<=g.1
 wait:∀ i,s<=i->i < ops.size->∀ j,j < s->Waits ops i j
theorem zkM (h:znh ops s=true):CutOk ops s:=by
 unfold znh at h;simp only [Bool.and_eq_true,decide_eq_true_eq,List.all_eq_true,List.mem_range] at h;obtain ⟨h1,h2⟩:=h;have hget:∀ i o,ops[i]?=some o->i < ops.size/\ops.getD i default=o:=fun i o ho=>by
  have hlt:=(Array.getElem?_eq_some_iff.1 ho).1
  refine ⟨hlt,?_⟩
  have:=(Array.getElem?_eq_some_iff.1 ho).2;simp [hlt,this]
 refine ⟨h1,fun i o ho e he hb=>?_,fun i o g ho hg hi=>?_,fun i o g ho hg hi=>?_,fun i hi hn j hj=>?_⟩
 ·obtain ⟨a,b⟩:=hget i o ho;have:=(h2 i a).1;rw [b,Array.all_eq_true_iff_forall_mem] at this;have:=this e he;rw [hb] at this
  simpa using this
 ·obtain ⟨a,b⟩:=hget i o ho;have:=(h2 i a).2;rw [b,if_pos hi,hg] at this
  simpa using this
 ·obtain ⟨a,b⟩:=hget i o ho;have:=(h2 i a).2;rw [b,if_neg (by omega),hg] at this;simp only [Bool.and_eq_true,decide_eq_true_eq] at this;exact this.1
 ·have:=(h2 i hn).2;rw [if_neg (by omega)] at this;simp only [Bool.and_eq_true,List.all_eq_true,List.mem_range] at this;exact zcK ops.toList [] (fun k=>by simp) (fun a b h=>by simp at h) i j (this.2 j hj)
theorem ziJ {tmps:Array Value} {j:Nat} (h:s<=j):yielded (zaD ops s) tmps (j - s)=yielded ops tmps j:=by
 unfold yielded;rw [zhe,show s+(j - s)=j by omega]
 cases ops[j]?<;>rfl
theorem ziL {tmps:Array Value} {j:Nat} (h:j < s):yielded (za6 ops s) tmps j=yielded ops tmps j:=by
 unfold yielded;rw [zgm ops h]
theorem zma (hc:CutOk ops s) {i:Nat} (hi:s<=i) (hn:i < ops.size) {K:Act->World->Prop} {a:Act} {w:World} (h:wpOpIn F n P (zaD ops s) Q (i - s) K a w):wpOpIn F n P ops Q i K a w:=by
 unfold wpOpIn at *;have hg:=Array.getElem?_eq_getElem hn;rw [zhe,show s+(i - s)=i by omega,hg] at h;rw [hg];simp only [Option.map_some] at h ⊢;have hw:Region.wanted (zdB s ops[i]) (yielded (zaD ops s) a.tmps)=Region.wanted ops[i] (yielded ops a.tmps):=by
  unfold Region.wanted zdB
  cases hgu:ops[i].guard with
  | none=>rfl
  | some g =>
   simp only [Option.map_some];rw [ziJ (hc.gt i _ g hg hgu hi)]
 rw [hw] at h;exact h
theorem zmf {o:Oper} {a:Act} {w:World} {K K1:Act->World->Prop} (h:o.wpIn F n P a w K (Exit.then K1 Q)):o.wpIn F n P a w K Q:=by
 unfold Oper.wpIn at *
 refine ⟨h.1,?_⟩
 have hh:=h.2;generalize (o.semAt F.round a.eval).run P w=r at *;have hl:LetsOut (Exit.then K1 Q)->LetsOut Q:=fun ⟨a,w,h⟩=>⟨a,w,h⟩
 cases r with
 | ok x w' =>
  cases x<;>simp only [Oper.uponIn] at hh ⊢ <;>
   first
    | exact hh
    | exact ⟨hh.1,CallsIn.mono hh.2 (fun e w'' he=>by cases e<;>first|exact hl he|exact he)⟩
    | exact ⟨hh.1,RoundIn.mono hh.2 (fun e w'' he=>by cases e<;>first|exact hl he|exact he)⟩
 | halt x w'=>cases x<;>simp only [Oper.uponIn] at hh ⊢<;>exact hh
theorem zmg (hc:CutOk ops s) {i:Nat} (hi:i < s) {K K1:Act->World->Prop} {a:Act} {w:World} (h:wpOpIn F n P (za6 ops s) (Exit.then K1 Q) i K a w):wpOpIn F n P ops Q i K a w:=by
 unfold wpOpIn at *;have hn:i < ops.size:=by have:=hc.le;omega
 have hg:=Array.getElem?_eq_getElem hn;rw [zgm ops hi,hg] at h;rw [hg];simp only at h ⊢;have hw:Region.wanted ops[i] (yielded (za6 ops s) a.tmps)=Region.wanted ops[i] (yielded ops a.tmps):=by
  unfold Region.wanted
  cases hgu:ops[i].guard with
  | none=>rfl
  | some g =>
   simp only;rw [ziL (hc.gh i _ g hg hgu hi)]
 rw [hw] at h
 split
 ·rename_i hx;rw [if_pos hx] at h;exact zmf h
 ·rename_i hx;rw [if_neg hx] at h;exact h
theorem znl (hc:CutOk ops s):∀ (m:Nat) (L L2:Array Bool) (a:Act) (w:World),L.size=ops.size->L2.size=ops.size - s->(∀ j,j < s->L.getD j true=true/\L.getD j false=true)->(∀ j d,L2.getD j d=L.getD (s+j) d) ->
  wpAnyIn F n P .any (zaD ops s) Q m L2 a w->wpAnyIn F n P .any ops Q m L a w:=by
 have hready:∀ (L L2:Array Bool),(∀ j,j < s->L.getD j true=true/\L.getD j false=true)->(∀ j d,L2.getD j d=L.getD (s+j) d)->∀ i,i∈Region.ready .any ops L↔s<=i/\i - s∈Region.ready .any (zaD ops s) L2:=fun L L2 hd h i=>by
  rw [memReady,memReady,zhS,zhe]
  constructor
  ·rintro ⟨h1,h2,o,h3,h4⟩;have hi:s<=i:=by
    rcases Nat.lt_or_ge i s with hlt|hge
    ·have:=(hd i hlt).1;rw [this] at h2;simp at h2
    ·exact hge
   refine ⟨hi,by omega,by rw [h,show s+(i - s)=i by omega];exact h2,zdB s o,by rw [show s+(i - s)=i by omega,h3];rfl,?_⟩
   intro e he hb;simp only [zdB,Array.mem_map,Array.mem_filter,decide_eq_true_eq] at he;obtain ⟨e0,⟨he0,hs0⟩,rfl⟩:=he;have:=h4 e0 he0 hb;rw [h];simp only;rw [show s+(e0.on - s)=e0.on by omega];exact this
  ·rintro ⟨hi,h1,h2,o,h3,h4⟩;have e1:s+(i - s)=i:=by omega
   rw [h,e1] at h2;rw [e1] at h3;have hn:i < ops.size:=by omega
   rw [Array.getElem?_eq_getElem hn] at h3;simp only [Option.map_some,Option.some.injEq] at h3
   refine ⟨hn,h2,ops[i],Array.getElem?_eq_getElem hn,fun e he hb=>?_⟩
   rcases Nat.lt_or_ge e.on s with hlt|hge
   ·exact (hd _ hlt).2
   ·have:=h4 { e with on:=e.on - s } (by rw [<- h3];simp only [zdB,Array.mem_map,Array.mem_filter,decide_eq_true_eq];exact ⟨e,⟨he,hge⟩,rfl⟩) hb;rw [h] at this;simp only at this;rwa [show s+(e.on - s)=e.on by omega] at this
 intro m
 induction m with
 | zero =>
  intro L L2 a w hL hL2 hd h hw
  refine ⟨?_,hw.2⟩
  rw [List.eq_nil_iff_forall_not_mem];intro i hi;have:=((hready L L2 hd h i).1 hi).2;rw [hw.1] at this;simp at this
 | succ m ih =>
  intro L L2 a w hL hL2 hd h hw
  refine ⟨fun hr=>hw.1 ?_,fun i hi=>?_⟩
  ·rw [List.eq_nil_iff_forall_not_mem];intro p hp;have:=(hready L L2 hd h (s+p)).2 ⟨by omega,by rw [show s+p - s=p by omega];exact hp⟩;rw [hr] at this;simp at this
  ·obtain ⟨h1,h2⟩:=(hready L L2 hd h i).1 hi;have hn:=(memReady.1 hi).1
   refine wpOpIn_mono (fun a' w' hk=>?_) (zma hc h1 hn (hw.2 _ h2))
   refine ih _ _ _ _ (by simpa using hL) (by simpa using hL2) (fun j hj=>?_) (fun j d=>?_) hk
   ·rw [zL,zL,if_neg (by omega),if_neg (by omega)];exact hd j hj
   ·rw [zL,zL,h j d]
    by_cases e:i - s=j
    ·rw [if_pos ⟨e,by omega⟩,if_pos ⟨by omega,by omega⟩]
    ·rw [if_neg (fun h=>e h.1),if_neg (fun h=>e (by omega))]
theorem znx (hc:CutOk ops s):∀ (m:Nat) (L LA:Array Bool) (a:Act) (w:World),L.size=ops.size->LA.size=s->(∀ j,j < s->∀ d,LA.getD j d=L.getD j d)->(∀ j,s<=j->j < ops.size->L.getD j true=false)->Closed ops L ->
  m=(List.range s).countP (fun i=>!LA.getD i true) ->
  wpAnyIn F n P .any (za6 ops s) (Exit.then (fun a' w'=>wpAnyIn F n P .any (zaD ops s) Q (ops.size - s) (Array.replicate (ops.size - s) false) a' w') Q) m LA a w->wpAnyIn F n P .any ops Q (m+(ops.size - s)) L a w:=by
 intro m
 induction m with
 | zero =>
  intro L LA a w hL hLA h ht hcl hm hw;have hall:∀ j,j < s->LA.getD j true=true:=fun j hj=>by
   have h0:(List.range s).countP (fun i=>!LA.getD i true)=0:=hm.symm;rw [List.countP_eq_zero] at h0;have:=h0 j (List.mem_range.2 hj)
   simpa using this
  have hw2:wpAnyIn F n P .any (zaD ops s) Q (ops.size - s) (Array.replicate (ops.size - s) false) a w:=hw.2;rw [Nat.zero_add]
  refine znl hc _ L _ a w hL (by simp) (fun j hj=>?_) (fun j d=>?_) hw2
  ·have h1:=hall j hj;have h2:=h j hj;have hjn:j < L.size:=by have:=hc.le;omega
   rw [h2] at h1
   refine ⟨h1,?_⟩
   simpa [hjn] using h1
  ·by_cases hj:s+j < ops.size
   ·have:=ht (s+j) (by omega) hj;have hjn:s+j < L.size:=by omega
    simp only [Array.getD_eq_getD_getElem?,hjn,Array.getElem?_eq_getElem,Option.getD_some] at this ⊢;rw [this];simp [show j < ops.size - s by omega]
   ·simp [Array.getD_eq_getD_getElem?,show ¬ j < ops.size - s by omega,show L.size<=s+j by omega]
 | succ m ih =>
  intro L LA a w hL hLA h ht hcl hm hw;have hex:∃ j,j < s/\L.getD j true=false:=Classical.byContradiction fun hc'=>by
   have h0:(List.range s).countP (fun i=>!LA.getD i true)=0:=by
    rw [List.countP_eq_zero];intro j hj;have hj:=List.mem_range.1 hj
    cases hx:L.getD j true with
    | true=>rw [h j hj,hx];simp
    | false=>exact absurd ⟨j,hj,hx⟩ hc'
   omega
  obtain ⟨j0,hj0,hu0⟩:=hex;have hsn:=hc.le;rw [show m+1+(ops.size - s)=m+(ops.size - s)+1 by omega]
  refine ⟨fun hr=>absurd hr (zhi hL hc.back ⟨j0,by omega,hu0⟩),fun i hi=>?_⟩
  obtain ⟨hu,hn,hdeps⟩:=zb5 hL hc.back hi;have hi':i < s:=by
   rcases Nat.lt_or_ge i s with hlt|hge
   ·exact hlt
   ·have:=(hc.wait i hge hn j0 hj0).done hcl hdeps;rw [hu0] at this;simp at this
  have hiA:i∈Region.ready .any (za6 ops s) LA:=by
   rw [memReady];obtain ⟨a1,a2,o,a3,a4⟩:=memReady.1 hi
   refine ⟨by rw [zcy hsn];exact hi',by rw [h i hi'];exact a2,o,by rw [zgm ops hi'];exact a3,fun e he hb=>?_⟩
   have:=hc.back i o a3 e he hb;rw [h _ (by omega)];exact a4 e he hb
  refine wpOpIn_mono (fun a' w' hk=>?_) (zmg hc hi' (hw.2 i hiA))
  refine ih _ _ _ _ (by simpa using hL) (by simpa using hLA) (fun j hj d=>?_) (fun j h1 h2=>?_) (zeG hL hcl hdeps) ?_ hk
  ·rw [zL,zL,h j hj d]
   by_cases e:i=j
   ·rw [if_pos ⟨e,by omega⟩,if_pos ⟨e,by omega⟩]
   ·rw [if_neg (fun x=>e x.1),if_neg (fun x=>e x.1)]
  ·rw [zL,if_neg (by omega)];exact ht j h1 h2
  ·have hAs:LA.size=(za6 ops s).size:=by rw [zcy hsn];exact hLA
   have:=zfE (ops:=za6 ops s) (L:=LA) hAs (i:=i) (m:=m) (by rw [zcy hsn];exact hi') (by rw [h i hi'];exact hu) (by rw [zcy hsn];exact hm);rwa [zcy hsn] at this
theorem zo2 (hc:CutOk ops s) {a:Act} {w:World} (h:wpAnyIn F n P .any (za6 ops s) (Exit.then (fun a' w'=>wpAnyIn F n P .any (zaD ops s) Q (zaD ops s).size (Array.replicate (zaD ops s).size false) a' w') Q) (za6 ops s).size (Array.replicate (za6 ops s).size false) a w) :
  wpAnyIn F n P .any ops Q ops.size (Array.replicate ops.size false) a w:=by
 have hle:=hc.le;rw [zcy hle,zhS] at h;have hcnt:s=(List.range s).countP (fun i=>!(Array.replicate s false).getD i true):=by
  have:(List.range s).countP (fun i=>!(Array.replicate s false).getD i true)=(List.range s).length:=List.countP_eq_length.2 fun i hi=>by
   have:=List.mem_range.1 hi;simp [this]
  rw [this,List.length_range]
 have:=znx (Q:=Q) hc s (Array.replicate ops.size false) (Array.replicate s false) a w (by simp) (by simp) (fun j hj d=>by simp [hj,show j < ops.size by omega]) (fun j h1 h2=>by simp [h2]) (fun i o ho hd=>by
  have hi':i < ops.size:=(Array.getElem?_eq_some_iff.1 ho).1;simp [hi'] at hd) hcnt h
 rwa [show s+(ops.size - s)=ops.size by omega] at this
end
section
variable {C:Comp} {P:Program} {Z:List Nat} {S:Bool->Nat->Prop} {base lo nt:Nat} {φ:Phi} {H H':Heap} {w:World} {env env':Env} {a:Act}
variable {ro:Option Nat} {n:Nat} {Q:Exit->Act->World->Prop}
theorem zfX {cl:Callee} (hcl:CalleeOk C P cl) {ops:Array Oper} {c:VCode} (hc:zbr P Z nt ops=some c) :
  ∃ pre vs',c=.region (some pre) vs'/\∀ (env:Env) (H:Heap) (env':Env) (H':Heap) (φ:Phi) (a:Act) (w:World) (Q:Exit->Act->World->Prop),zT cl pre vs' env H=some (env',H')->R C S base lo nt φ H env a w->(∀ φ' a' w',Evo φ H w φ' H' w'->R C S base lo nt φ' H' env' a' w'->Q .normal a' w') ->
  wpAnyIn (Fw ro) n P .any ops Q ops.size (Array.replicate ops.size false) a w:=by
 unfold zbr at hc
 split at hc
 ·simp at hc
 ·rename_i vs hvs
  split at hc
  ·rename_i c' hcd;simp at hc;subst hc;exact zhP hcl hcd
  ·split at hc
   ·rename_i hok;simp at hc;subst hc;exact ⟨_,_,rfl,fun env H env' H' φ a w Q hr hR hQ=>zfI hcl hok (zfA hok) hvs hr hR hQ⟩
   ·simp at hc
theorem zfT {ops:Array Oper} {c:VCode} (hc:zbr P Z nt ops=some c):∃ pre vs',c=.region (some pre) vs':=by
 unfold zbr at hc
 split at hc
 ·simp at hc
 ·split at hc
  ·rename_i c' hcd;simp at hc;subst hc;unfold zbp at hcd
   split at hcd
   ·simp at hcd
   ·simp only at hcd
    split at hcd
    ·simp at hcd
    ·split at hcd
     ·simp at hcd;exact ⟨_,_,hcd.symm⟩
     ·simp at hcd
  ·split at hc
   ·simp at hc;exact ⟨_,_,hc.symm⟩
   ·simp at hc
theorem zg4 {cl:Callee}:∀ (ss:List Nat) (ops:Array Oper) (c:VCode),zb2 P Z nt ss ops=some c->∀ {env:Env} {H:Heap} {x:VExit} {env':Env} {H':Heap},exec cl c env H=some (x,env',H')->x=.normal
 | [],ops,c,hc,env,H,x,env',H',hx=>by
  obtain ⟨pre,vs',rfl⟩:=zfT hc;simp only [exec] at hx
  split at hx
  ·simp at hx;exact hx.1.symm
  ·simp at hx
 | s::ss,ops,c,hc,env,H,x,env',H',hx=>by
  unfold zb2 at hc
  split at hc
  ·split at hc
   ·rename_i c1 c2 h1 h2;simp at hc;subst hc;obtain ⟨pre,vs',rfl⟩:=zfT h1;simp only [exec] at hx
    cases hr:zT cl ((some pre).getD 0) vs' env H with
    | none=>rw [hr] at hx;simp at hx
    | some r =>
     obtain ⟨e1,H1⟩:=r;rw [hr] at hx;exact zg4 ss _ _ h2 hx
   ·simp at hc
  ·simp at hc
theorem zie {cl:Callee} (hcl:CalleeOk C P cl):∀ (ss:List Nat) (ops:Array Oper) (c:VCode),zb2 P Z nt ss ops=some c->∀ (env:Env) (H:Heap) (x:VExit) (env':Env) (H':Heap) (φ:Phi) (a:Act) (w:World) (Q:Exit->Act->World->Prop),exec cl c env H=some (x,env',H')->R C S base lo nt φ H env a w->(∀ φ' a' w',Evo φ H w φ' H' w'->R C S base lo nt φ' H' env' a' w'->Q .normal a' w') ->
  x=.normal/\wpAnyIn (Fw ro) n P .any ops Q ops.size (Array.replicate ops.size false) a w
 | [],ops,c,hc,env,H,x,env',H',φ,a,w,Q,hx,hR,hQ=>by
  obtain ⟨pre,vs',rfl,hw⟩:=zfX (S:=S) (base:=base) (lo:=lo) (ro:=ro) (n:=n) hcl hc;simp only [exec,Option.getD_some] at hx
  split at hx
  ·rename_i e1 H1 hr;simp at hx;obtain ⟨rfl,rfl,rfl⟩:=hx;exact ⟨rfl,hw _ _ _ _ _ _ _ _ hr hR hQ⟩
  ·simp at hx
 | s::ss,ops,c,hc,env,H,x,env',H',φ,a,w,Q,hx,hR,hQ=>by
  unfold zb2 at hc
  split at hc
  ·rename_i hok
   split at hc
   ·rename_i c1 c2 h1 h2;simp at hc;subst hc;obtain ⟨pre,vs',rfl,hw⟩:=zfX (S:=S) (base:=base) (lo:=lo) (ro:=ro) (n:=n) hcl h1;simp only [exec,Option.getD_some] at hx
    cases hr:zT cl pre vs' env H with
    | none=>rw [hr] at hx;simp at hx
    | some r =>
     obtain ⟨e1,H1⟩:=r;rw [hr] at hx;simp only at hx;have main:∀ φ1 a1 w1,Evo φ H w φ1 H1 w1->R C S base lo nt φ1 H1 e1 a1 w1->x=.normal/\wpAnyIn (Fw ro) n P .any (zaD ops s) Q (zaD ops s).size (Array.replicate (zaD ops s).size false) a1 w1:=fun φ1 a1 w1 he hR1 =>
      zie hcl ss (zaD ops s) c2 h2 e1 H1 x env' H' φ1 a1 w1 Q hx hR1 fun φ' a' w' he' hR'=>hQ φ' a' w' (he.trans he') hR'
     have hxn:x=.normal:=by
      exact zg4 ss _ _ h2 hx
     exact ⟨hxn,zo2 (zkM hok) (hw _ _ _ _ _ _ _ _ hr hR fun φ1 a1 w1 he hR1=>(main φ1 a1 w1 he hR1).2)⟩
   ·simp at hc
  ·simp at hc
end
def CC (P:Program):Comp:=fun nt c v=>∃ Z,zG P Z nt c=some v/\v.noRange=true
section rules
variable {F:Fence} {n:Nat} {P:Program} {Q:Exit->Act->World->Prop} {a:Act} {w:World}
theorem zbM {b:Frame} {k:List Item} {cs:List Frame} {c:Code}:Go.step P (lone (b.atR a (.code (.scope c)::k)) cs w)=.next (lone (b.atR a (.code c::.inScope c::k)) cs w) :=
 step_lone_go (by simp [stepG,stepG.exec,Frame.atR])
theorem zhD {b:Frame} {k:List Item} {cs:List Frame} {c:Code}:Go.step P (lone (b.atR a (.inScope c::k)) cs w)=.next (lone (b.atR a k) cs w) :=
 step_lone_go (by simp [stepG,stepG.exec,Frame.atR])
theorem zk6 {c:Code} (h:c.wpIn F n P (fun e a w=>Q e a w/\∀ l,e≠.goto l) a w):(Code.scope c).wpIn F n P Q a w:=by
 intro b k cs hro hb hr;have h0:(lone (b.atR a (.code (.scope c)::k)) cs w).fenced P F:=fenced_calm hb hr rfl;obtain ⟨e,a₁,w₁,⟨hq,hng⟩,harr⟩:=h b (.inScope c::k) cs hro hb hr
 cases e with
 | normal=>exact ⟨.normal,a₁,w₁,hq,.head h0 zbM (StepsIn.trans harr (.one (fenced_calm hb hr rfl) zhD))⟩
 | exit id =>
  have hx:exitTo id (.inScope c::k)=exitTo id k:=by simp [exitTo]
  exact ⟨.exit id,a₁,w₁,hq,fun k' hk=>.head h0 zbM (harr.1 k' (by rw [hx];exact hk)),
   fun hr' hk=>let ⟨k₁,h1,h2⟩:=harr.2 hr' (by rw [hx];exact hk);⟨k₁,h1,.head h0 zbM h2⟩⟩
 | goto l=>exact absurd rfl (hng l)
 | ret=>exact ⟨_,a₁,w₁,hq,.of_steps (.one h0 zbM) harr⟩
 | panic ch=>exact ⟨_,a₁,w₁,hq,.of_steps (.one h0 zbM) harr⟩
 | outgrown=>exact ⟨_,a₁,w₁,hq,.of_steps (.one h0 zbM) harr⟩
theorem zjO {c:Code} (I:Nat->Act->World->Prop) (m:Nat) (h₀:I m a w)
  (round:∀ m a w,I m a w->∃ k,m=k+1/\c.wpIn F n P (Exit.then (fun a' w'=>I k a' w') Q) a w):(Code.loop c).wpIn F n P Q a w:=by
 intro b k cs hro hb hr;have key:∀ j a w,I j a w ->
   ∃ e a' w',Q e a' w'/\ArrivesIn (Machine.fenced P F) P (lone (b.atR a (.code c::.inLoop c::k)) cs w) b k cs e a' w':=by
  intro j
  induction j with
  | zero=>intro a w hI;obtain ⟨k,h,_⟩:=round 0 a w hI;omega
  | succ j ih =>
   intro a w hI;obtain ⟨k',hk',hround⟩:=round _ a w hI;have hk'':k'=j:=by omega
   subst hk'';obtain ⟨e,a₁,w₁,hq,harr⟩:=hround b (.inLoop c::k) cs hro hb hr
   cases e with
   | normal =>
    obtain ⟨e₂,a₂,w₂,hq₂,harr₂⟩:=ih a₁ w₁ hq;exact ⟨e₂,a₂,w₂,hq₂,.of_steps (StepsIn.trans harr (.one (fenced_calm hb hr rfl) stepR_inLoop)) harr₂⟩
   | exit id=>exact ⟨_,a₁,w₁,hq,.pass (x:=.inLoop c) rfl (fun _ _=>.inl (by simp)) harr⟩
   | goto l=>exact ⟨_,a₁,w₁,hq,.pass (x:=.inLoop c) rfl (fun _ _=>.inl (by simp)) harr⟩
   | ret=>exact ⟨_,a₁,w₁,hq,.pass (x:=.inLoop c) rfl (fun _ _=>.inl (by simp)) harr⟩
   | panic ch=>exact ⟨_,a₁,w₁,hq,.pass (x:=.inLoop c) rfl (fun _ _=>.inl (by simp)) harr⟩
   | outgrown=>exact ⟨_,a₁,w₁,hq,.pass (x:=.inLoop c) rfl (fun _ _=>.inl (by simp)) harr⟩
 obtain ⟨e,a',w',hq,harr⟩:=key _ a w h₀;exact ⟨e,a',w',hq,.of_steps (.one (fenced_calm hb hr rfl) stepR_loop) harr⟩
end rules
theorem zf5 {P:Program} {w:World} {b:Nat} {l:Loop} (h:w.heap[b]?=some (.loop l)):(getObj b).run P w=.ok (.loop l) w:=by simp [getObj,Sem.run,h]
theorem zd3 {P:Program} {w:World} {b:Nat} {l:Loop} (h:w.heap[b]?=some (.loop l)):(Instr.getLoop b).run P w=.ok l w:=by
 simp only [Instr.getLoop,Sem.run_bind,zf5 h,Result.andThen_ok,Sem.run_pure]
def laid (w:World) (b:Nat) (o:Obj):World:={ w with heap:=w.heap.setIfInBounds b o }
theorem zcj {P:Program} {w:World} {b:Nat} {l:Loop} (h:w.heap[b]?=some (.loop l)) (o:Obj):(setObj b o).run P w=.ok () (laid w b o):=by simp [setObj,Sem.run,h,laid]
theorem zbd {w:World} {b c:Nat} {o:Obj} (h:c≠b):(laid w b o).heap[c]?=w.heap[c]?:=by
 simp only [laid,Array.getElem?_setIfInBounds];rw [if_neg (fun e=>h e.symm)]
theorem zh0 {w:World} {b:Nat} {o:Obj} (h:b < w.heap.size):(laid w b o).heap[b]?=some o:=by
 simp [laid,h]
theorem zcU {w:World} {b:Nat} {o:Obj} (h:w.heap[b]?=some o):b < w.heap.size:=by
 rcases Nat.lt_or_ge b w.heap.size with hb|hb
 ·exact hb
 ·rw [Array.getElem?_eq_none hb] at h;simp at h
theorem zdj (w:World) (o:Obj):(w.alloc o).heap.size=w.heap.size+1:=Array.size_push _
theorem zi6 (w:World) (o:Obj):(w.alloc o).heap[w.heap.size]?=some o:=Array.getElem?_push_size
theorem znF {P:Program} {w:World} (o:Obj):(newObj o).run P w=.ok w.heap.size (w.alloc o):=rfl
theorem zhE {P:Program} {w:World} (fn:FuncId) (tmps:Array Value) (ps:Array Tmp) (assign body:Code) :
  (Instr.enterLoop fn tmps ps assign body none).run P w=.ok (w.heap.size+1,[zcH w.heap.size]) ((w.alloc (.deferred (some []))).alloc (.loop { state:=.ready,pending:=none,fn:=fn,tmps:=tmps,params:=ps,assign:=assign,body:=body,defers:=w.heap.size })):=by
 simp only [Instr.enterLoop,Sem.run_bind,Result.andThen_ok,Sem.run_pure,znF,zdj]
theorem zgy (x:VExit) (l:Nat):zkz x≠.goto l:=by cases x<;>simp [zkz]
section
variable {P:Program} {Z:List Nat} {S:Bool->Nat->Prop} {base lo nt:Nat} {n:Nat}
theorem zmP (f:Env->Heap->Out) (m:Nat) (env:Env) (H:Heap):iter f (m+1) env H=match f env H with
  | some (.normal,env',H')=>iter f m env' H'
  | r=>r:=rfl
theorem zeK {cl:Callee} (hcl:CalleeOk (CC P) P cl) (hmix:P.follows .mixedOrders=true) {ro:Option Nat}:∀ (c:Code) (vc:VCode) (env:Env) (H:Heap) (x:VExit) (env':Env) (H':Heap) (φ:Phi) (a:Act) (w:World) (Q:Exit->Act->World->Prop),
  (ro=none\/vc.noRange=true)->zG P Z nt c=some vc->exec cl vc env H=some (x,env',H')->R (CC P) S base lo nt φ H env a w ->
  (∀ φ' a' w',Evo φ H w φ' H' w'->R (CC P) S base lo nt φ' H' env' a' w'->Q (zkz x) a' w')->c.wpIn (Fw ro) n P Q a w:=by
 intro c
 induction c with
 | skip =>
  intro vc env H x env' H' φ a w Q hro hc hx hR hQ;simp [zG] at hc;subst hc;simp [exec] at hx;obtain ⟨rfl,rfl,rfl⟩:=hx;exact wpIn_skip (hQ φ a w Evo.refl hR)
 | label l =>
  intro vc env H x env' H' φ a w Q hro hc hx hR hQ;simp [zG] at hc;subst hc;simp [exec] at hx;obtain ⟨rfl,rfl,rfl⟩:=hx;exact wpIn_label (hQ φ a w Evo.refl hR)
 | region id ops draw =>
  intro vc env H x env' H' φ a w Q hro hc hx hR hQ;simp only [zG] at hc
  split at hc
  ·rename_i s ss _
   split at hc
   ·rename_i hd;subst hd;have hd':Evo φ H w φ H w.drew:=evo_drew;have hxn:=zg4 (s::ss) ops vc hc hx;subst hxn;exact wpIn_region_any hmix (zie (S:=S) (base:=base) (lo:=lo) (ro:=ro) (n:=n) hcl (s::ss) ops vc hc env H .normal env' H' φ a w.drew Q hx (zkF hR) fun φ' a' w' he hR'=>hQ φ' a' w' (hd'.trans he) hR').2
   ·simp at hc
  split at hc
  ·simp at hc
  ·rename_i vs hvs
   split at hc
   ·rename_i hd;subst hd
    split at hc
    ·rename_i c' hcd;simp at hc;subst hc;obtain ⟨pre,vs',rfl,hw⟩:=zof (ro:=ro) (n:=n) (Q:=Q) (id:=id) (env:=env) (H:=H) (env':=env') (H':=H') (φ:=φ) (a:=a) (w:=w) hcl hmix hcd;simp only [exec,Option.getD_some] at hx
     split at hx
     ·rename_i e1 H1 hr;simp at hx;obtain ⟨rfl,rfl,rfl⟩:=hx;exact hw hr hR hQ
     ·simp at hx
    split at hc
    ·rename_i hok;simp at hc;subst hc;simp only [exec,Option.getD_some] at hx
     split at hx
     ·rename_i e1 H1 hr;simp at hx;obtain ⟨rfl,rfl,rfl⟩:=hx;exact zo4 hcl hmix hok (zfA hok) hvs hr hR hQ
     ·simp at hx
    ·simp at hc
   ·rename_i hd;simp at hc;subst hc;have hd':draw=false:=by simpa using hd
    subst hd';simp only [exec,Option.getD_none] at hx
    split at hx
    ·rename_i e1 H1 hr;simp at hx;obtain ⟨rfl,rfl,rfl⟩:=hx
     refine wpIn_region ?_
     rw [List.range_eq_range'];exact zk3 hcl ops.toList vs 0 env H φ a w _ _ (fun j=>by simp) hvs hr hR hQ
    ·simp at hx
 | seq c1 c2 ih1 ih2 =>
  intro vc env H x env' H' φ a w Q hro hc hx hR hQ;simp only [zG] at hc
  split at hc
  ·rename_i v1 v2 h1 h2;simp at hc;subst hc;have hro1:ro=none\/v1.noRange=true:=hro.imp id fun h=>by simp [VCode.noRange] at h;exact h.1
   have hro2:ro=none\/v2.noRange=true:=hro.imp id fun h=>by simp [VCode.noRange] at h;exact h.2
   refine wpIn_seq ?_
   simp only [exec] at hx
   cases hx1:exec cl v1 env H with
   | none=>rw [hx1] at hx;simp at hx
   | some r =>
    obtain ⟨x1,env1,H1⟩:=r;rw [hx1] at hx
    refine ih1 v1 env H x1 env1 H1 φ a w _ hro1 h1 hx1 hR fun φ1 a1 w1 he1 hR1=>?_
    cases x1 with
    | normal =>
     simp only at hx;exact ih2 v2 env1 H1 x env' H' φ1 a1 w1 Q hro2 h2 hx hR1 fun φ2 a2 w2 he2 hR2=>hQ φ2 a2 w2 (he1.trans he2) hR2
    | exit i =>
     simp at hx;obtain ⟨rfl,rfl,rfl⟩:=hx;exact hQ φ1 a1 w1 he1 hR1
    | ret =>
     simp at hx;obtain ⟨rfl,rfl,rfl⟩:=hx;exact hQ φ1 a1 w1 he1 hR1
  ·simp at hc
 | cond cnd c1 c2 ih1 ih2 =>
  intro vc env H x env' H' φ a w Q hro hc hx hR hQ;simp only [zG] at hc
  split at hc
  ·rename_i z v1 v2 hz h1 h2;simp at hc;subst hc;have hro1:ro=none\/v1.noRange=true:=hro.imp id fun h=>by simp [VCode.noRange] at h;exact h.1
   have hro2:ro=none\/v2.noRange=true:=hro.imp id fun h=>by simp [VCode.noRange] at h;exact h.2
   simp only [exec] at hx
   split at hx
   ·rename_i t ht;have hv:=zw hR.env hz;rw [ht] at hv
    refine wpIn_cond hv.bool_inv ?_
    cases t with
    | true=>simp only [if_true] at hx ⊢;exact ih1 v1 env H x env' H' φ a w Q hro1 h1 hx hR hQ
    | false=>simp only [Bool.false_eq_true,if_false] at hx ⊢;exact ih2 v2 env H x env' H' φ a w Q hro2 h2 hx hR hQ
   ·simp at hx
  ·simp at hc
 | block id c ih =>
  intro vc env H x env' H' φ a w Q hro hc hx hR hQ;simp only [zG,Option.map_eq_some_iff] at hc;obtain ⟨v,hv,rfl⟩:=hc
  refine wpIn_block ?_
  simp only [exec] at hx
  cases hx1:exec cl v env H with
  | none=>rw [hx1] at hx;simp at hx
  | some r =>
   obtain ⟨x1,env1,H1⟩:=r;rw [hx1] at hx
   refine ih v env H x1 env1 H1 φ a w _ hro hv hx1 hR fun φ1 a1 w1 he1 hR1=>?_
   cases x1 with
   | normal =>
    simp at hx;obtain ⟨rfl,rfl,rfl⟩:=hx;exact hQ φ1 a1 w1 he1 hR1
   | exit i =>
    simp only at hx;show Exit.inBlock id Q (.exit i) a1 w1
    by_cases hi:i=id
    ·simp [hi] at hx;obtain ⟨rfl,rfl,rfl⟩:=hx;simp only [Exit.inBlock,hi,if_true];exact hQ φ1 a1 w1 he1 hR1
    ·simp [hi] at hx;obtain ⟨rfl,rfl,rfl⟩:=hx;simp only [Exit.inBlock,hi,if_false];exact hQ φ1 a1 w1 he1 hR1
   | ret =>
    simp at hx;obtain ⟨rfl,rfl,rfl⟩:=hx;exact hQ φ1 a1 w1 he1 hR1
 | loop c ih =>
  intro vc env H x env' H' φ a w Q hro hc hx hR hQ;simp only [zG,Option.map_eq_some_iff] at hc;obtain ⟨v,hv,rfl⟩:=hc;simp only [exec] at hx
  refine zjO (I:=fun m a1 w1=>∃ φ1 env1 H1,Evo φ H w φ1 H1 w1/\R (CC P) S base lo nt φ1 H1 env1 a1 w1/\iter (exec cl v) m env1 H1=some (x,env',H')) zx ⟨φ,env,H,Evo.refl,hR,hx⟩ ?_
  rintro m a1 w1 ⟨φ1,env1,H1,he1,hR1,hi⟩
  cases m with
  | zero=>simp [iter] at hi
  | succ m =>
   refine ⟨m,rfl,?_⟩
   rw [zmP] at hi
   cases hx1:exec cl v env1 H1 with
   | none=>rw [hx1] at hi;simp at hi
   | some r =>
    obtain ⟨x2,env2,H2⟩:=r;rw [hx1] at hi
    refine ih v env1 H1 x2 env2 H2 φ1 a1 w1 _ hro hv hx1 hR1 fun φ2 a2 w2 he2 hR2=>?_
    cases x2 with
    | normal=>exact ⟨φ2,env2,H2,he1.trans he2,hR2,hi⟩
    | exit i =>
     simp at hi;obtain ⟨rfl,rfl,rfl⟩:=hi;exact hQ φ2 a2 w2 (he1.trans he2) hR2
    | ret =>
     simp at hi;obtain ⟨rfl,rfl,rfl⟩:=hi;exact hQ φ2 a2 w2 (he1.trans he2) hR2
 | exit id =>
  intro vc env H x env' H' φ a w Q hro hc hx hR hQ;simp [zG] at hc;subst hc;simp [exec] at hx;obtain ⟨rfl,rfl,rfl⟩:=hx;exact wpIn_exit (hQ φ a w Evo.refl hR)
 | ret =>
  intro vc env H x env' H' φ a w Q hro hc hx hR hQ;simp [zG] at hc;subst hc;simp [exec] at hx;obtain ⟨rfl,rfl,rfl⟩:=hx;exact wpIn_ret (hQ φ a w Evo.refl hR)
 | scope c ih =>
  intro vc env H x env' H' φ a w Q hro hc hx hR hQ;simp only [zG] at hc;exact zk6 (ih vc env H x env' H' φ a w _ hro hc hx hR fun φ' a' w' he hR'=>⟨hQ φ' a' w' he hR',zgy x⟩)
 | goto l =>
  intro vc env H x env' H' φ a w Q hro hc;simp [zG] at hc
 | refuse u =>
  intro vc env H x env' H' φ a w Q hro hc;simp [zG] at hc
 | rangeFunc g ps assign body ih1 ih2 =>
  intro vc env H x env' H' φ a w Q hro hc hx hR hQ;clear ih1 ih2;simp only [zG] at hc
  split at hc
  ·rename_i z v1 v2 hz h1 h2
   split at hc
   ·rename_i hcond;simp at hc;subst hc;simp only [Bool.and_eq_true,List.all_eq_true,decide_eq_true_eq] at hcond;obtain ⟨⟨hps,hn1⟩,hn2⟩:=hcond;have hro':ro=none:=by
     rcases hro with h|h
     ·exact h
     ·simp [VCode.noRange] at h
    subst hro'
    refine wpIn_rangeFunc fun fn _=>?_
    -- the record is laid
    let lp:Loop:={ state:=.ready,pending:=none,fn:=fn,tmps:=a.tmps,params:=ps,assign:=assign,body:=body,defers:=w.heap.size }
    let w1:World:=(w.alloc (.deferred (some []))).alloc (.loop lp)
    have hb1:Below w.heap.size w w1:=((Below.refl _ w).alloc (Nat.le_refl _) _).alloc (by rw [zdj];omega) _;have hl1:w1.heap[w.heap.size+1]?=some (.loop lp):=by have:=zi6 (w.alloc (.deferred (some []))) (.loop lp);rwa [zdj] at this
    have hd1:w1.heap[w.heap.size]?=some (.deferred (some [])):=(Below.heap_alloc _ _ _ (by rw [zdj];omega)).trans (zi6 w _);have hsz1:w1.heap.size=w.heap.size+2:=by show ((w.alloc (.deferred (some []))).alloc (.loop lp)).heap.size=_;rw [zdj,zdj]
    have hnew:=hR.heap.new (H':=H.alloc (.loop { env:=env,params:=ps.toList,assign:=v1,body:=v2,state:=.ready,pending:=.normal })) (id:=H.nx) (b:=w.heap.size+1) (n:=0) hb1 (zfw hR.heap) zaG (fun i hi _=>zas hi)
     (Nat.lt_succ_self _) (Nat.le_succ _) (Nat.le_succ _) (by rw [hsz1];omega)
     ⟨lp,hl1,rfl,rfl,rfl,⟨Z,by show zG P Z a.tmps.size assign=_;rw [hR.size];exact h1,hn1⟩,⟨Z,by show zG P Z a.tmps.size body=_;rw [hR.size];exact h2,hn2⟩,
      fun t=>(hR.env t).mono (fun _ b hb=>⟨hb,hb1.block b hb.2.1⟩) (fun _ _ h=>h),fun t ht=>by show t < a.tmps.size;rw [hR.size];exact hps t ht⟩
    obtain ⟨hev1,hH1⟩:=hnew;generalize hHe:H.alloc (.loop { env:=env,params:=ps.toList,assign:=v1,body:=v2,state:=.ready,pending:=.normal })=H1 at hev1 hH1;generalize hφe:zbW φ H.nx (w.heap.size+1,0)=φ1 at hev1 hH1;have hφ1:φ1 H.nx=some (w.heap.size+1,0):=by rw [<- hφe,z8]
    have hyield:VRel (Imm S base φ1 H1 w1) φ1 w1 (.yield H.nx) (.func (.yield (w.heap.size+1)) #[] #[]):=.yield _ _ _ hφ1;have henter:(Instr.enterLoop fn a.tmps ps assign body (Fw none).round).run P w=.ok (w.heap.size+1,[zcH w.heap.size]) w1:=by
     show (Instr.enterLoop fn a.tmps ps assign body none).run P w=_;exact zhE fn a.tmps ps assign body
    have hvz:=hev1.vrel (zw hR.env hz)
    -- after the call
    have after:∀ (v:AV) (H2:Heap) (r:LoopR),H2.get H.nx=.loop r->(match r.state with|.busy=>none|_=>some (r.pending,env,H2.set H.nx .dead):Out)=some (x,env',H') ->
      ∀ (φ2:Phi) (w3:World),Evo φ1 H1 w1 φ2 H2 w3->HRel (CC P) S base φ2 H2 w3 ->
      ∃ jump w₄,(Instr.endLoop (w.heap.size+1)).run P w3=.ok jump w₄ /\
       (match jump with
        | none=>Q .normal { a with defers:=[zcH w.heap.size]++a.defers } w₄
        | some c=>c.wpIn (Fw none) n P Q { a with defers:=[zcH w.heap.size]++a.defers } w₄):=by
     intro v H2 r hr hres φ2 w3 hev2 hH2;have hid2:=hev2.phi _ _ hφ1;have ho:=hH2.obj _ _ _ hid2;rw [hr] at ho;obtain ⟨l2,g1,g2,g3,g4,g5,g6,g7,g8⟩:=ho;have hnb:r.state≠.busy:=fun e=>by rw [e] at hres;simp at hres
     have hres':r.pending=x/\env=env'/\H2.set H.nx .dead=H':=by
      cases hs:r.state<;>rw [hs] at hres<;>simp at hres<;>first|exact hres|exact absurd hs hnb
     obtain ⟨rfl,rfl,rfl⟩:=hres';have hnb2:(l2.state == LoopState.busy)=false:=by
      rw [g2]
      cases hs:r.state<;>first|rfl|exact absurd hs hnb
     have hend:(Instr.endLoop (w.heap.size+1)).run P w3=.ok l2.pending (laid w3 (w.heap.size+1) (.loop { l2 with state:=.exhausted })):=by
      simp only [Instr.endLoop,Sem.run_bind,zd3 g1,Result.andThen_ok,hnb2,Bool.false_eq_true,if_false,Sem.run_pure,zcj g1]
     obtain ⟨hev3,hH3⟩:=hH2.write (o:=.dead) (w':=laid w3 (w.heap.size+1) (.loop { l2 with state:=.exhausted })) hid2 (by rw [hr];rfl) rfl rfl rfl (by simp [laid]) (fun c hc=>zbd hc) trivial;have hevR:=hev1.trans (hev2.trans hev3);have hR':R (CC P) S base lo nt φ2 (H2.set H.nx .dead) env { a with defers:=[zcH w.heap.size]++a.defers } (laid w3 (w.heap.size+1) (.loop { l2 with state:=.exhausted })):=by
      refine ⟨hH3,fun t=>hevR.vrel (hR.env t),hR.size,Nat.le_trans hR.lole hevR.size,?_⟩
      obtain ⟨marks,m1,m2,m3⟩:=hR.defs
      refine zdr hH1 (hev2.trans hev3) ⟨w.heap.size::marks,by simp [m1],List.nodup_cons.2 ⟨fun hm=>?_,m2⟩,fun r hr=>?_⟩
      ·have:=zcU (m3 _ hm).2;omega
      ·rcases List.mem_cons.1 hr with rfl|hr
       ·exact ⟨hR.lole,hd1⟩
       ·have:=m3 r hr;exact ⟨this.1,(hb1.block r (zcU this.2)).trans this.2⟩
     refine ⟨_,_,hend,?_⟩
     have hq:=hQ φ2 _ _ hevR hR';generalize laid w3 (w.heap.size+1) (.loop { l2 with state:=.exhausted })=w4 at hq ⊢;rw [g3]
     cases hp:r.pending with
     | normal=>rw [hp] at hq;exact hq
     | exit i=>rw [hp] at hq;exact wpIn_exit hq
     | ret=>rw [hp] at hq;exact wpIn_ret hq
    have fin:∀ (f:Nat) (caps:List AV) (vcaps:Array Value),a.eval g=.func (.func f) #[] vcaps->VRels (Imm S base φ1 H1 w1) φ1 w1 caps vcaps.toList ->
      (match cl.run f (.yield H.nx::caps) H1 with
       | some (_,H2)=>match H2.get H.nx with
        | .loop r=>match r.state with
         | .busy=>none
         | _=>some (r.pending,env,H2.set H.nx .dead)
        | _=>none
       | none=>none:Out)=some (x,env',H') ->
      ∃ (l:Nat) (mark:List Deferred) (w₁:World) (d:Deferred) (w₁':World) (f:FuncId) (args:Array Value) (w₂:World),
       (Instr.enterLoop fn a.tmps ps assign body (Fw none).round).run P w=.ok (l,mark) w₁ /\
       (resolve a.eval (rangeCall g l) 0).run P w₁=.ok d w₁' /\
       (∀ f',Target.leads P w₁' d.target d.args=some f'->(Fw none).fn f') /\
       (invoke d.target d.args).run P w₁'=.ok (.enter f args) w₂ /\
       ((Fw none).depth.isSome=true->1<=n) /\
       CallsIn (Fw none) (n - 1) P f args w₂ (rangePost (Fw none) n P l Q { a with defers:=mark++a.defers }):=by
     intro f caps vcaps hg hcaps hm
     cases hrun:cl.run f (.yield H.nx::caps) H1 with
     | none=>rw [hrun] at hm;simp at hm
     | some res =>
      obtain ⟨v,H2⟩:=res;rw [hrun] at hm;simp only at hm;obtain ⟨hf,hrunOk⟩:=hcl.run _ _ _ _ _ hrun;have hvals:(Value.func (.yield (w.heap.size+1)) #[] #[]::vcaps.toList).toArray=#[Value.func (.yield (w.heap.size+1)) #[] #[]]++vcaps:=by
       apply Array.ext';simp
      refine ⟨w.heap.size+1,[zcH w.heap.size],w1,{ target:=.fn (.func f) vcaps,args:=#[.func (.yield (w.heap.size+1)) #[] #[]] },w1,f,#[Value.func (.yield (w.heap.size+1)) #[] #[]]++vcaps,w1,henter,?_,fun _ _=>trivial,?_,fun h=>by simp [Fw,Fence.wide] at h,?_⟩
      ·simp only [resolve,rangeCall,hg,Deferred.ofValue,Sem.run_pure];simp [Act.eval]
      ·simp only [invoke];rw [ze4 hf]
      ·rw [<- hvals]
       refine CallsIn.mono (hrunOk (n - 1) S base φ1 w1 _ hH1 (.cons hyield hcaps)) ?_
       rintro e w3 ⟨u,φ2,rfl,hev2,hH2,_⟩
       cases hr:H2.get H.nx with
       | loop r =>
        rw [hr] at hm;exact after v H2 r hr hm φ2 w3 hev2 hH2
       | dead=>rw [hr] at hm;simp at hm
       | cells o cs=>rw [hr] at hm;simp at hm
       | raw z=>rw [hr] at hm;simp at hm
       | mapo es=>rw [hr] at hm;simp at hm
    simp only [exec] at hx;rw [hHe] at hx
    split at hx
    ·rename_i f caps hf;rw [hf] at hvz;obtain ⟨vs,e1,e2,e3⟩:=hvz.pure_inv.func_inv;exact fin f _ vs e1 (VRels.pures (by simpa using e2) fun i p v hp hv=>e3 i p v hp (by simpa using hv)) hx
    ·rename_i f caps hf;rw [hf] at hvz;obtain ⟨vs,e1,e2,e3⟩:=hvz.func_inv;exact fin f _ vs e1 (VRels.of_agg e2 e3) hx
    ·simp at hx
   ·simp at hc
  ·simp at hc
end
def zgf (w:World) (b:Nat):Prop:=∃ c t fz,w.heap[b]?=some (.cells c t fz)
theorem zdP {w:World} {b k:Nat} {v:Value} (h:w.cell? ⟨b,k,none⟩=some v):zgf w b:=by
 simp only [World.cell?] at h
 split at h
 ·rename_i c t fz hb;exact ⟨c,t,fz,hb⟩
 ·simp at h
theorem Rep.touch {I I':Bool->Nat->Prop} {w w':World} (hI:∀ k b,I k b->zgf w b->I' k b/\w'.heap[b]?=w.heap[b]?) {p:PV} {v:Value} (h:Rep I w p v):Rep I' w' p v:=by
 induction h with
 | int k n=>exact .int k n
 | bool b=>exact .bool b
 | str s=>exact .str s
 | agg cs vs hl _ ih=>exact .agg cs vs hl ih
 | tup cs vs hl _ ih=>exact .tup cs vs hl ih
 | nils=>exact .nils
 | slice k sz es b o len cap val hlen hc hz hm _ ih =>
  refine .slice k sz es b o len cap val hlen hc hz (fun i e j p he hp=>?_) ih
  obtain ⟨h1,h2⟩:=hm i e j p he hp;have h3:=hI _ _ h1 (zdP h2);exact ⟨h3.1,(World.cell?_of_block (a:=⟨b,o+i*sz+j,none⟩) h3.2).trans h2⟩
 | nilp=>exact .nilp
 | ptr k cs off b o o' val ho hm _ ih =>
  refine .ptr k cs off b o o' val ho (fun j p hp=>?_) ih
  obtain ⟨h1,h2⟩:=hm j p hp;have h3:=hI _ _ h1 (zdP h2);exact ⟨h3.1,(World.cell?_of_block (a:=⟨b,o+j,none⟩) h3.2).trans h2⟩
 | func f cs vs hl _ ih=>exact .func f cs vs hl ih
 | nilf=>exact .nilf
 | meth f cs vs hl _ ih=>exact .meth f cs vs hl ih
theorem VRel.touch {I I':Bool->Nat->Prop} {φ:Phi} {w w':World} (hI:∀ k b,I k b->zgf w b->I' k b/\w'.heap[b]?=w.heap[b]?) {a:AV} {v:Value} (h:VRel I φ w a v):VRel I' φ w' a v:=by
 induction h with
 | undef v=>exact .undef v
 | pure p v h=>exact .pure p v (h.touch hI)
 | box id off b n h=>exact .box id off b n h
 | row id sz off len b n o cap h ho hc hn=>exact .row id sz off len b n o cap h ho hc hn
 | agg cs vs hl _ ih=>exact .agg cs vs hl ih
 | tup cs vs hl _ ih=>exact .tup cs vs hl ih
 | func f cs vs hl _ ih=>exact .func f cs vs hl ih
 | yield id b n h=>exact .yield id b n h
 | void id sz b h=>exact .void id sz b h
 | mapv id b n h=>exact .mapv id b n h
 | rowc id sz off len b n o h ho=>exact .rowc id sz off len b n o h ho
section
variable {P:Program} {Z:List Nat} {C:Comp} {S:Bool->Nat->Prop} {base lo nt:Nat} {n:Nat} {φ φ':Phi} {H H':Heap} {w w':World} {env:Env} {a:Act}
theorem HRel.touch (h:HRel C S base φ H w) {r:Nat} {x:Option (List Deferred)} (hr:w.heap[r]?=some (.deferred x)) (o:Obj):HRel C S base φ H (laid w r o):=by
 have hsz:(laid w r o).heap.size=w.heap.size:=by simp [laid]
 have hne:∀ id b n,φ id=some (b,n)->(H.get id).isDead=false->b≠r:=fun id b n hid hd e=>by
  subst e;have ho:=h.obj _ _ _ hid
  cases hg:H.get id with
  | dead=>rw [hg] at hd;simp [AObj.isDead] at hd
  | cells own cs=>rw [hg] at ho;obtain ⟨c,t,fz,h1,_⟩:=ho;rw [hr] at h1;simp at h1
  | raw z=>rw [hg] at ho;obtain ⟨c,t,fz,h1,_⟩:=ho;rw [hr] at h1;simp at h1
  | mapo es=>rw [hg] at ho;obtain ⟨ms,ck,h1,_⟩:=ho;rw [hr] at h1;simp at h1
  | loop l=>rw [hg] at ho;obtain ⟨l',h1,_⟩:=ho;rw [hr] at h1;simp at h1
 have himm:∀ k b,Imm S base φ H w k b->zgf w b->Imm S base φ H (laid w r o) k b/\(laid w r o).heap[b]?=w.heap[b]?:=fun k b hb hc=>by
  refine ⟨⟨hb.1,by rw [hsz];exact hb.2.1,hb.2.2⟩,zbd fun e=>?_⟩
  subst e;obtain ⟨c,t,fz,h1⟩:=hc;rw [hr] at h1;simp at h1
 refine ⟨by rw [hsz];exact h.sz,h.out,h.nx,fun id b n hid=>by rw [hsz];exact h.lt _ _ _ hid,fun id b n hid=>?_,h.inj,fun g hg=>⟨(h.glob g hg).1,(h.glob g hg).2.of_block (zbd fun e=>?_)⟩⟩
 rotate_left
 ·subst e;obtain ⟨m,hm⟩:=(h.glob _ hg).2;unfold World.cell? at hm;simp only at hm;rw [hr] at hm;simp at hm
 have ho:=h.obj _ _ _ hid
 cases hg:H.get id with
 | dead=>trivial
 | cells own cs =>
  rw [hg] at ho;obtain ⟨c,e,fz,h1,h2,h3,h4,h5⟩:=ho;exact ⟨c,e,fz,(zbd (hne _ _ _ hid (by rw [hg];rfl))).trans h1,h2,h3,h4,fun j a v ha hv=>(h5 j a v ha hv).touch himm⟩
 | raw z =>
  rw [hg] at ho;obtain ⟨c,e,fz,h1,h2,h3,h4,h5⟩:=ho;exact ⟨c,e,fz,(zbd (hne _ _ _ hid (by rw [hg];rfl))).trans h1,h2,h3,h4,fun j a v ha hv=>(h5 j a v ha hv).touch himm⟩
 | mapo es =>
  rw [hg] at ho;obtain ⟨ms,ck,h1,h2,h3⟩:=ho;exact ⟨ms,ck,(zbd (hne _ _ _ hid (by rw [hg];rfl))).trans h1,h2,fun j k v m hk hm=>⟨(h3 j k v m hk hm).1.touch himm,(h3 j k v m hk hm).2.touch himm⟩⟩
 | loop l =>
  rw [hg] at ho;obtain ⟨l',h1,h2,h3,h4,h5,h6,h7,h8⟩:=ho;exact ⟨l',(zbd (hne _ _ _ hid (by rw [hg];rfl))).trans h1,h2,h3,h4,h5,h6,fun t=>(h7 t).touch himm,h8⟩
theorem zls {r:Nat} {x:Option (List Deferred)} (hr:w.heap[r]?=some (.deferred x)) (o:Obj) {av:AV} {v:Value} (h:VRel (Imm S base φ H w) φ w av v):VRel (Imm S base φ H (laid w r o)) φ (laid w r o) av v :=
 h.touch fun k b hb hc=>by
  refine ⟨⟨hb.1,by simpa [laid] using hb.2.1,hb.2.2⟩,zbd fun e=>?_⟩
  subst e;obtain ⟨c,t,fz,h1⟩:=hc;rw [hr] at h1;simp at h1
theorem zjI (hH:HRel C S base φ H w) (hE:ERel (Imm S base φ H w) φ w env a) {r:ResultVar} {vr:VRes} {av:AV} (hc:zdw P r=some vr) (hl:zcv env H vr=some av) :
  ∃ u,((match r with|.tmp t=>pure (a.tmps.getD t undef)|.cell b t=>do loadVar t (<- asAddr (a.tmps.getD b undef)):Sem Value)).run P w=.ok u w/\VRel (Imm S base φ H w) φ w av u:=by
 cases r with
 | tmp t =>
  simp [zdw] at hc;subst hc;simp [zcv] at hl;subst hl;exact ⟨_,rfl,hE t⟩
 | cell t ty =>
  simp only [zdw] at hc
  split at hc
  ·rename_i g s hg hs
   split at hc
   ·simp at hc
   ·rename_i h1;simp at hc;subst hc;simp only [zcv] at hl
    split at hl
    ·rename_i cs hcs;obtain ⟨ad,vs,e1,e2,e3,e4⟩:=zep hH (hE t) hcs;have hlen:vs.length=s:=by have:=e2.1;omega
     refine ⟨_,?_,zd5 e2 hl⟩
     show (do loadVar ty (<- asAddr (a.tmps.getD t undef)):Sem Value).run P w=_;rw [e1];exact ze3 hg hs (ziS h1) hlen e4
    ·simp at hl
  ·simp at hc
theorem zfW (hH:HRel C S base φ H w) (hE:ERel (Imm S base φ H w) φ w env a):∀ {rs:List ResultVar} {vrs:List VRes} {avs:List AV},zbJ P rs=some vrs->zbf env H vrs=some avs ->
  ∃ us,(rs.mapM fun r=>(match r with|.tmp t=>pure (a.tmps.getD t undef)|.cell b t=>do loadVar t (<- asAddr (a.tmps.getD b undef)):Sem Value)).run P w=.ok us w/\VRels (Imm S base φ H w) φ w avs us
 | [],vrs,avs,hc,hl=>by
  simp [zbJ] at hc;subst hc;simp [zbf] at hl;subst hl;exact ⟨[],rfl,.nil⟩
 | r::rs,vrs,avs,hc,hl=>by
  simp only [zbJ] at hc
  split at hc
  ·simp at hc
  ·rename_i v hv
   split at hc
   ·simp at hc
   ·rename_i vs hvs;simp at hc;subst hc;simp only [zbf] at hl
    split at hl
    ·simp at hl
    ·rename_i x hx
     split at hl
     ·simp at hl
     ·rename_i xs hxs;simp at hl;subst hl;obtain ⟨u,h1,h2⟩:=zjI hH hE hv hx;obtain ⟨us,h3,h4⟩:=zfW hH hE hvs hxs
      refine ⟨u::us,?_,.cons h2 h4⟩
      rw [List.mapM_cons];simp only [Sem.run_bind,h1,Result.andThen_ok,h3,Sem.run_pure]
theorem zj3 (hH:HRel C S base φ H w) (hE:ERel (Imm S base φ H w) φ w env a) {fn:Func} {vrs:List VRes} {av:AV} (hc:zbJ P fn.results.toList=some vrs) (hl:Vm.results env H vrs=some av) :
  ∃ u,(Go.results fn a.tmps).run P w=.ok u w/\VRel (Imm S base φ H w) φ w av u:=by
 unfold Vm.results at hl
 cases hla:zbf env H vrs with
 | none=>rw [hla] at hl;simp at hl
 | some avs =>
  rw [hla] at hl;obtain ⟨us,h1,h2⟩:=zfW hH hE hc hla;have h3:(fn.results.mapM fun r=>(match r with|.tmp t=>pure (a.tmps.getD t undef)|.cell b t=>do loadVar t (<- asAddr (a.tmps.getD b undef)):Sem Value)).run P w=.ok us.toArray w:=by
   rw [Array.mapM_eq_mapM_toList];simp only [Sem.run_map,h1,Result.andThen_ok]
  refine ⟨if h:us.toArray.size=1 then us.toArray[0] else .tuple us.toArray,?_,?_⟩
  ·unfold Go.results;rw [Sem.run_bind]
   erw [h3]
   rfl
  ·match avs,us,h2,hl with
   | [v],us,h2,hl =>
    obtain ⟨u,us',rfl,h4,h5⟩:=h2.cons_inv;have:=h5.nil_inv;subst this;simp at hl;subst hl
    simpa using h4
   | [],us,h2,hl =>
    have:=h2.nil_inv;subst this;simp at hl;subst hl;exact zdo
   | v1::v2::vs,us,h2,hl =>
    obtain ⟨u,us',rfl,h4,h5⟩:=h2.cons_inv;obtain ⟨u2,us2,rfl,h6,h7⟩:=h5.cons_inv;simp at hl;subst hl;rw [dif_neg (by simp)];exact .tup _ _ (by simpa using h2.1) fun i p v hp hv=>h2.2 i p v hp (by simpa using hv)
structure GOk (P:Program) (G:Prog):Prop where
 mix:P.follows .mixedOrders=true
 func:∀ f vf,G.func f=some vf->∃ fn Z,P.funcs[f]?=some fn/\zo P Z fn=some vf
 ext:∀ f g ps r,G.ext f=some g->g ps=some r->ziw P f ps r
 extRun:∀ f xs H r H',G.extRun f xs H=some (r,H')->zjZ (CC P) P f xs H r H'
theorem zi4 {fn:Func} {tmps:Array Value} {Rr:Ending->World->Prop} {φ0:Phi} {H0:Heap} {w0:World} (hK:∀ w',Evo φ0 H0 w0 φ H w'->HRel C S base φ H w'->(ERel (Imm S base φ H w') φ w' env a)->∃ v,(Go.results fn tmps).run P w'=.ok v w'/\Rr (.returned v) w') :
  ∀ (marks:List Nat) (w:World),marks.Nodup->(∀ r∈marks,w0.heap.size<=r/\w.heap[r]?=some (.deferred (some [])))->Evo φ0 H0 w0 φ H w->HRel C S base φ H w->ERel (Imm S base φ H w) φ w env a ->
   LeavesInM Fence.wide n P fn tmps Rr (marks.map zcH) .returning w:=by
 intro marks
 induction marks with
 | nil =>
  intro w _ _ hev hH hE;exact hK w hev hH hE
 | cons r marks ih =>
  intro w hnd hm hev hH hE;have hr:=hm r (List.mem_cons_self ..);have hlt:=zcU hr.2
  refine ⟨by simp,.inl ⟨r,laid w r (.deferred none),rfl,?_,?_⟩⟩
  ·simp only [Instr.takeDeferred,Sem.run_bind];have h1:(getObj r).run P w=.ok (.deferred (some [])) w:=by simp [getObj,Sem.run,hr.2]
   have h2:(setObj r (.deferred none)).run P w=.ok () (laid w r (.deferred none)):=by simp [setObj,Sem.run,hr.2,laid]
   simp only [h1,Result.andThen_ok,Sem.run_bind,h2,Sem.run_pure]
  ·refine ih (laid w r (.deferred none)) (List.nodup_cons.1 hnd).2 (fun s hs=>?_) ?_ (hH.touch hr.2 _) fun t=>zls hr.2 _ (hE t)
   ·have:=hm s (List.mem_cons_of_mem _ hs);exact ⟨this.1,(zbd (fun e=>(List.nodup_cons.1 hnd).1 (by rw [<- e];exact hs))).trans this.2⟩
   ·exact ⟨hev.phi,hev.os,hev.tape,hev.output,by simp [laid];exact hev.size,fun b hb hnm=>(zbd (by omega)).trans (hev.same b hb hnm),hev.muts,hev.nx⟩
theorem zkc {I:Bool->Nat->Prop} {xs:List AV} {vals:List Value} {k:Nat} (h:VRels I φ w xs vals):ERel I φ w (zb xs) { tmps:=vals.toArray++Array.replicate k undef,defers:=[] }:=fun t=>by
 show VRel I φ w ((xs[t]?).getD (.tup [])) ((vals.toArray++Array.replicate k undef).getD t undef);rcases Nat.lt_or_ge t xs.length with ht|ht
 ·have ht':t < vals.length:=by rw [<- h.1];exact ht
  have:=h.2 t xs[t] vals[t] (List.getElem?_eq_getElem ht) (List.getElem?_eq_getElem ht');rw [List.getElem?_eq_getElem ht];have e:(vals.toArray++Array.replicate k undef).getD t undef=vals[t]:=by
   simp only [Array.getD_eq_getD_getElem?,Array.getElem?_append];simp [ht']
  rw [e];exact this
 ·rw [List.getElem?_eq_none ht];have e:(vals.toArray++Array.replicate k undef).getD t undef=undef:=by
   have:=h.1;simp only [Array.getD_eq_getD_getElem?,Array.getElem?_append];rw [if_neg (by simp;omega)];simp only [Array.getElem?_replicate]
   split<;>rfl
  rw [e];exact zdo
theorem zlW {I:Bool->Nat->Prop}:∀ {ts:List Tmp} {xs:List AV} {vals:List Value} {env:Env} {tmps:Array Value},(∀ t,VRel I φ w (env t) (tmps.getD t undef))->VRels I φ w xs vals->(∀ t∈ts,t < tmps.size) ->
  (∀ t,VRel I φ w (((ts.zip xs).foldl (fun e x=>upd e x.1 x.2) env) t) (((ts.zip vals).foldl (fun tm (x:Tmp×Value)=>tm.setIfInBounds x.1 x.2) tmps).getD t undef)) /\
   ((ts.zip vals).foldl (fun tm (x:Tmp×Value)=>tm.setIfInBounds x.1 x.2) tmps).size=tmps.size
 | [],xs,vals,env,tmps,hE,hx,hl=>⟨hE,rfl⟩
 | t::ts,[],vals,env,tmps,hE,hx,hl=>by rw [hx.nil_inv];exact ⟨hE,rfl⟩
 | t::ts,x::xs,vals,env,tmps,hE,hx,hl=>by
  obtain ⟨v,vs,rfl,h1,h2⟩:=hx.cons_inv;have ht:=hl t (List.mem_cons_self ..);have:=zlW (ts:=ts) (env:=upd env t x) (tmps:=tmps.setIfInBounds t v) (fun u=>by
   simp only [upd]
   by_cases hu:u=t
   ·subst hu;simp [ht];exact h1
   ·rw [if_neg hu];have e:(tmps.setIfInBounds t v).getD u undef=tmps.getD u undef:=by simp [Ne.symm hu]
    rw [e];exact hE u) h2 (fun u hu=>by simp;exact hl u (List.mem_cons_of_mem _ hu))
  simp only [List.zip_cons_cons,List.foldl_cons];exact ⟨this.1,this.2.trans (by simp)⟩
theorem zf6 (ps:Array Tmp) (vals:List Value) (tmps:Array Value) :
  ((ps.zip vals.toArray).foldl (fun tmps (x:Tmp×Value)=>tmps.setIfInBounds x.1 x.2) tmps)=((ps.toList.zip vals).foldl (fun tm (x:Tmp×Value)=>tm.setIfInBounds x.1 x.2) tmps):=by
 rw [<- Array.foldl_toList];simp
theorem zkL (S:Bool->Nat->Prop) (w:World) (hS:∀ k b,S k b->b < w.heap.size) (hG:zns w):HRel C S w.heap.size (fun _=>none) Heap.empty w :=
 ⟨Nat.le_refl _,hS,fun id x h=>by simp at h,fun id b n h=>by simp at h,fun id b n h=>by simp at h,fun id id' b n n' h=>by simp at h,fun g hg=>⟨(hG g hg).lt,hG g hg⟩⟩
theorem zf0 {f:FuncId} {ps:List PV} {v:AV} {H':Heap} {r:PV} {ids:List Nat} (h:zjZ C P f (ps.map .pure) Heap.empty v H') (hf:Vm.freeze H' false zab v=some (r,ids)):ziw P f ps r:=by
 refine ⟨h.1,fun n S' w vals hS hG hps=>?_⟩
 have hI:∀ k b,S' k b->Imm S' w.heap.size (fun _=>none) Heap.empty w k b:=fun k b hb=>⟨.inl hb,hS k b hb,fun ⟨id,m,hid,_⟩=>by simp at hid⟩
 refine CallsIn.mono (h.2 n S' w.heap.size (fun _=>none) w vals (zkL S' w hS hG) (VRels.pures hps.1 fun i p v hp hv=>(hps.2 i p v hp hv).mono fun k b hb=>⟨hI k b hb,rfl⟩)) ?_
 rintro e w' ⟨u,φ',rfl,hev,hH,hv⟩
 refine ⟨u,rfl,⟨hev.os,hev.tape,hev.output,hev.size,fun b hb=>hev.same b hb fun ⟨id,m,hid,_⟩=>by simp at hid⟩,?_⟩
 refine zex hH (J:=fun k b=>(S' k b\/w.heap.size<=b)/\b < w'.heap.size) (fun k b hb=>⟨hb.1,hb.2.1⟩) zab v r ids u hf hv fun id _ b m hid=>?_
 have:=hH.lt _ _ _ hid;exact ⟨.inr this.1,this.2⟩
theorem zmi (G:Prog) (n:Nat) (tg:Target) (args:List AV) (H:Heap):Vm.call G (n+1) tg args H =
  (let cl:Callee:={
   pure:=fun f ps=>match G.ext f with
    | some g=>g ps
    | none=>match Vm.call G n (.fn f) (ps.map .pure) Heap.empty with
     | some (v,H')=>(Vm.freeze H' false zab v).map (·.1)
     | none=>none
   shared:=G.shared
   run:=fun f xs H=>Vm.call G n (.fn f) xs H
   yield:=fun id xs H=>Vm.call G n (.yield id) xs H }
  match tg with
  | .fn f=>match G.extRun f args H with
   | some r=>some r
   | none=>match G.func f with
    | none=>none
    | some fn =>
     if args.length=fn.nargs then
      match exec cl fn.body (zb args) H with
      | some (.normal,env,H')|some (.ret,env,H')=>match Vm.results env H' fn.results with
       | some v=>some (v,H')
       | none=>none
      | _=>none
     else none
  | .yield id=>match H.get id with
   | .loop r =>
    if args.length=r.params.length then
     match exec cl r.assign ((r.params.zip args).foldl (fun e x=>upd e x.1 x.2) r.env) H with
     | some (.normal,env2,H2)=>match H2.get id with
      | .loop r2=>match r2.state with
       | .ready=>match exec cl r.body env2 (H2.set id (.loop { r2 with state:=.busy })) with
        | some (x,_,H3)=>match H3.get id with
         | .loop r3=>match x with
          | .normal=>some (.pure (.bool true),H3.set id (.loop { r3 with state:=.ready,pending:=.normal }))
          | x=>some (.pure (.bool false),H3.set id (.loop { r3 with state:=.done,pending:=x }))
         | _=>none
        | none=>none
       | _=>none
      | _=>none
     | _=>none
    else none
   | _=>none):=rfl
def znM (P:Program) (tg:Target) (args:List AV) (H:Heap) (r:AV) (H':Heap):Prop :=
 match tg with
 | .fn f=>zjZ (CC P) P f args H r H'
 | .yield id=>zly (CC P) P id args H r H'
theorem zku {G:Prog} (hG:GOk P G):∀ (n:Nat) (tg:Target) (args:List AV) (H:Heap) (r:AV) (H':Heap),Vm.call G n tg args H=some (r,H')->znM P tg args H r H':=by
 intro n
 induction n with
 | zero=>intro tg args H r H' h;simp [Vm.call] at h
 | succ n ih =>
  intro tg args H r H' h;rw [zmi] at h
  extract_lets cl at h
  have hcl:CalleeOk (CC P) P cl:=by
   refine ⟨fun f ps r h=>?_,fun f xs H r H' h=>ih (.fn f) xs H r H' h,fun id xs H r H' h=>ih (.yield id) xs H r H' h⟩
   simp only [cl] at h
   split at h
   ·rename_i g hg;exact hG.ext _ _ _ _ hg h
   ·split at h
    ·rename_i v H1 hc;rw [Option.map_eq_some_iff] at h;obtain ⟨⟨p,ids⟩,hf,rfl⟩:=h;exact zf0 (ih (.fn f) _ _ _ _ hc) hf
    ·simp at h
  clear_value cl
  cases tg with
  | fn f =>
   simp only at h
   split at h
   ·rename_i r0 hr0;simp only [Option.some.injEq] at h;subst h;exact hG.extRun _ _ _ _ _ hr0
   split at h
   ·simp at h
   ·rename_i vf hvf;obtain ⟨fn,Z,hfn,hcomp⟩:=hG.func _ _ hvf;unfold zo at hcomp
    split at hcomp
    ·rename_i c rs hb hrs
     split at hcomp
     ·simp at hcomp
     ·rename_i hname;simp only [Bool.or_eq_true,not_or,Bool.not_eq_true,Bool.not_eq_eq_eq_not,Bool.not_true,Bool.not_false] at hname;rw [Option.map_eq_some_iff] at hcomp;obtain ⟨vc,hvc,rfl⟩:=hcomp
      split at h
      ·rename_i hlen;simp only at hlen
       refine ⟨⟨fn,hfn,by rw [hb];rfl,hname.1⟩,fun k S base φ w vals hH hv=>?_⟩
       have hle:fn.params.size+fn.nfree<=fn.ntmps:=by simpa using hname.2
       have hvl:vals.length=fn.params.size+fn.nfree:=hv.1.symm.trans hlen
       refine callsIn_of_wp_marks hfn hb trivial ?_
       have hR:R (CC P) S base w.heap.size fn.ntmps φ H (zb args) { tmps:=vals.toArray++Array.replicate (fn.ntmps - vals.toArray.size) undef,defers:=[] } w :=
        ⟨hH,zkc hv,by simp;omega,Nat.le_refl _,[],rfl,List.nodup_nil,by simp⟩
       have hmain:∀ (x:VExit) (env':Env),exec cl vc (zb args) H=some (x,env',H')->(x=.normal\/x=.ret)->Vm.results env' H' rs=some r ->
         c.wpIn (Fw none) k P (bodyPostM Fence.wide k P fn fun e w'=>∃ v φ',e=.returned v/\Evo φ H w φ' H' w'/\HRel (CC P) S base φ' H' w'/\VRel (Imm S base φ' H' w') φ' w' r v)
          { tmps:=vals.toArray++Array.replicate (fn.ntmps - vals.toArray.size) undef,defers:=[] } w:=fun x env' hx hx2 hres=>by
        refine zeK hcl hG.mix c vc _ H x env' H' φ _ w _ (.inl rfl) hvc hx hR fun φ' a' w' hev hR'=>?_
        obtain ⟨marks,m1,m2,m3⟩:=hR'.defs;have hleave:=zi4 (n:=k) (P:=P) (C:=CC P) (S:=S) (base:=base) (fn:=fn) (tmps:=a'.tmps) (a:=a') (env:=env') (φ:=φ') (H:=H') (φ0:=φ) (H0:=H) (w0:=w)
         (Rr:=fun e w'=>∃ v φ',e=.returned v/\Evo φ H w φ' H' w'/\HRel (CC P) S base φ' H' w'/\VRel (Imm S base φ' H' w') φ' w' r v) (fun w2 hev2 hH2 hE2=>by
          obtain ⟨u,h1,h2⟩:=zj3 hH2 hE2 (fn:=fn) hrs hres;exact ⟨u,h1,u,φ',rfl,hev2,hH2,h2⟩) marks w' m2 m3 hev hR'.heap hR'.env
        rw [<- m1] at hleave;rcases hx2 with rfl|rfl<;>exact hleave
       split at h
       ·rename_i env' H1 hx
        split at h
        ·rename_i v hres;simp at h;obtain ⟨rfl,rfl⟩:=h;exact hmain _ _ hx (.inl rfl) hres
        ·simp at h
       ·rename_i env' H1 hx
        split at h
        ·rename_i v hres;simp at h;obtain ⟨rfl,rfl⟩:=h;exact hmain _ _ hx (.inr rfl) hres
        ·simp at h
       ·simp at h
      ·simp at h
    ·simp at hcomp
  | yield id =>
   simp only at h
   split at h
   ·rename_i lr hlr
    split at h
    ·rename_i hlen
     split at h
     ·rename_i env2 H2 hx1
      split at h
      ·rename_i r2 hr2
       split at h
       ·rename_i hst2
        split at h
        ·rename_i x env3 H3 hx2
         split at h
         ·rename_i r3 hr3;intro k S base φ w b m vals hid hH hv;have ho:=hH.obj _ _ _ hid;rw [hlr] at ho;obtain ⟨l,g1,g2,g3,g4,⟨Z5,g5,g5'⟩,⟨Z6,g6,g6'⟩,g7,g8⟩:=ho
          refine ⟨l,g1,?_,?_⟩
          ·rw [<- hv.1,hlen,<- g4];simp
          ·refine roundIn_of_wpIn trivial ?_
           rw [zf6];have hz:=zlW (ts:=l.params.toList) g7 hv (by rw [g4];exact g8);rw [<- g4] at hx1;have hR:R (CC P) S base w.heap.size l.tmps.size φ H ((l.params.toList.zip args).foldl (fun e x=>upd e x.1 x.2) lr.env)
             { tmps:=((l.params.toList.zip vals).foldl (fun tm (x:Tmp×Value)=>tm.setIfInBounds x.1 x.2) l.tmps),defers:=[] } w :=
            ⟨hH,hz.1,hz.2,Nat.le_refl _,[],rfl,List.nodup_nil,by simp⟩
           refine zeK (ro:=some b) hcl hG.mix l.assign lr.assign _ H .normal env2 H2 φ _ w _ (.inr g5') g5 hx1 hR fun φ1 a1 w1 hev1 hR1=>?_
           have hid1:=hev1.phi _ _ hid;have ho1:=hR1.heap.obj _ _ _ hid1;rw [hr2] at ho1;obtain ⟨l1,k1,k2,k3,k4,k5,k6,k7,k8⟩:=ho1;have hb1:(Instr.beginRound b).run P w1=.ok () (laid w1 b (.loop { l1 with state:=.busy })):=by
            have:l1.state=.ready:=by rw [k2,hst2];rfl
            simp only [Instr.beginRound,Sem.run_bind,zd3 k1,Result.andThen_ok,zcj k1,this,Sem.run_pure]
           refine ⟨_,hb1,?_⟩
           obtain ⟨hev2,hH2⟩:=hR1.heap.write (o:=.loop { r2 with state:=.busy }) (w':=laid w1 b (.loop { l1 with state:=.busy })) hid1 (by rw [hr2];rfl) rfl rfl rfl (by simp [laid]) (fun c hc=>zbd hc)
            ⟨{ l1 with state:=.busy },zh0 (zcU k1),rfl,k3,k4,k5,k6,fun t=>(k7 t).touch fun _ c hc hcc=>⟨hc,zbd fun e=>by subst e;obtain ⟨c',t',fz,h1⟩:=hcc;rw [k1] at h1;simp at h1⟩,k8⟩
           have hR2:R (CC P) S base w.heap.size l.tmps.size φ1 (H2.set id (.loop { r2 with state:=.busy })) env2 a1 (laid w1 b (.loop { l1 with state:=.busy })) :=
            ⟨hH2,fun t=>hev2.vrel (hR1.env t),hR1.size,Nat.le_trans hR1.lole hev2.size,zdr hR1.heap hev2 hR1.defs⟩
           refine zeK (ro:=some b) hcl hG.mix l.body lr.body _ _ x env3 H3 φ1 _ _ _ (.inr g6') g6 hx2 hR2 fun φ3 a3 w3 hev3 hR3=>?_
           have hid3:=hev3.phi _ _ hid1;have ho3:=hR3.heap.obj _ _ _ hid3;rw [hr3] at ho3;obtain ⟨l3,q1,q2,q3,q4,q5,q6,q7,q8⟩:=ho3;have fin:∀ (st:LState) (lst:LoopState) (pe:VExit) (j:Option Code) (bv:Bool),lst=zlD st->j=znR pe->(Instr.endRound b j).run P w3=.ok (.bool bv) (laid w3 b (.loop { l3 with state:=lst,pending:=j })) ->
             (r,H')=(.pure (.bool bv),H3.set id (.loop { r3 with state:=st,pending:=pe })) ->
             ∃ v w',(Instr.endRound b j).run P w3=.ok v w'/\∃ u φ',Ending.returned v=.returned u/\Evo φ H w φ' H' w'/\HRel (CC P) S base φ' H' w'/\VRel (Imm S base φ' H' w') φ' w' r u:=by
            intro st lst pe j bv e1 e2 hrun e3;simp at e3;obtain ⟨rfl,rfl⟩:=e3;obtain ⟨hev4,hH4⟩:=hR3.heap.write (o:=.loop { r3 with state:=st,pending:=pe }) (w':=laid w3 b (.loop { l3 with state:=lst,pending:=j })) hid3 (by rw [hr3];rfl) rfl rfl rfl (by simp [laid]) (fun c hc=>zbd hc)
             ⟨{ l3 with state:=lst,pending:=j },zh0 (zcU q1),e1,e2,q4,q5,q6,fun t=>(q7 t).touch fun _ c hc hcc=>⟨hc,zbd fun e=>by subst e;obtain ⟨c',t',fz,h1⟩:=hcc;rw [q1] at h1;simp at h1⟩,q8⟩
            exact ⟨_,_,hrun,_,φ3,rfl,hev1.trans (hev2.trans (hev3.trans hev4)),hH4,.pure _ _ (.bool _)⟩
           have hend:∀ j:Option Code,(Instr.endRound b j).run P w3=.ok (.bool j.isNone) (laid w3 b (.loop { l3 with state:=if j.isNone then .ready else .done,pending:=j })):=fun j=>by
            simp only [Instr.endRound,Sem.run_bind,zd3 q1,Result.andThen_ok,zcj q1,Sem.run_pure]
           cases x with
           | normal =>
            simp at h;exact fin .ready .ready .normal none true rfl rfl (hend none) (by simp [h])
           | exit i =>
            simp at h;exact fin .done .done (.exit i) (some (.exit i)) false rfl rfl (hend _) (by simp [h])
           | ret =>
            simp at h;exact fin .done .done .ret (some .ret) false rfl rfl (hend _) (by simp [h])
         ·simp at h
        ·simp at h
       ·simp at h
      ·simp at h
     ·simp at h
    ·simp at h
   ·simp at h
theorem zj2 {G:Prog} (hG:GOk P G) {n f:Nat} {ps:List PV} {r:PV} (h:zI G n f ps=some r):ziw P f ps r:=by
 unfold zI at h
 split at h
 ·rename_i g hg;exact hG.ext _ _ _ _ hg h
 ·split at h
  ·rename_i v H1 hc;rw [Option.map_eq_some_iff] at h;obtain ⟨⟨p,ids⟩,hf,rfl⟩:=h;exact zf0 (zku hG n (.fn f) _ _ _ _ hc) hf
  ·simp at h
end
def zq (G:Prog) (n:Nat):Callee where
 pure:=zI G n
 shared:=G.shared
 run:=fun f xs H=>call G n (.fn f) xs H
 yield:=fun id xs H=>call G n (.yield id) xs H
theorem ziR (G:Prog) (n f:Nat) (args:List AV) (H:Heap):Vm.call G (n+1) (.fn f) args H=match G.extRun f args H with
   | some r=>some r
   | none=>match G.func f with
    | none=>none
    | some fn =>
     if args.length=fn.nargs then
      match exec (zq G n) fn.body (zb args) H with
      | some (.normal,env,H')|some (.ret,env,H')=>match Vm.results env H' fn.results with
       | some v=>some (v,H')
       | none=>none
      | _=>none
     else none:=rfl
inductive Tag {α:Type} (a:α):Type
 | mk
section
variable {cl:Callee} {env:Env} {H:Heap}
def wpE (pre:Nat) (r:Option Eff) (H:Heap) (k:AV->Heap->Prop) (_:Tag (H,k)):Prop:=∃ e,r=some e/\¬ (pre≠0/\za0 e=true)/\k (apply H e).1 (apply H e).2
theorem zfh {pre:Nat} {v:AV} {k:AV->Heap->Prop} {u}:wpE pre (some (.val v)) H k u↔k v H:=by
 constructor
 ·rintro ⟨e,he,_,h⟩;simp at he;subst he;exact h
 ·intro h;exact ⟨_,rfl,by simp [za0],h⟩
theorem zei {pre:Nat} {o:AObj} {f:Nat->AV} {k:AV->Heap->Prop} {u}:wpE pre (some (.new o f)) H k u↔k (f H.nx) (H.alloc o):=by
 constructor
 ·rintro ⟨e,he,_,h⟩;simp at he;subst he;exact h
 ·intro h;exact ⟨_,rfl,by simp [za0],h⟩
theorem zeZ {v:AV} {H':Heap} {k:AV->Heap->Prop} {u}:wpE 0 (some (.upd v H')) H k u↔k v H':=by
 constructor
 ·rintro ⟨e,he,_,h⟩;simp at he;subst he;exact h
 ·intro h;exact ⟨_,rfl,by simp,h⟩
def wpIf (c:Bool) (A B:Prop) (_:Tag (A,B)):Prop:=if c=true then A else B
def wpG (b:Bool) (v:AV) (A B:Prop) (_:Tag (A,B)):Prop :=
 match v with
 | .pure (.bool c)=>if c=b then A else B
 | .tup []=>B
 | _=>False
def wpO (cl:Callee) (pre:Nat) (ops:List VOper) (env:Env) (H:Heap) (K:Env->Heap->Prop) (_:Tag (ops,env,H,K)):Prop:=∃ r,zT cl pre ops env H=some r/\K r.1 r.2
theorem zlC {pre:Nat} {K:Env->Heap->Prop} {u}:wpO cl pre [] env H K u↔K env H:=by
 constructor
 ·rintro ⟨r,hr,h⟩;simp [zT] at hr;subst hr;exact h
 ·intro h;exact ⟨(env,H),rfl,h⟩
theorem zi8 {pre:Nat} {d:Option Nat} {op:VOp} {os:List VOper} {K:Env->Heap->Prop} {u} :
  wpO cl pre (⟨d,op,none⟩::os) env H K u↔wpE pre (step cl env H op) H (fun v H'=>wpO cl (pre - 1) os (zaq env d v) H' K .mk) .mk:=by
 constructor
 ·rintro ⟨r,hr,h⟩;simp only [zT,wanted] at hr
  split at hr
  ·simp at hr
  ·rename_i e he
   split at hr
   ·simp at hr
   ·rename_i hc;exact ⟨e,he,hc,r,hr,h⟩
 ·rintro ⟨e,he,hc,r,hr,h⟩
  refine ⟨r,?_,h⟩
  simp only [zT,wanted,he];rw [if_neg hc];exact hr
theorem zmM {pre:Nat} {d:Option Nat} {op:VOp} {g:Nat} {b:Bool} {os:List VOper} {K:Env->Heap->Prop} {u} :
  wpO cl pre (⟨d,op,some (some g,b)⟩::os) env H K u↔wpG b (env g) (wpE pre (step cl env H op) H (fun v H'=>wpO cl (pre - 1) os (zaq env d v) H' K .mk) .mk) (wpO cl (pre - 1) os (zaq env d (.tup [])) H K .mk) .mk:=by
 have main:∀ c,wanted env (some (some g,b))=some c->(wpO cl pre (⟨d,op,some (some g,b)⟩::os) env H K u ↔
   if c=true then (wpE pre (step cl env H op) H (fun v H'=>wpO cl (pre - 1) os (zaq env d v) H' K .mk) .mk) else (wpO cl (pre - 1) os (zaq env d (.tup [])) H K .mk)):=by
  intro c hc
  cases c with
  | false =>
   simp only [Bool.false_eq_true,if_false]
   constructor
   ·rintro ⟨r,hr,h⟩;simp only [zT,hc] at hr;exact ⟨r,hr,h⟩
   ·rintro ⟨r,hr,h⟩;exact ⟨r,by simp only [zT,hc];exact hr,h⟩
  | true =>
   simp only [if_true]
   constructor
   ·rintro ⟨r,hr,h⟩;simp only [zT,hc] at hr
    split at hr
    ·simp at hr
    ·rename_i e he
     split at hr
     ·simp at hr
     ·rename_i hc';exact ⟨e,he,hc',r,hr,h⟩
   ·rintro ⟨e,he,hc',r,hr,h⟩
    refine ⟨r,?_,h⟩
    simp only [zT,hc,he];rw [if_neg hc'];exact hr
 have bad:wanted env (some (some g,b))=none->(wpO cl pre (⟨d,op,some (some g,b)⟩::os) env H K u↔False):=by
  intro hc
  constructor
  ·rintro ⟨r,hr,h⟩;simp [zT,hc] at hr
  ·exact False.elim
 unfold wpG
 split
 ·rename_i c hv;rw [main (c == b) (by simp only [wanted,hv])]
  cases c<;>cases b<;>simp
 ·rename_i hv;rw [main false (by simp only [wanted,hv])];simp
 ·rename_i h1 h2
  refine bad ?_
  simp only [wanted]
theorem zh9 {α:Type} (f:Nat->α) (i j:Nat) (v:α):upd f i v j=if j=i then v else f j:=rfl
theorem zgB {α:Type} (f:Nat->α) (i:Nat) (v:α):zaq f (some i) v=upd f i v:=rfl
theorem zkB {α:Type} (f:Nat->α) (v:α):zaq f none v=f:=rfl
theorem zka (t:Nat):Opnd.eval env (.tmp t)=env t:=rfl
theorem zg7 (p:PV):Opnd.eval env (.const p)=.pure p:=rfl
def dsts (ops:List VOper):List Nat:=ops.filterMap (·.dst)
theorem zje {env:Env} {d:Option Nat} {v:AV} {t:Nat} (h:d≠some t):zaq env d v t=env t:=by
 cases d with
 | none=>rfl
 | some i =>
  have:t≠i:=fun e=>h (by rw [e]);simp [zaq,upd,this]
theorem zdF:∀ {pre:Nat} {ops:List VOper} {env:Env} {H:Heap} {r:Env×Heap},zT cl pre ops env H=some r->∀ t,(dsts ops).contains t=false->r.1 t=env t
 | pre,[],env,H,r,h,t,_=>by simp [zT] at h;subst h;rfl
 | pre,o::os,env,H,r,h,t,ht=>by
  have h1:o.dst≠some t:=fun e=>by simp [dsts,List.filterMap_cons,e] at ht
  have h2:(dsts os).contains t=false:=by
   cases hd:o.dst with
   | none=>simpa [dsts,List.filterMap_cons,hd] using ht
   | some i =>
    simp only [dsts,List.filterMap_cons,hd,List.contains_cons,Bool.or_eq_false_iff] at ht;exact ht.2
  unfold zT at h
  split at h
  ·simp at h
  ·exact (zdF h t h2).trans (zje h1)
  ·split at h
   ·simp at h
   ·split at h
    ·simp at h
    ·exact (zdF h t h2).trans (zje h1)
def wp (cl:Callee) (c:VCode) (env:Env) (H:Heap) (Q:VExit->Env->Heap->Prop) (_:Tag (c,env,H,Q)):Prop:=∃ x env' H',exec cl c env H=some (x,env',H')/\Q x env' H'
variable {Q:VExit->Env->Heap->Prop}
theorem wp.mono {c:VCode} {Q':VExit->Env->Heap->Prop} {u u'} (h:wp cl c env H Q u) (hq:∀ x e h,Q x e h->Q' x e h):wp cl c env H Q' u':=by
 obtain ⟨x,e,h',h1,h2⟩:=h;exact ⟨x,e,h',h1,hq _ _ _ h2⟩
theorem zo0 {u}:wp cl .skip env H Q u↔Q .normal env H:=by
 constructor
 ·rintro ⟨x,e,h,h1,h2⟩;simp [exec] at h1;obtain ⟨rfl,rfl,rfl⟩:=h1;exact h2
 ·intro h;exact ⟨_,_,_,rfl,h⟩
theorem zpd {i:Nat} {u}:wp cl (.exit i) env H Q u↔Q (.exit i) env H:=by
 constructor
 ·rintro ⟨x,e,h,h1,h2⟩;simp [exec] at h1;obtain ⟨rfl,rfl,rfl⟩:=h1;exact h2
 ·intro h;exact ⟨_,_,_,rfl,h⟩
theorem zqc {u}:wp cl .ret env H Q u↔Q .ret env H:=by
 constructor
 ·rintro ⟨x,e,h,h1,h2⟩;simp [exec] at h1;obtain ⟨rfl,rfl,rfl⟩:=h1;exact h2
 ·intro h;exact ⟨_,_,_,rfl,h⟩
theorem zin {pre:Option Nat} {ops:List VOper} {u}:wp cl (.region pre ops) env H Q u↔wpO cl (pre.getD 0) ops env H (Q .normal) .mk:=by
 constructor
 ·rintro ⟨x,e,h,h1,h2⟩;simp only [exec] at h1
  split at h1
  ·rename_i e' h' hr;simp at h1;obtain ⟨rfl,rfl,rfl⟩:=h1;exact ⟨_,hr,h2⟩
  ·simp at h1
 ·rintro ⟨⟨e,h⟩,hr,h2⟩;exact ⟨_,_,_,by simp only [exec,hr],h2⟩
def seqQ (cl:Callee) (b:VCode) (Q:VExit->Env->Heap->Prop) (x:VExit) (e:Env) (h:Heap):Prop:=match x with
 | .normal=>wp cl b e h Q .mk
 | x=>Q x e h
theorem zfO {b:VCode} {e:Env} {h:Heap}:seqQ cl b Q .normal e h↔wp cl b e h Q .mk:=Iff.rfl
theorem znD {b:VCode} {e:Env} {h:Heap}:seqQ cl b Q .ret e h↔Q .ret e h:=Iff.rfl
theorem zmL {b:VCode} {i:Nat} {e:Env} {h:Heap}:seqQ cl b Q (.exit i) e h↔Q (.exit i) e h:=Iff.rfl
theorem znJ {a b:VCode} {u}:wp cl (.seq a b) env H Q u↔wp cl a env H (seqQ cl b Q) .mk:=by
 constructor
 ·rintro ⟨x,e,h,h1,h2⟩;simp only [exec] at h1
  split at h1
  ·rename_i e' h' hr;exact ⟨_,_,_,hr,x,e,h,h1,h2⟩
  ·rename_i hn
   refine ⟨x,e,h,h1,?_⟩
   cases x with
   | normal=>exact absurd h1 (by intro hh;exact hn _ _ hh)
   | exit i=>exact h2
   | ret=>exact h2
 ·rintro ⟨x,e,h,h1,h2⟩
  cases x with
  | normal =>
   obtain ⟨x',e',h',h3,h4⟩:=h2;exact ⟨x',e',h',by simp only [exec,h1];exact h3,h4⟩
  | exit i=>exact ⟨_,_,_,by simp only [exec,h1],h2⟩
  | ret=>exact ⟨_,_,_,by simp only [exec,h1],h2⟩
def wpC (v:AV) (A B:Prop) (_:Tag (A,B)):Prop:=match v with
 | .pure (.bool c)=>wpIf c A B .mk
 | _=>False
theorem zl3 {c:Opnd} {a b:VCode} {u}:wp cl (.cond c a b) env H Q u↔wpC (c.eval env) (wp cl a env H Q .mk) (wp cl b env H Q .mk) .mk:=by
 unfold wpC
 constructor
 ·rintro ⟨x,e,h,h1,h2⟩;simp only [exec] at h1
  split at h1
  ·rename_i t ht;rw [ht]
   cases t with
   | true=>exact ⟨x,e,h,by simpa using h1,h2⟩
   | false=>exact ⟨x,e,h,by simpa using h1,h2⟩
  ·simp at h1
 ·intro hw
  split at hw
  ·rename_i t ht
   cases t with
   | true =>
    obtain ⟨x,e,h,h1,h2⟩:=hw;exact ⟨x,e,h,by simp only [exec,ht];exact h1,h2⟩
   | false =>
    obtain ⟨x,e,h,h1,h2⟩:=hw;exact ⟨x,e,h,by simp only [exec,ht];exact h1,h2⟩
  ·exact hw.elim
def zdA (id:Nat) (Q:VExit->Env->Heap->Prop) (x:VExit) (e:Env) (h:Heap):Prop:=match x with
 | .exit i=>if i=id then Q .normal e h else Q (.exit i) e h
 | x=>Q x e h
theorem zhI {id:Nat} {e:Env} {h:Heap}:zdA id Q .normal e h↔Q .normal e h:=Iff.rfl
theorem zk2 {id:Nat} {e:Env} {h:Heap}:zdA id Q .ret e h↔Q .ret e h:=Iff.rfl
theorem zj5 {id:Nat} {e:Env} {h:Heap}:zdA id Q (.exit id) e h↔Q .normal e h:=by simp [zdA]
theorem ziG {id i:Nat} {e:Env} {h:Heap} (hi:i≠id):zdA id Q (.exit i) e h↔Q (.exit i) e h:=by simp [zdA,hi]
def zjr (P:Env->Heap->Prop) (Q:VExit->Env->Heap->Prop) (x:VExit) (e:Env) (h:Heap):Prop:=match x with
 | .normal=>P e h
 | x=>Q x e h
theorem ziI {P:Env->Heap->Prop} {e:Env} {h:Heap}:zjr P Q .normal e h↔P e h:=Iff.rfl
theorem zmu {P:Env->Heap->Prop} {e:Env} {h:Heap}:zjr P Q .ret e h↔Q .ret e h:=Iff.rfl
theorem zkD {P:Env->Heap->Prop} {i:Nat} {e:Env} {h:Heap}:zjr P Q (.exit i) e h↔Q (.exit i) e h:=Iff.rfl
theorem znH {id:Nat} {c:VCode} {u}:wp cl (.block id c) env H Q u↔wp cl c env H (zdA id Q) .mk:=by
 constructor
 ·rintro ⟨x,e,h,h1,h2⟩;simp only [exec] at h1
  split at h1
  ·rename_i i e' h' hr
   refine ⟨_,_,_,hr,?_⟩
   show if i=id then _ else _
   split at h1
   ·rename_i hi;simp at h1;obtain ⟨rfl,rfl,rfl⟩:=h1;rw [if_pos hi];exact h2
   ·rename_i hi;simp at h1;obtain ⟨rfl,rfl,rfl⟩:=h1;rw [if_neg hi];exact h2
  ·rename_i hn
   refine ⟨x,e,h,h1,?_⟩
   cases x with
   | normal=>exact h2
   | ret=>exact h2
   | exit i=>exact absurd h1 (by intro hh;exact hn _ _ _ hh)
 ·rintro ⟨x,e,h,h1,h2⟩
  cases x with
  | normal=>exact ⟨_,_,_,by simp only [exec,h1],h2⟩
  | ret=>exact ⟨_,_,_,by simp only [exec,h1],h2⟩
  | exit i =>
   by_cases hi:i=id
   ·subst hi;simp only [zdA,if_true] at h2;exact ⟨_,_,_,by simp only [exec,h1,if_true],h2⟩
   ·simp only [zdA,if_neg hi] at h2;exact ⟨_,_,_,by simp only [exec,h1,if_neg hi],h2⟩
theorem zoS {c:VCode} {σ:Type} (I:σ->Env->Heap->Prop) (m:σ->Nat) (s:σ) (h0:I s env H) (hm:m s < zx)
  (hb:∀ s env H,I s env H->wp cl c env H (zjr (fun e h=>∃ s',m s' < m s/\I s' e h) Q) .mk) {u}:wp cl (.loop c) env H Q u:=by
 have main:∀ k s env H,m s < k->I s env H->∃ x env' H',iter (exec cl c) k env H=some (x,env',H')/\Q x env' H':=by
  intro k
  induction k with
  | zero=>intro s env H hk;omega
  | succ k ih =>
   intro s env H hk hI;obtain ⟨x,e,h,h1,h2⟩:=hb s env H hI
   cases x with
   | normal =>
    obtain ⟨s',hs',hI'⟩:=h2;obtain ⟨x',e',h',h3,h4⟩:=ih s' e h (by omega) hI';exact ⟨x',e',h',by simp only [iter,h1];exact h3,h4⟩
   | exit i=>exact ⟨_,_,_,by simp only [iter,h1],h2⟩
   | ret=>exact ⟨_,_,_,by simp only [iter,h1],h2⟩
 obtain ⟨x,e,h,h1,h2⟩:=main zx s env H hm h0;exact ⟨x,e,h,by simp only [exec];exact h1,h2⟩
def wpR (rs:List VRes) (r:PV) (x:VExit) (env:Env) (H:Heap):Prop :=
 (∀ i,x≠.exit i)/\∃ v,results env H rs=some v/\∃ ids,freeze H false zab v=some (r,ids)
theorem zoB {rs:List VRes} {r:PV}:wpR rs r .ret env H↔∃ v,results env H rs=some v/\∃ ids,freeze H false zab v=some (r,ids):=by
 simp [wpR]
theorem zlc {rs:List VRes} {r:PV}:wpR rs r .normal env H↔∃ v,results env H rs=some v/\∃ ids,freeze H false zab v=some (r,ids):=by
 simp [wpR]
theorem zA {G:Prog} {n f:Nat} {fn:VFunc} {args:List PV} {r:PV} (hx:G.ext f=none) (hr:G.extRun f (args.map .pure) Heap.empty=none) (hf:G.func f=some fn) (hl:args.length=fn.nargs)
  (h:wp (zq G n) fn.body (zb (args.map .pure)) Heap.empty (wpR fn.results r) .mk):zI G (n+1) f args=some r:=by
 obtain ⟨x,e,h',h1,h2,v,h3,ids,h4⟩:=h;unfold zI;rw [hx];simp only;rw [ziR,hr,hf];simp only [List.length_map,hl,if_true,h1]
 cases x with
 | exit i=>exact absurd rfl (h2 i)
 | normal=>simp only [h3,h4,Option.map_some]
 | ret=>simp only [h3,h4,Option.map_some]
end
@[simp] theorem zqL {A B:Prop} {u}:wpIf true A B u↔A:=Iff.rfl
@[simp] theorem zkw {A B:Prop} {u}:wpIf false A B u↔B:=by simp [wpIf]
theorem zlh {c:Bool} {A B:Prop} {u} (h1:c=true->A) (h2:c=false->B):wpIf c A B u:=by
 cases c with
 | true=>exact h1 rfl
 | false=>rw [zkw];exact h2 rfl
@[simp] theorem zrj {c:Bool} {A B:Prop} {u}:wpIf (!c) A B u↔wpIf c B A .mk:=by cases c<;>simp
theorem za {c:Bool} {A B:Prop} {u} (h1:c=true->c=true->A) (h2:c=false->c=false->B):wpIf c A B u :=
 zlh (fun h=>h1 h h) fun h=>h2 h h
@[simp] theorem zrL {b:Bool} {A B:Prop} {u}:wpG b (.tup []) A B u↔B:=Iff.rfl
@[simp] theorem zqZ {c:Bool} {A B:Prop} {u}:wpG true (.pure (.bool c)) A B u↔wpIf c A B .mk:=by cases c<;>simp [wpG]
@[simp] theorem zqC {c:Bool} {A B:Prop} {u}:wpG false (.pure (.bool c)) A B u↔wpIf c B A .mk:=by cases c<;>simp [wpG]
@[simp] theorem zrO {c:Bool} {A B:Prop} {u}:wpC (.pure (.bool c)) A B u↔wpIf c A B .mk:=Iff.rfl
attribute [simp] zfO znD zmL zhI zk2 zj5 ziG ziI zmu zkD
attribute [simp] zfh zei zeZ zlC zi8 zmM zh9 zgB zkB zka zg7 zo0 zpd zqc zin znJ zl3 znH zoB zlc
section
variable {cl:Callee} {env:Env} {H:Heap}
@[simp] theorem zqR (d:EqK) (k:IntKind) (a b:Int):vbin .lss d (.pure (.int k a)) (.pure (.int k b))=some (.pure (.bool (decide (a < b)))):=by simp [vbin,zbG,zcW]
@[simp] theorem zrs (d:EqK) (k:IntKind) (a b:Int):vbin .leq d (.pure (.int k a)) (.pure (.int k b))=some (.pure (.bool (decide (a<=b)))):=by simp [vbin,zbG,zcW]
@[simp] theorem zqY (d:EqK) (k:IntKind) (a b:Int):vbin .gtr d (.pure (.int k a)) (.pure (.int k b))=some (.pure (.bool (decide (b < a)))):=by simp [vbin,zbG,zcW]
@[simp] theorem zqX (d:EqK) (k:IntKind) (a b:Int):vbin .geq d (.pure (.int k a)) (.pure (.int k b))=some (.pure (.bool (decide (b<=a)))):=by simp [vbin,zbG,zcW]
@[simp] theorem zrh (d:EqK) (k:IntKind) (a b:Int):vbin .eql d (.pure (.int k a)) (.pure (.int k b))=some (.pure (.bool (decide (a=b)))):=by
 simp [vbin,zbG,zcW]
 by_cases h:a=b<;>simp [h]
@[simp] theorem zqW (d:EqK) (k:IntKind) (a b:Int):vbin .neq d (.pure (.int k a)) (.pure (.int k b))=some (.pure (.bool (!decide (a=b)))):=by
 simp [vbin,zbG,zcW]
 by_cases h:a=b<;>simp [h]
@[simp] theorem zq3 (d:EqK) (k:IntKind) (a b:Int):vbin .add d (.pure (.int k a)) (.pure (.int k b))=some (.pure (.int k (k.wrap (a+b)))):=by simp [vbin,zbG]
@[simp] theorem zra (d:EqK) (k:IntKind) (a b:Int):vbin .sub d (.pure (.int k a)) (.pure (.int k b))=some (.pure (.int k (k.wrap (a - b)))):=by simp [vbin,zbG]
@[simp] theorem zri (d:EqK) (k:IntKind) (a b:Int):vbin .mul d (.pure (.int k a)) (.pure (.int k b))=some (.pure (.int k (k.wrap (a*b)))):=by simp [vbin,zbG]
@[simp] theorem zrz (b:Bool):vun .not (.pure (.bool b))=some (.pure (.bool (!b))):=rfl
@[simp] theorem zrx (k:IntKind) (n:Int):vun .neg (.pure (.int k n))=some (.pure (.int k (k.wrap (0 - n)))):=rfl
theorem wrap64 {n:Int} (h:-9223372036854775808<=n) (h':n < 9223372036854775808):IntKind.i64.wrap n=n:=zgh h h'
@[simp] theorem zp0 (x:Opnd):step cl env H (.mov x)=some (.val (x.eval env)):=rfl
@[simp] theorem zp8 (op:BinOp) (d:EqK) (x y:Opnd):step cl env H (.bin op d x y)=(vbin op d (x.eval env) (y.eval env)).map .val:=rfl
@[simp] theorem zrQ (op:UnOp) (x:Opnd):step cl env H (.un op x)=(vun op (x.eval env)).map .val:=rfl
def znE (c a b:AV):Option Eff:=match c with
 | .pure (.bool t)=>some (.val (if t then a else b))
 | _=>none
@[simp] theorem zrA (c a b:Opnd):step cl env H (.pick c a b)=znE (c.eval env) (a.eval env) (b.eval env):=by
 simp only [step,znE];rfl
@[simp] theorem zpG (t:Bool) (a b:AV):znE (.pure (.bool t)) a b=some (.val (if t=true then a else b)):=rfl
def zdc (v:AV):Option Eff:=match v with
 | .pure .nils=>some (.val (.pure (.int .i64 0)))
 | .pure (.slice _ _ es)=>some (.val (.pure (.int .i64 es.length)))
 | .row _ _ _ n=>some (.val (.pure (.int .i64 n)))
 | _=>none
@[simp] theorem zrd (x:Opnd):step cl env H (.lenSl x)=zdc (x.eval env):=rfl
@[simp] theorem zpV:zdc (.pure .nils)=some (.val (.pure (.int .i64 0))):=rfl
@[simp] theorem zpj (h:Bool) (sz:Nat) (es:List (List PV)):zdc (.pure (.slice h sz es))=some (.val (.pure (.int .i64 es.length))):=rfl
@[simp] theorem zp4 (i sz o n:Nat):zdc (.row i sz o n)=some (.val (.pure (.int .i64 n))):=rfl
def znG (k:IntKind) (v:AV):Option Eff:=match v with
 | .pure (.int _ n)=>some (.val (.pure (.int k (k.wrap n))))
 | _=>none
@[simp] theorem zq0 (k:IntKind) (x:Opnd):step cl env H (.toInt k x)=znG k (x.eval env):=rfl
@[simp] theorem zpH (k k':IntKind) (n:Int):znG k (.pure (.int k' n))=some (.val (.pure (.int k (k.wrap n)))):=rfl
@[simp] theorem zrD (f:Opnd) (args:List Opnd):step cl env H (.call f args)=zM cl H (f.eval env) (args.map (·.eval env)):=rfl
@[simp] theorem zrN (g:Bool) (size:Nat) (x:Opnd):step cl env H (.load g size x)=(zH H size (x.eval env)).bind fun cs=>(zae g cs).map .val:=by
 simp only [step]
 cases zH H size (x.eval env)<;>rfl
def zcn (sz:Nat) (v i:AV):Option Eff:=match i with
 | .pure (.int _ n)=>if 0<=n then match v with
    | .pure (.slice k s es)=>if s=sz then match es[n.toNat]? with
     | some e=>some (.val (.pure (.ptr k e 0)))
     | none=>none else none
    | .row id s off len=>if s=sz/\n < len then some (.val (.box id (off*sz+n.toNat*sz))) else none
    | _=>none
   else none
 | _=>none
@[simp] theorem zo6 (sz:Nat) (x i:Opnd):step cl env H (.indexAddr sz none x i)=zcn sz (x.eval env) (i.eval env):=by
 simp only [step,zcn];rfl
@[simp] theorem zmx {k:IntKind} {n:Nat} {id sz off len:Nat} (h:n < len):zcn sz (.row id sz off len) (.pure (.int k n))=some (.val (.box id (off*sz+n*sz))):=by
 simp only [zcn];rw [if_pos (by omega)];have:(n:Int) < len:=by omega
 simp [this]
theorem zeJ {k:IntKind} {n:Nat} {hot:Bool} {sz:Nat} {es:List (List PV)} {e:List PV} (h:es[n]?=some e):zcn sz (.pure (.slice hot sz es)) (.pure (.int k n))=some (.val (.pure (.ptr hot e 0))):=by
 simp only [zcn];rw [if_pos (by omega)];simp [h]
def rowB (l:List UInt8):List AV:=l.map fun b=>.pure (.int .u8 b.toNat)
@[simp] theorem zpn (l:List UInt8):(rowB l).length=l.length:=by simp [rowB]
def zbK (o:AObj) (size off:Nat) (vs:List AV):Option AObj:=match o with
 | .cells true cs=>if vs.length=size/\size≠0/\vs.all AV.one=true/\off+size<=cs.length then some (.cells true (cs.take off++vs++cs.drop (off+size))) else none
 | _=>none
def zk5 (H:Heap) (size:Nat) (a:AV) (vs:List AV):Option Eff:=match a with
 | .box id off=>(zbK (H.get id) size off vs).map fun o=>.upd (.tup []) (H.set id o)
 | _=>none
@[simp] theorem zru (size:Nat) (a x:Opnd):step cl env H (.store size a x)=zk5 H size (a.eval env) (x.eval env).cells:=by
 simp only [step,zk5]
 cases a.eval env<;>try rfl
 rename_i id off;simp only [zbK]
 cases H.get id<;>try rfl
 rename_i own cs
 cases own with
 | false=>rfl
 | true =>
  simp only
  split<;>rfl
@[simp] theorem zp5 (size id off:Nat) (vs:List AV):zk5 H size (.box id off) vs=(zbK (H.get id) size off vs).map fun o=>.upd (.tup []) (H.set id o):=rfl
def ziD (o:AObj) (size off:Nat) (vs:List AV):Option AObj:=match o with
 | .raw z=>zbK (.cells true (z.map .pure)) size off vs
 | _=>none
def zi3 (H:Heap) (size:Nat) (a:AV) (vs:List AV):Option Eff:=match a with
 | .box id off=>(ziD (H.get id) size off vs).map fun o=>.upd (.tup []) (H.set id o)
 | _=>none
@[simp] theorem zpP (z:List PV) (size off:Nat) (vs:List AV):ziD (.raw z) size off vs=zbK (.cells true (z.map .pure)) size off vs:=rfl
@[simp] theorem zpo (size id off:Nat) (vs:List AV):zi3 H size (.box id off) vs=(ziD (H.get id) size off vs).map fun o=>.upd (.tup []) (H.set id o):=rfl
@[simp] theorem zqz (size:Nat) (a x:Opnd):step cl env H (.storeI size a x)=zi3 H size (a.eval env) (x.eval env).cells:=by
 simp only [step,zi3]
 cases a.eval env<;>try rfl
 rename_i id off;simp only [ziD]
 cases H.get id<;>try rfl
 simp only [zbK]
 split<;>rfl
@[simp] theorem zqK (z:List PV):step cl env H (.allocR z)=some (.new (.raw z) fun id=>.box id 0):=rfl
def zf7 (o:AObj) (off n:Nat):Option Eff:=match o with
 | .cells _ cs=>if off+n<=cs.length then match ((cs.drop off).take n).mapM zc8 with
   | some bs=>some (.val (.pure (.str ⟨bs.toArray⟩)))
   | none=>none else none
 | _=>none
def zhg (H:Heap) (v:AV):Option Eff:=match zJ H 1 v with
  | some (cs,_)=>match cs.mapM zc8 with
   | some bs=>some (.val (.pure (.str ⟨bs.toArray⟩)))
   | none=>none
  | none=>none
@[simp] theorem zq6 (x:Opnd):step cl env H (.toStr x)=zhg H (x.eval env):=rfl
@[simp] theorem zk4 (id off n:Nat):zhg H (.row id 1 off n)=zf7 (H.get id) off n:=by
 simp only [zhg,zJ,zf7,if_true]
 cases H.get id<;>try rfl
 simp only [Nat.mul_one]
 split
 ·rename_i h;split at h
  ·rename_i hc;rw [if_pos hc];simp at h;obtain ⟨rfl,_⟩:=h;rfl
  ·simp at h
 ·rename_i h;split at h
  ·simp at h
  ·rename_i hc;rw [if_neg hc]
theorem zhT:∀ (l:List UInt8),(rowB l).mapM zc8=some l
 | []=>rfl
 | c::l=>by
  have:=zhT l;simp only [rowB] at this;simp [rowB,zc8,this]
@[simp] theorem ziy {own:Bool} {l:List UInt8} {n:Nat} (h:l.length=n):zf7 (.cells own (rowB l)) 0 n=some (.val (.pure (.str ⟨l.toArray⟩))):=by
 subst h;simp only [zf7];rw [if_pos (by simp)];have:((rowB l).drop 0).take l.length=rowB l:=by rw [List.drop_zero];exact List.take_of_length_le (by simp)
 rw [this,zhT]
@[simp] theorem zpN:zhg H (.pure .nils)=some (.val (.pure (.str ⟨#[]⟩))):=rfl
@[simp] theorem zpQ (i:Nat) (x:Opnd):step cl env H (.extract i x)=match x.eval env with
  | .pure (.tup vs)=>match vs[i]? with
   | some v=>some (.val (.pure v))
   | none=>none
  | .tup vs=>match vs[i]? with
   | some v=>some (.val v)
   | none=>none
  | _=>none:=rfl
@[simp] theorem zry (i:Nat) (x:Opnd):step cl env H (.idle i x)=match x.eval env with
  | .pure (.tup vs)=>match vs[i]? with
   | some _=>some (.val .undef)
   | none=>none
  | .tup vs=>match vs[i]? with
   | some _=>some (.val .undef)
   | none=>none
  | _=>none:=rfl
@[simp] theorem zrF (x:Opnd):step cl env H (.movL x)=some (.val (x.eval env)):=rfl
@[simp] theorem zoQ (sz:Nat):step cl env H (.voidSlice sz)=some (.new (.cells true []) fun id=>.void id sz):=rfl
@[simp] theorem zrG (x:Opnd):step cl env H (.boxF x)=match zad (x.eval env).cells with
  | some ps=>some (.val (.pure (.ptr false ps 0)))
  | none=>none:=rfl
@[simp] theorem zoR (off:Nat) (x:Opnd):step cl env H (.fieldAddr off x)=match x.eval env with
  | .pure (.ptr k cs o)=>some (.val (.pure (.ptr k cs (o+off))))
  | .box id o=>some (.val (.box id (o+off)))
  | _=>none:=rfl
@[simp] theorem zq8 (g:Bool) (size:Nat) (x:Opnd):step cl env H (.loadP g size x)=match x.eval env with
  | .pure (.ptr _ cs off)=>if off+size<=cs.length then (zae g (((cs.drop off).take size).map .pure)).map .val else none
  | _=>none:=rfl
@[simp] theorem zql (size:Nat) (a x:Opnd) (ls:List Opnd):step cl env H (.storeE size a x ls)=match a.eval env with
  | .box id _=>if ls.all (fun l=>beside id (l.eval env))=true then step cl env H (.store size a x) else none
  | _=>none:=by
 simp only [step];generalize a.eval env=v
 cases v<;>rfl
@[simp] theorem zqo (off:Nat) (x:Opnd):step cl env H (.fieldL off x)=match x.eval env with
  | .pure (.ptr k cs o)=>some (.val (.pure (.ptr k cs (o+off))))
  | .box id o=>some (.val (.box id (o+off)))
  | _=>none:=rfl
@[simp] theorem zrr (g:Bool) (size:Nat) (x:Opnd):step cl env H (.loadL g size x)=(zH H size (x.eval env)).bind fun cs=>(zae g cs).map .val:=by
 simp only [step]
 cases zH H size (x.eval env)<;>rfl
@[simp] theorem zq4 (z:List PV):step cl env H (.alloc z)=some (.new (.cells true (z.map .pure)) fun id=>.box id 0):=rfl
@[simp] theorem zrP (x:Opnd):step cl env H (.box x)=some (.new (.cells true (x.eval env).cells) fun id=>.box id 0):=rfl
@[simp] theorem zqU (z:List PV) (ps:List (Nat×Nat×Opnd)):step cl env H (.build z ps)=(fill (z.map .pure) (zV env ps)).map fun cs=>.val (aggV cs):=by
 simp only [step]
 cases fill (z.map .pure) (zV env ps)<;>rfl
@[simp] theorem zop:zV env []=[]:=rfl
@[simp] theorem zoc (o s:Nat) (x:Opnd) (ps:List (Nat×Nat×Opnd)):zV env ((o,s,x)::ps)=(o,s,x.eval env)::zV env ps:=rfl
@[simp] theorem zrk (cs:List AV):fill cs []=some cs:=rfl
@[simp] theorem zqO (cs:List AV) (off size:Nat) (v:AV) (rest:List (Nat×Nat×AV)):fill cs ((off,size,v)::rest)=if v.cells.length=size/\size≠0/\off+size<=cs.length then fill (cs.take off++v.cells++cs.drop (off+size)) rest else none:=by
 simp only [fill]
@[simp] theorem zot (sz:Nat) (z:List PV) (ps:List (Nat×Nat×Opnd)):step cl env H (.buildSlice sz z ps)=(fill (z.map .pure) (zV env ps)).map fun cs=>.new (.cells true cs) fun id=>.row id sz 0 (if sz=0 then 0 else cs.length / sz):=by
 simp only [step]
 cases fill (z.map .pure) (zV env ps)<;>rfl
@[simp] theorem zrq (f:Opnd) (xs ls:List Opnd):step cl env H (.callE f xs ls)=match zM cl H (f.eval env) (xs.map (·.eval env)) with
  | some (.upd v H2)=>if ls.all (fun l=>keeps H H2 (l.eval env))=true then some (.upd v H2) else none
  | _=>none:=rfl
@[simp] theorem zq2 (f:Opnd) (xs:List Opnd):step cl env H (.callD f xs)=zb6 cl H (f.eval env) (xs.map (·.eval env)):=rfl
@[simp] theorem zrI (sz bytes:Nat) (a x:Opnd) (ls:List Opnd):step cl env H (.appB sz bytes a x ls)=if ls.all (fun l=>zed (a.eval env) (l.eval env))=true then zi H sz bytes (a.eval env) (x.eval env) else none:=rfl
@[simp] theorem zqr (z:List PV) (ps:List (Nat×Nat×Opnd)):step cl env H (.buildL z ps)=(fill (z.map .pure) (zV env ps)).map fun cs=>.val (aggV cs):=by
 simp only [step]
 cases fill (z.map .pure) (zV env ps)<;>rfl
@[simp] theorem zqn (sz:Nat) (z:List PV) (ps:List (Nat×Nat×Opnd)):step cl env H (.buildF sz z ps)=(fill (z.map .pure) (zV env ps)).bind fun cs=>(zad cs).bind fun ps=>if ps.length=zjm sz cs.length*sz then some (.val (.pure (.slice false sz (chunks sz (zjm sz cs.length) ps)))) else none:=by
 simp only [step]
 cases fill (z.map .pure) (zV env ps) with
 | none=>rfl
 | some cs=>simp only [Option.bind_some];cases zad cs<;>rfl
@[simp] theorem zpt (f:Nat) (first:List Opnd):step cl env H (.makeMeth f first)=(zad (first.map (·.eval env))).bind fun ps=>some (.val (.pure (.meth f ps))):=by
 simp only [step]
 cases zad (first.map (·.eval env))<;>rfl
@[simp] theorem zpv (g:Nat) (first:List PV) (args:List AV):zM cl H (.pure (.meth g first)) args=zM cl H (.pure (.func g [])) (first.map .pure++args):=by
 simp only [zM,List.map_nil,List.append_nil]
@[simp] theorem zpF (f:Nat) (caps:List Opnd):step cl env H (.makeFunc f caps)=some (.val (zff f (caps.map (·.eval env)))):=rfl
@[simp] theorem zqG (n:Nat):step cl env H (.lenArr n)=some (.val (.pure (.int .i64 n))):=rfl
@[simp] theorem zqB (sz b:Nat) (x y:Opnd):step cl env H (.append sz b x y)=zi H sz b (x.eval env) (y.eval env):=rfl
def zfl (mx:Bool) (vs:List AV):Option Eff:=match vs with
 | .pure (.int k a)::rest=>(zbS mx k a rest).map fun n=>.val (.pure (.int k n))
 | _=>none
@[simp] theorem zqI (mx:Bool) (xs:List Opnd):step cl env H (.minmax mx xs)=zfl mx (xs.map fun x=>x.eval env):=rfl
@[simp] theorem zrC (k k':IntKind) (a b:Int):zfl true [.pure (.int k a),.pure (.int k' b)]=some (.val (.pure (.int k (max a b)))):=by
 simp only [zfl,zbS,Option.map_some]
 congr 4
 simp only [if_true]
 split<;>omega
@[simp] theorem zrJ (k k':IntKind) (a b:Int):zfl false [.pure (.int k a),.pure (.int k' b)]=some (.val (.pure (.int k (min a b)))):=by
 simp only [zfl,zbS,Option.map_some]
 congr 4
 simp only [Bool.false_eq_true,if_false]
 split<;>omega
@[simp] theorem zpM:zad []=some []:=rfl
@[simp] theorem zpk (p:PV) (vs:List AV):zad (.pure p::vs)=(zad vs).map (p :: ·):=rfl
theorem zkO:∀ (ps:List PV),zad (ps.map .pure)=some ps
 | []=>rfl
 | p::ps=>by simp [zkO ps]
@[simp] theorem zqD (ps:List PV):AV.cells (.pure (.agg ps))=ps.map .pure:=rfl
@[simp] theorem zqH (k:IntKind) (n:Int):AV.cells (.pure (.int k n))=[.pure (.int k n)]:=rfl
@[simp] theorem zpW (b:Bool):AV.cells (.pure (.bool b))=[.pure (.bool b)]:=rfl
@[simp] theorem zqx (b:ByteArray):AV.cells (.pure (.str b))=[.pure (.str b)]:=rfl
@[simp] theorem zqd:AV.cells (.pure .nils)=[.pure .nils]:=rfl
@[simp] theorem zpp (h:Bool) (sz:Nat) (es:List (List PV)):AV.cells (.pure (.slice h sz es))=[.pure (.slice h sz es)]:=rfl
@[simp] theorem zqt (i sz o n:Nat):AV.cells (.row i sz o n)=[.row i sz o n]:=rfl
@[simp] theorem zor (size:Nat) (k:Bool) (cs:List PV) (off:Nat):zH H size (.pure (.ptr k cs off))=if off+size<=cs.length then some (((cs.drop off).take size).map .pure) else none:=rfl
def zck (o:AObj) (size off:Nat):Option (List AV):=match o with
 | .cells _ cs=>if off+size<=cs.length then some ((cs.drop off).take size) else none
 | _=>none
@[simp] theorem zoo (size id off:Nat):zH H size (.box id off)=zck (H.get id) size off:=by
 simp only [zH,zck];rfl
@[simp] theorem zpq (cs:List AV):zae true cs=some (aggV cs):=rfl
@[simp] theorem zqj {cs:List AV} {ps:List PV} (h:zad cs=some ps):aggV cs=.pure (.agg ps):=by simp [aggV,h]
@[simp] theorem zpi {f:Nat} {cs:List AV} {ps:List PV} (h:zad cs=some ps):zff f cs=.pure (.func f ps):=by simp [zff,h]
@[simp] theorem zpC (c:AV):zae false [c]=some c:=rfl
@[simp] theorem zpD (t:Nat):results env H [.tmp t]=some (env t):=rfl
@[simp] theorem zpu (t u:Nat):results env H [.tmp t,.tmp u]=some (.tup [env t,env u]):=rfl
@[simp] theorem zpm (h:Bool) (n:Nat) (p:PV):freeze H h (n+1) (.pure p)=some (p,[]):=rfl
@[simp] theorem zon (h:Bool) (p:PV):freeze H h zab (.pure p)=some (p,[]):=rfl
@[simp] theorem zqh (h:Bool) (n:Nat) (cs:List AV):freeze H h (n+1) (.tup cs)=(match zK (freeze H h n) cs with
   | some (ps,is)=>some (.tup ps,is)
   | none=>none):=rfl
@[simp] theorem zpb (h:Bool) (cs:List AV):freeze H h zab (.tup cs)=(match zK (freeze H h 11) cs with
   | some (ps,is)=>some (.tup ps,is)
   | none=>none):=rfl
theorem zdf (h:Bool) (n:Nat):∀ (ps:List PV),zK (freeze H h (n+1)) (ps.map .pure)=some (ps,[])
 | []=>rfl
 | p::ps=>by simp [zK,zdf h n ps]
@[simp] theorem zpE (fr:AV->Option (PV×List Nat)):zK fr []=some ([],[]):=rfl
@[simp] theorem zpf (fr:AV->Option (PV×List Nat)) (v:AV) (vs:List AV):zK fr (v::vs)=(match fr v with
  | none=>none
  | some (p,is)=>match zK fr vs with
   | none=>none
   | some (ps,js)=>some (p::ps,is++js)):=by
 simp only [zK];rfl
@[simp] theorem zaj (o:AObj):(H.alloc o).nx=H.nx+1:=by cases H;simp only [Heap.alloc]
@[simp] theorem zaL (id:Nat) (o:AObj):(H.set id o).nx=H.nx:=by cases H;simp only [Heap.set]
@[simp] theorem zP {id:Nat} {o:AObj} (h:id < H.nx):(H.set id o).get id=o:=zaS h
theorem zC {id:Nat} {own:Bool} {cs:List AV} (h:H.get id=.cells own cs):id < H.nx:=zb1 (by rw [h];simp)
@[simp] theorem zaf (o:AObj):(H.alloc o).get H.nx=o:=zaG
theorem zf {id:Nat} {o:AObj} (h:id < H.nx):(H.alloc o).get id=H.get id:=zas (by omega)
theorem zl9 {G:Prog} {n f:Nat} {ps:List PV} {r:PV} (hs:G.shared f=false) (h:zI G n f ps=some r):zM (zq G n) H (.pure (.func f [])) (ps.map .pure)=some (.val (.pure r)):=by
 have h1:zK (freeze H true zab) (ps.map .pure)=some (ps,[]):=zdf true 11 ps;have h2:(zq G n).shared f=false:=hs;have h3:(zq G n).pure f ps=some r:=h;simp only [zM,List.map_nil,List.append_nil,h2,Bool.false_eq_true,if_false,h1,h3,List.isEmpty_nil,Bool.true_or,if_true]
end
end Go.Proofs.Ytleggocccaeemaa.Vm
