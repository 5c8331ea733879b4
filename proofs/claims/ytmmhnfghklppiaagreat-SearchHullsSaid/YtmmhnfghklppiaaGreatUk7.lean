/- Each operation of the machine does what the model's operation does: maps with keys that are numbers or texts. Data taken out of one's own memory; calls; every operation in one theorem. Every operation in one theorem. An operation looks at its operands alone, and goes on to do so when more memory is there. A region of operations, in the order of its text, or in whatever order it may be drawn. A region whose order is drawn. The operations of a region in another order of text. A region whose order is drawn, cut into parts. The machine's code stands for the model's code. Calls: the machine's call stands for the model's. Reasoning about runs of the machine of values: what must hold ahead of a piece of code. What single operations of the machine of values come to, as rules for simp. Slices of one's own that grow by append. More for walks: slices as data with their things, loops that keep what they do not write, appends and calls with one's own slices. -/
import Derived.Test.YtmmhnfghklppiaaGreatUk6
import Derived.MapKept
namespace Go.Proofs.YtmmhnfghklppiaaGreat.Vm
open Go Go.RowKit
set_option linter.unusedVariables false
set_option linter.unusedSimpArgs false
section
variable {C:jC} {P:Program} {S:Bool->Nat->Prop} {base:Nat} {φ:jI} {H:Heap} {w:World} {env:Env} {a:Act} {e:Eff} {o:Oper} {I:Bool->Nat->Prop}
theorem zrb {t:TypeId} {z:PV} (h:XE P t=some z):∃ v,(zeroValue t).run P w=.ok v w/\bR I w z v:=by
 unfold XE at h
 split at h
 .rename_i i hi
  split at h
  .rename_i v hv;exact ⟨v,by simp [zeroValue,RI hi,hv],zjo h⟩
  .simp at h
 .simp at h
theorem zh4 {t:TypeId} {s:Bool} (h:Ip P t=some s):(s=false/\∃ k,P.underlying t=some (.int k))\/(s=true/\P.underlying t=some .string):=by
 unfold Ip at h
 split at h
 .rename_i k hk;simp at h;exact .inl ⟨h,k,hk⟩
 .rename_i hk;simp at h;exact .inr ⟨h,hk⟩
 .simp at h
theorem zhr {t:TypeId} {s:Bool} (h:Rz P t=some s):∃ k e,P.underlying t=some (.map k e)/\Ip P k=some s:=by
 unfold Rz at h
 split at h
 .exact ⟨_,_,by assumption,h⟩
 .simp at h
theorem XV {t:TypeId} {s b:Bool} {n:Nat} {v:Value} (h:Ip P t=some s):(Instr.checkKey b (n+1) t v).run P w=.ok () w:=by
 rcases zh4 h with ⟨_,k,hk⟩|⟨_,hk⟩
 .simp only [Instr.checkKey,Sem.run_bind,zk hk,Result.andThen_ok];rfl
 .simp only [Instr.checkKey,Sem.run_bind,zk hk,Result.andThen_ok];rfl
theorem Um {d:TypeDesc} {s b:Bool} {p q:PV} {u v:Value} (hd:(s=false/\∃ k,d=.int k)\/(s=true/\d=.string)) (h:Xy s p q=some b) (hu:bR I w p u) (hv:bR I w q v) :
  Instr.sameNow d u v=some b/\(b=true->u=v/\Instr.sameBits 10000 u v=true):=by
 unfold Xy at h
 split at h
 .rename_i k x k' y;have e1:=hu.bJ;have e2:=hv.bJ;subst e1;subst e2
  split at h
  .rename_i hc;obtain ⟨hs,rfl⟩:=hc;rcases hd with ⟨_,j,rfl⟩|⟨h1,_⟩
   .simp at h;subst h
    refine ⟨by simp [Instr.sameNow],fun he=>?_⟩
    have:x=y:=by simpa using he
    subst this;exact ⟨rfl,by simp [Instr.sameBits]⟩
   .rw [hs] at h1;cases h1
  .simp at h
 .rename_i x y;have e1:=hu.jo;have e2:=hv.jo;subst e1;subst e2
  split at h
  .rename_i hs;rcases hd with ⟨h1,_⟩|⟨_,rfl⟩
   .rw [hs] at h1;cases h1
   .simp only [Option.some.injEq] at h;have Pm:(x == y)=b:=by
     rw [<- h];rw [Bool.eq_iff_iff,MapKept.bytes_beq];simp only [beq_iff_eq]
     constructor
     .rintro rfl;rfl
     .intro h
      cases x;cases y
      simp at h;rw [h]
    refine ⟨by simp [Instr.sameNow,Pm],fun he=>?_⟩
    rw [he] at Pm;have:x=y:=(MapKept.bytes_beq x y).1 Pm;subst this;exact ⟨rfl,by simp [Instr.sameBits,(MapKept.bytes_beq x x).2 rfl]⟩
  .simp at h
 .simp at h
def rq (I:Bool->Nat->Prop) (w:World) (es:List (PV×PV)) (ms:List MapEntry):Prop :=
 ms.length=es.length/\∀ (j:Nat) k v m,es[j]?=some (k,v)->ms[j]?=some m->bR I w k m.key/\bR I w v m.val
theorem rq.tail {p:PV×PV} {es:List (PV×PV)} {m:MapEntry} {ms:List MapEntry} (h:rq I w (p::es) (m::ms)):rq I w es ms :=
 ⟨by have:=h.1;simpa using this,fun j k v m' hk hm=>h.2 (j+1) k v m' (by simpa using hk) (by simpa using hm)⟩
theorem rq.head {p:PV×PV} {es:List (PV×PV)} {m:MapEntry} {ms:List MapEntry} (h:rq I w (p::es) (m::ms)):bR I w p.1 m.key/\bR I w p.2 m.val :=
 h.2 0 p.1 p.2 m rfl rfl
theorem rq.cons {k v:PV} {es:List (PV×PV)} {m:MapEntry} {ms:List MapEntry} (h1:bR I w k m.key) (h2:bR I w v m.val) (h:rq I w es ms):rq I w ((k,v)::es) (m::ms) :=
 ⟨by simp [h.1],fun j k' v' m' hk hm=>by
  cases j with
  | zero=>simp at hk hm;obtain ⟨rfl,rfl⟩:=hk;subst hm;exact ⟨h1,h2⟩
  | succ j=>exact h.2 j k' v' m' (by simpa using hk) (by simpa using hm)⟩
theorem ziM {d:TypeDesc} {s:Bool} {key:PV} {u:Value} (hd:(s=false/\∃ k,d=.int k)\/(s=true/\d=.string)) (hu:bR I w key u) :
  ∀ (es:List (PV×PV)) (ms:List MapEntry) (i:Nat) (r:Option PV),rq I w es ms->Rw s key es=some r ->
   (r=none/\Instr.findNow d u ms i=some none)\/∃ v j val,r=some v/\Instr.findNow d u ms i=some (some (i+j,val))/\bR I w v val
 | [],[],i,r,_,h=>by simp [Rw] at h;subst h;exact .inl ⟨rfl,rfl⟩
 | [],_::_,_,_,hm,_=>by have:=hm.1;simp at this
 | _::_,[],_,_,hm,_=>by have:=hm.1;simp at this
 | (k,v)::es,m::ms,i,r,hm,h=>by
  unfold Rw at h;have hh:=hm.head
  split at h
  .rename_i hk;simp at h;subst h
   refine .inr ⟨v,0,m.val,rfl,?_,hh.2⟩
   simp only [Instr.findNow,(Um hd hk hu hh.1).1,Nat.add_zero]
  .rename_i hk;rcases ziM hd hu es ms (i+1) r hm.tail h with ⟨h1,h2⟩|⟨v',j,val,h1,h2,h3⟩
   .refine .inl ⟨h1,?_⟩
    simp only [Instr.findNow,(Um hd hk hu hh.1).1,h2]
   .refine .inr ⟨v',j+1,val,h1,?_,h3⟩
    simp only [Instr.findNow,(Um hd hk hu hh.1).1,h2]
    congr 3
    omega
  .simp at h
theorem zhY {es:List (PV×PV)} {b n:Nat} (h:wP C I φ w (.ji es) b n):∃ (ms:Array MapEntry) (clock:Nat),w.heap[b]?=some (.map ms clock)/\rq I w es ms.toList:=by
 obtain ⟨ms,ck,h1,h2,h3⟩:=h;exact ⟨ms,ck,h1,by simpa using h2,fun j k v m hk hm=>h3 j k v m hk (by simpa using hm)⟩
theorem zmE {es:List (PV×PV)} {b n clock:Nat} {ms:Array MapEntry} (h1:w.heap[b]?=some (.map ms clock)) (h:rq I w es ms.toList):wP C I φ w (.ji es) b n :=
 ⟨ms,clock,h1,by simpa using h.1,fun j k v m hk hm=>h.2 j k v m hk (by simpa using hm)⟩
theorem zmZ {t:TypeId} (aA:o.op=.makeMap t none):jw C S base φ H w (.new (.ji []) fun id=>.j6 id) ((execOp a.eval o).run P w):=by
 refine .inl ⟨.map (some w.heap.size),w.alloc (.map #[] 0),?_,w.heap.size,0,(Below.refl _ w).alloc (Nat.le_refl _) _,Nat.le_refl _,by simp,?_,fun I' φ' id aB=>.j6 id _ _ aB⟩
 .simp [execOp,aA,Instr.makeMap,newObj];rfl
 .exact zmE (heap_alloc_new w _) ⟨rfl,fun j k v m hk hm=>by simp at hk⟩
theorem zi0 (hH:aU C S base φ H w) (hE:bz (aY S base φ H w) φ w env a) {M K:Operand} {m k:ag} {t:TypeId} {s ok:Bool} {z:PV} (hs:Rz P t=some s) (hz:ZR P t=some z) (hm:zI M=some m) (hk:zI K=some k)
  (aA:o.op=.lookup t M K ok) {id:Nat} {key:PV} {es:List (PV×PV)} {r:Option PV} (e1:m.eval env=.j6 id) (e2:k.eval env=.pure key) (hg:H.get id=.ji es) (hf:Rw s key es=some r) :
  jw C S base φ H w (.val (.pure (if ok then .aQ [r.getD z,.bool r.isSome] else r.getD z))) ((execOp a.eval o).run P w):=by
 obtain ⟨kt,et,ht,K3⟩:=zhr hs;have hze:XE P et=some z:=by simpa [ZR,ht] using hz
 have hM:=zJ hE hm;have hK:=zJ hE hk;rw [e1] at hM;rw [e2] at hK;obtain ⟨b,n,aB,Un⟩:=hM.vg;have ho:=hH.obj _ _ _ aB;rw [hg] at ho;obtain ⟨ms,ck,hb,vw⟩:=zhY ho;have hd:∃ d,P.underlying kt=some d/\((s=false/\∃ k,d=.int k)\/(s=true/\d=.string)):=by
  rcases zh4 K3 with ⟨h1,k,h2⟩|⟨h1,h2⟩
  .exact ⟨_,h2,.inl ⟨h1,k,rfl⟩⟩
  .exact ⟨_,h2,.inr ⟨h1,rfl⟩⟩
 obtain ⟨d,NA,K4⟩:=hd;obtain ⟨zv,XR,hzr⟩:=zrb (I:=aY S base φ H w) (w:=w) hze;have vE:∃ v,(Instr.lookup t (a.eval M) (a.eval K) ok).run P w=.ok v w/\bR (aY S base φ H w) w (if ok then .aQ [r.getD z,.bool r.isSome] else r.getD z) v:=by
  have Uo:∀ (v:Value) (x:Bool),bR (aY S base φ H w) w (r.getD z) v->r.isSome=x->bR (aY S base φ H w) w (if ok then .aQ [r.getD z,.bool r.isSome] else r.getD z) (if ok then .tuple #[v,.bool x] else v):=fun v x h1 h2=>by
   cases ok
   .exact h1
   .refine .aQ _ _ rfl fun i p u hp hu=>?_
    cases i with
    | zero=>simp at hp hu;subst hp;subst hu;exact h1
    | succ i =>
     cases i with
     | zero=>simp at hp hu;subst hp;subst hu;rw [h2];exact .bool x
     | succ i=>simp at hp
  rcases ziM K4 hK.aI es ms.toList 0 r vw hf with ⟨h1,h2⟩|⟨v,j,val,h1,h2,h3⟩
  .refine ⟨if ok then .tuple #[zv,.bool false] else zv,?_,Uo zv false (by rw [h1];exact hzr) (by rw [h1];rfl)⟩
   simp only [Instr.lookup,Instr.findKey,Sem.run_bind,zk ht,Result.andThen_ok,Un,MapKept.run_getObj_map hb,XV K3,zk NA,h2,Sem.run_pure,XR]
  .refine ⟨if ok then .tuple #[val,.bool true] else val,?_,Uo val true (by rw [h1];exact h3) (by rw [h1];rfl)⟩
   simp only [Instr.lookup,Instr.findKey,Sem.run_bind,zk ht,Result.andThen_ok,Un,MapKept.run_getObj_map hb,XV K3,zk NA,h2,Sem.run_pure,XR]
 obtain ⟨v,pq,aV⟩:=vE
 refine zY (v:=v) ?_ (.pure _ _ aV)
 simp [execOp,aA,pq]
theorem zkF {d:TypeDesc} {s:Bool} {key x:PV} {u xv:Value} (hd:(s=false/\∃ k,d=.int k)\/(s=true/\d=.string)) (hu:bR I w key u) (hx:bR I w x xv) :
  ∀ (es es':List (PV×PV)) (ms:List MapEntry) (i:Nat),rq I w es ms->Rx s key x es=some es' ->
   (Instr.findNow d u ms i=some none/\es'=es++[(key,x)]) \/
   ∃ j v m,Instr.findNow d u ms i=some (some (i+j,v))/\ms[j]?=some m/\m.key=u/\Instr.sameBits 10000 m.key u=true/\rq I w es' (ms.modify j fun e=>{ e with key:=u,val:=xv })
 | [],es',[],i,_,h=>by simp [Rx] at h;exact .inl ⟨rfl,h.symm⟩
 | [],_,_::_,_,hm,_=>by have:=hm.1;simp at this
 | _::_,_,[],_,hm,_=>by have:=hm.1;simp at this
 | (k,v)::es,es',m::ms,i,hm,h=>by
  unfold Rx at h;have hh:=hm.head
  split at h
  .rename_i hk;simp at h;subst h;obtain ⟨h1,h2⟩:=Um hd hk hu hh.1;obtain ⟨h3,h4⟩:=h2 rfl
   refine .inr ⟨0,m.val,m,by simp only [Instr.findNow,h1,Nat.add_zero],rfl,h3.symm,by rw [<- h3] at h4 ⊢;exact h4,?_⟩
   exact .cons hu hx hm.tail
  .rename_i hk;have h1:=(Um hd hk hu hh.1).1
   split at h
   .rename_i es2 he;simp at h;subst h;rcases zkF hd hu hx es es2 ms (i+1) hm.tail he with ⟨h2,h3⟩|⟨j,v',m',h2,h3,h4,h5,h6⟩
    .refine .inl ⟨by simp only [Instr.findNow,h1,h2],by rw [h3];rfl⟩
    .refine .inr ⟨j+1,v',m',?_,by simpa using h3,h4,h5,?_⟩
     .simp only [Instr.findNow,h1,h2]
      congr 3
      omega
     .exact .cons hh.1 hh.2 h6
   .simp at h
  .simp at h
theorem zj3 (hH:aU C S base φ H w) {id b n clock:Nat} {es es':List (PV×PV)} {ms ms':Array MapEntry} {clock':Nat} (aB:φ id=some (b,n)) (hg:H.get id=.ji es) (hb:w.heap[b]?=some (.map ms clock))
  (h:rq (aY S base φ H w) w es' ms'.toList) :
  ∃ w',(setObj b (.map ms' clock')).run P w=.ok () w'/\fT φ H w φ (H.set id (.ji es')) w'/\aU C S base φ (H.set id (.ji es')) w':=by
 refine ⟨_,MapKept.run_setObj_map _ hb,?_⟩
 obtain ⟨h1,h2⟩:=MapKept.heap_set (w:=w) (o':=.map ms' clock') hb
 refine hH.write aB (by rw [hg];rfl) rfl rfl rfl (by simp) h2 (zmE h1 ?_)
 have FX:∀ k c,aY S base φ H w k c->c≠b:=fun k c hc e=>hc.2.2 ⟨id,n,e ▸ aB,by rw [hg];rfl⟩;exact ⟨h.1,fun j k v m hk hm=>⟨(h.2 j k v m hk hm).1.mono fun k c hc=>⟨hc,h2 c (FX k c hc)⟩,(h.2 j k v m hk hm).2.mono fun k c hc=>⟨hc,h2 c (FX k c hc)⟩⟩⟩
theorem ziO (hH:aU C S base φ H w) (hE:bz (aY S base φ H w) φ w env a) {M K X:Operand} {m k x:ag} {t:TypeId} {s:Bool} (hs:Rz P t=some s) (hm:zI M=some m) (hk:zI K=some k) (hx:zI X=some x)
  (aA:o.op=.mapUpdate t M K X\/o.op=.insert t M K X) {id:Nat} {key v:PV} {es es':List (PV×PV)} (e1:m.eval env=.j6 id) (e2:k.eval env=.pure key) (e3:x.eval env=.pure v) (hg:H.get id=.ji es) (hf:Rx s key v es=some es') :
  jw C S base φ H w (.upd (.aQ []) (H.set id (.ji es'))) ((execOp a.eval o).run P w):=by
 obtain ⟨kt,et,ht,K3⟩:=zhr hs;have hM:=zJ hE hm;have hK:=zJ hE hk;have hX:=zJ hE hx;rw [e1] at hM;rw [e2] at hK;rw [e3] at hX;obtain ⟨b,n,aB,Un⟩:=hM.vg;have ho:=hH.obj _ _ _ aB;rw [hg] at ho;obtain ⟨ms,ck,hb,vw⟩:=zhY ho;have hd:∃ d,P.underlying kt=some d/\((s=false/\∃ k,d=.int k)\/(s=true/\d=.string)):=by
  rcases zh4 K3 with ⟨h1,k,h2⟩|⟨h1,h2⟩
  .exact ⟨_,h2,.inl ⟨h1,k,rfl⟩⟩
  .exact ⟨_,h2,.inr ⟨h1,rfl⟩⟩
 obtain ⟨d,NA,K4⟩:=hd;have vE:∃ w',(Instr.mapUpdate t (a.eval M) (a.eval K) (a.eval X)).run P w=.ok () w'/\fT φ H w φ (H.set id (.ji es')) w'/\aU C S base φ (H.set id (.ji es')) w':=by
  rcases zkF K4 hK.aI hX.aI es es' ms.toList 0 vw hf with ⟨h1,h2⟩|⟨j,v',m',h1,h2,h3,h4,h5⟩
  .subst h2;obtain ⟨w',g1,g2⟩:=zj3 (C:=C) (P:=P) (es':=es++[(key,v)]) (ms':=ms.push { key:=a.eval K,val:=a.eval X,born:=ck }) (clock':=ck+1) hH aB hg hb
    ⟨by have:=vw.1;simp at this ⊢;exact this,fun j k' v' m hk hm=>by
     have hl:=vw.1
     by_cases hj:j < es.length
     .rw [List.getElem?_append_left hj] at hk;rw [Array.toList_push,List.getElem?_append_left (by omega)] at hm;exact vw.2 j k' v' m hk hm
     .rw [List.getElem?_append_right (by omega)] at hk;rw [Array.toList_push,List.getElem?_append_right (by omega),hl] at hm
      cases DF:j - es.length with
      | zero=>rw [DF] at hk hm;simp at hk hm;obtain ⟨rfl,rfl⟩:=hk;subst hm;exact ⟨hK.aI,hX.aI⟩
      | succ i=>rw [DF] at hk;simp at hk⟩
   refine ⟨w',?_,g2⟩
   simp only [Instr.mapUpdate,Instr.findKey,Sem.run_bind,zk ht,Result.andThen_ok,Un,MapKept.run_getObj_map hb,XV K3,zk NA,h1,Sem.run_pure,g1]
  .obtain ⟨w',g1,g2⟩:=zj3 (C:=C) (P:=P) (es':=es') (ms':=ms.modify j fun e=>{ e with key:=a.eval K,val:=a.eval X }) (clock':=ck) hH aB hg hb (by rw [Array.toList_modify];exact h5)
   refine ⟨w',?_,g2⟩
   have hmj:ms[j]?=some m':=by simpa using h2
   simp only [Instr.mapUpdate,Instr.findKey,Sem.run_bind,zk ht,Result.andThen_ok,Un,MapKept.run_getObj_map hb,XV K3,zk NA,h1,Sem.run_pure,Nat.zero_add,hmj,Option.map_some,Option.getD_some,Instr.keyThatStays,h4,if_true,g1]
 obtain ⟨w',g1,g2,g3⟩:=vE
 refine .inr ⟨w',?_,φ,g2,g3,.aQ [] #[] rfl fun i p v h=>by simp at h⟩
 rcases aA with aA|aA<;>simp [execOp,aA,g1]
theorem znm (hH:aU C S base φ H w) (hE:bz (aY S base φ H w) φ w env a) {X:Operand} {x:ag} {t kt et:TypeId} {c:Call} (hx:zI X=some x) (ht:P.underlying t=some (.map kt et))
  (aA:o.op=.call c) (hc:c.callee=.builtin .len) (h1:c.args.toList=[X]) (h2:c.argTypes.toList=[t]) {id:Nat} {es:List (PV×PV)} (e1:x.eval env=.j6 id) (hg:H.get id=.ji es) :
  jw C S base φ H w (.val (.pure (.int .i64 es.length))) ((execOp a.eval o).run P w):=by
 have hX:=zJ hE hx;rw [e1] at hX;obtain ⟨b,n,aB,hXv⟩:=hX.vg;have ho:=hH.obj _ _ _ aB;rw [hg] at ho;obtain ⟨ms,ck,hb,vw⟩:=zhY ho;have ha:c.args=#[X]:=by rw [<- h1]
 have hb':c.argTypes=#[t]:=by rw [<- h2]
 have fF:ms.size=es.length:=by have:=vw.1;simpa using this
 refine zY (v:=goInt es.length) ?_ (.pure _ _ (.int ..))
 simp only [execOp,aA,resolve,hc,invoke,builtin,ha,hb',Sem.run_bind,Sem.run_pure,Result.andThen_ok,List.map_toArray,List.map_cons,List.map_nil,Builtin.len_,List.getElem?_toArray,List.getElem?_cons_zero,zk ht,hXv,MapKept.run_getObj_map hb,fF]
end
theorem Ur {α:Type} (sz:Nat):∀ (n:Nat) (l:List α) (i:Nat) (e:List α),(chunks sz n l)[i]?=some e->i < n/\e=(l.drop (i*sz)).take sz
 | 0,l,i,e,h=>by simp [chunks] at h
 | n+1,l,i,e,h=>by
  cases i with
  | zero=>simp [chunks] at h;exact ⟨by omega,by simp [h]⟩
  | succ i =>
   simp [chunks] at h;obtain ⟨h1,h2⟩:=Ur sz n _ i e h
   refine ⟨by omega,?_⟩
   rw [h2,List.drop_drop]
   congr 2
   rw [Nat.add_mul];omega
theorem zeb {α:Type} (sz:Nat):∀ (n:Nat) (l:List α),(chunks sz n l).length=n
 | 0,l=>rfl
 | n+1,l=>by simp [chunks,zeb sz n]
section
variable {C:jC} {P:Program} {S:Bool->Nat->Prop} {base:Nat} {φ:jI} {H:Heap} {w:World} {env:Env} {a:Act} {e:Eff} {o:Oper} {I:Bool->Nat->Prop}
theorem Pn {J:Bool->Nat->Prop} {k:Bool} {fr:AV->Option (PV×List Nat)} (tO:∀ av p ids v,fr av=some (p,ids)->aL I φ w av v->(∀ id∈ids,∀ b n,φ id=some (b,n)->J k b)->bR J w p v) :
  ∀ {cs:List AV} {ps:List PV} {ids:List Nat} {vs:List Value},zX fr cs=some (ps,ids)->aJ I φ w cs vs->(∀ id∈ids,∀ b n,φ id=some (b,n)->J k b) ->
   ps.length=vs.length/\∀ (i:Nat) p v,ps[i]?=some p->vs[i]?=some v->bR J w p v
 | [],ps,ids,vs,h,hr,hJ=>by
  simp [zX] at h;obtain ⟨rfl,rfl⟩:=h;rw [hr.nC];exact ⟨rfl,fun i p v h=>by simp at h⟩
 | c::cs,ps,ids,vs,h,hr,hJ=>by
  obtain ⟨v,vs',rfl,h1,h2⟩:=hr.cons_inv;unfold zX at h
  split at h
  .simp at h
  .rename_i p is hp
   split at h
   .simp at h
   .rename_i qs js hq;simp at h;obtain ⟨rfl,rfl⟩:=h;have ih:=Pn tO hq h2 fun id aB=>hJ id (List.mem_append_right _ aB)
    refine ⟨by simp [ih.1],fun i q u RQ hu=>?_⟩
    cases i with
    | zero =>
     simp at RQ hu;subst RQ;subst hu;exact tO c _ is _ hp h1 fun id aB=>hJ id (List.mem_append_left _ aB)
    | succ i=>simp at RQ hu;exact ih.2 i q u RQ hu
theorem zim (hH:aU C S base φ H w) {k:Bool} {J:Bool->Nat->Prop} (E5:∀ k b,aY S base φ H w k b->J k b):∀ (n:Nat) (av:AV) (p:PV) (ids:List Nat) (v:Value),freeze H k n av=some (p,ids)->aL (aY S base φ H w) φ w av v ->
  (∀ id∈ids,∀ b n,φ id=some (b,n)->J k b)->bR J w p v:=by
 intro n
 induction n with
 | zero=>intro av p ids v h;simp [freeze] at h
 | succ n ih =>
  intro av p ids v h hv hJ;unfold freeze at h
  split at h
  .simp at h;obtain ⟨rfl,rfl⟩:=h;exact hv.aI.mono fun k b hb=>⟨E5 k b hb,rfl⟩
  .split at h
   .rename_i cs ps is hf;simp at h;obtain ⟨rfl,rfl⟩:=h
    cases hv with
    | agg _ vs hl hr =>
     have:=Pn ih hf (aJ.si hl hr) hJ;exact .agg _ vs (by simpa using this.1) fun i p v hp hv=>this.2 i p v hp (by simpa using hv)
   .simp at h
  .split at h
   .rename_i cs ps is hf;simp at h;obtain ⟨rfl,rfl⟩:=h
    cases hv with
    | aQ _ vs hl hr =>
     have:=Pn ih hf (aJ.si hl hr) hJ;exact .aQ _ vs (by simpa using this.1) fun i p v hp hv=>this.2 i p v hp (by simpa using hv)
   .simp at h
  .split at h
   .rename_i f cs ps is hf;simp at h;obtain ⟨rfl,rfl⟩:=h
    cases hv with
    | func _ _ vs hl hr =>
     have:=Pn ih hf (aJ.si hl hr) hJ;exact .func _ _ vs (by simpa using this.1) fun i p v hp hv=>this.2 i p v hp (by simpa using hv)
   .simp at h
  .rename_i id off
   split at h
   .rename_i own cs hg
    split at h
    .rename_i ps is hf;simp at h;obtain ⟨rfl,rfl⟩:=h;obtain ⟨b,m,aB,rfl⟩:=hv.lZ;have ho:=hH.obj _ _ _ aB;rw [hg] at ho;obtain ⟨c,t,fz,h1,h2,h3,h4,h5⟩:=ho;have hr:aJ (aY S base φ H w) φ w cs (c.toList.take cs.length):=⟨by simp;omega,fun i p u hp hu=>by
      have hi:i < cs.length:=(List.getElem?_eq_some_iff.1 hp).1;rw [List.getElem?_take_of_lt hi] at hu;exact h5 i p u hp (by simpa using hu)⟩
     have:=Pn ih hf hr fun id aB=>hJ id (List.mem_cons_of_mem _ aB);have hlen:ps.length=cs.length:=by have:=this.1;simp at this;omega
     have bq:∀ (j:Nat) p,ps[j]?=some p->∃ hj:j < c.size,(c.toList.take cs.length)[j]?=some c[j]:=fun j p hp=>by
      have hj:j < ps.length:=(List.getElem?_eq_some_iff.1 hp).1
      refine ⟨by omega,?_⟩
      rw [List.getElem?_take_of_lt (by omega),Array.getElem?_toList,Array.getElem?_eq_getElem]
     refine .ptr k ps off b 0 off (fun j=>c.getD j undef) (by omega) (fun j p hp=>⟨hJ id (List.mem_cons_self ..) b m aB,?_⟩) fun j p hp=>?_
     .obtain ⟨hj,_⟩:=bq j p hp;simp [World.cell?,h1,hj]
     .obtain ⟨hj,hu⟩:=bq j p hp;have:=this.2 j p _ hp hu
      simpa [hj] using this
    .simp at h
   .simp at h
  .rename_i id sz off len
   split at h
   .rename_i own cs hg
    split at h
    .rename_i ps is hf
     split at h
     .rename_i hlen;simp at h;obtain ⟨rfl,rfl⟩:=h;obtain ⟨b,m,cap,aB,rfl,wT,vC⟩:=hv.jr;have ho:=hH.obj _ _ _ aB;rw [hg] at ho;obtain ⟨c,t,fz,h1,h2,h3,h4,h5⟩:=ho;have hr:aJ (aY S base φ H w) φ w ((cs.drop (off*sz)).take (len*sz)) (((c.toList.take cs.length).drop (off*sz)).take (len*sz)):=by
       refine (aJ.drop ?_ _).take _
       exact ⟨by simp;omega,fun i p u hp hu=>by
        have hi:i < cs.length:=(List.getElem?_eq_some_iff.1 hp).1;rw [List.getElem?_take_of_lt hi] at hu;exact h5 i p u hp (by simpa using hu)⟩
      have:=Pn ih hf hr fun id aB=>hJ id (List.mem_cons_of_mem _ aB);have xL:off*sz+len*sz<=cs.length\/len*sz=0:=by
       have h7:=this.1;simp at h7;omega
      have bq:∀ (i:Nat) e (j:Nat) p,(chunks sz len ps)[i]?=some e->e[j]?=some p->ps[i*sz+j]?=some p/\i*sz+j < len*sz:=fun i e j p he hp=>by
       obtain ⟨hi,rfl⟩:=Ur sz len ps i e he;have hj:j < sz:=by have:=(List.getElem?_eq_some_iff.1 hp).1;simp at this;omega
       rw [List.getElem?_take_of_lt hj,List.getElem?_drop] at hp
       refine ⟨hp,?_⟩
       have:=(List.getElem?_eq_some_iff.1 hp).1;omega
      have bX:∀ k,k < len*sz->∃ hk:off*sz+k < c.size,(((c.toList.take cs.length).drop (off*sz)).take (len*sz))[k]?=some c[off*sz+k]:=fun k hk=>by
       refine ⟨by omega,?_⟩
       rw [List.getElem?_take_of_lt hk,List.getElem?_drop,List.getElem?_take_of_lt (by omega),Array.getElem?_toList,Array.getElem?_eq_getElem]
      refine .slice k sz _ b (off*sz) len cap (fun i j=>c.getD (off*sz+(i*sz+j)) undef) (zeb _ _ _) wT (fun i e he=>?_) (fun i e j p he hp=>⟨hJ id (List.mem_cons_self ..) b m aB,?_⟩) fun i e j p he hp=>?_
      .obtain ⟨hi,rfl⟩:=Ur sz len ps i e he;have:(i+1)*sz<=len*sz:=Nat.mul_le_mul_right _ hi;rw [Nat.add_mul] at this;simp;omega
      .obtain ⟨hk1,nM⟩:=bq i e j p he hp;obtain ⟨hk,_⟩:=bX _ nM;simp [World.cell?,h1,Nat.add_assoc,hk]
      .obtain ⟨hk1,nM⟩:=bq i e j p he hp;obtain ⟨hk,hu⟩:=bX _ nM;have:=this.2 _ p _ hk1 hu
       simpa [hk] using this
     .simp at h
    .simp at h
   .simp at h
  .simp at h
theorem zqu {I':Bool->Nat->Prop} {w':World} (hI:∀ b,I false b->I' false b/\w'.heap[b]?=w.heap[b]?):∀ (n:Nat) {p:PV} {v:Value},p.iR n=true->bR I w p v->bR I' w' p v:=by
 intro n
 induction n with
 | zero=>intro p v hf;simp [PV.iR] at hf
 | succ n ih =>
  intro p v hf h
  cases h with
  | int=>exact .int ..
  | bool=>exact .bool ..
  | str=>exact .str ..
  | nils=>exact .nils
  | l8=>exact .l8
  | l9=>exact .l9
  | agg cs vs hl h=>exact .agg cs vs hl fun i p v hp hv=>ih (List.all_eq_true.1 hf p (List.mem_of_getElem? hp)) (h i p v hp hv)
  | aQ cs vs hl h=>exact .aQ cs vs hl fun i p v hp hv=>ih (List.all_eq_true.1 hf p (List.mem_of_getElem? hp)) (h i p v hp hv)
  | func f cs vs hl h=>exact .func f cs vs hl fun i p v hp hv=>ih (List.all_eq_true.1 hf p (List.mem_of_getElem? hp)) (h i p v hp hv)
  | lN f cs vs hl h=>exact .lN f cs vs hl fun i p v hp hv=>ih (List.all_eq_true.1 hf p (List.mem_of_getElem? hp)) (h i p v hp hv)
  | slice k sz es b o len cap val hlen hc hz hm h =>
   simp only [PV.iR,Bool.or_eq_true,Bool.and_eq_true,Bool.not_eq_true'] at hf;rcases hf with hf|⟨rfl,hf⟩
   .have:es=[]:=by simpa using hf
    subst this;exact .slice k sz [] b o len cap val hlen hc (fun i e he=>by simp at he) (fun i e j p he=>by simp at he) (fun i e j p he=>by simp at he)
   .refine .slice false sz es b o len cap val hlen hc hz (fun i e j p he hp=>?_) fun i e j p he hp=>?_
    .obtain ⟨h1,h2⟩:=hm i e j p he hp;exact ⟨(hI _ h1).1,(World.cell?_of_block (a:=⟨b,o+i*sz+j,none⟩) (hI _ h1).2).trans h2⟩
    .exact ih (List.all_eq_true.1 (List.all_eq_true.1 hf e (List.mem_of_getElem? he)) p (List.mem_of_getElem? hp)) (h i e j p he hp)
  | ptr k cs off b o o' val ho hm h =>
   simp only [PV.iR,Bool.and_eq_true,Bool.not_eq_true'] at hf;obtain ⟨rfl,hf⟩:=hf
   refine .ptr false cs off b o o' val ho (fun j p hp=>?_) fun j p hp=>?_
   .obtain ⟨h1,h2⟩:=hm j p hp;exact ⟨(hI _ h1).1,(World.cell?_of_block (a:=⟨b,o+j,none⟩) (hI _ h1).2).trans h2⟩
   .exact ih (List.all_eq_true.1 hf p (List.mem_of_getElem? hp)) (h j p hp)
theorem zrs {I':Bool->Nat->Prop} {w':World} (hI:∀ b,I false b->I' false b/\w'.heap[b]?=w.heap[b]?) {p:PV} {v:Value} (hf:p.cold=true) (h:bR I w p v):bR I' w' p v :=
 zqu hI _ hf h
def Fw (ro:Option Nat):Fence:={ Fence.wide with round:=ro }
def II (P : Program) (f : FuncId) : Prop := ∃ fn, P.funcs[f]? = some fn /\ fn.body.isNone = false /\ (fn.name == "runtime.NumGoroutine") = false
def nN (I:Bool->Nat->Prop) (w:World) (ps:List PV) (vs:List Value):Prop:=ps.length=vs.length/\∀ (i:Nat) p v,ps[i]?=some p->vs[i]?=some v->bR I w p v
def XW (P:Program) (f:FuncId) (ps:List PV) (r:PV):Prop :=
 II P f/\∀ (n:Nat) (S':Bool->Nat->Prop) (w:World) (vals:List Value),(∀ k b,S' k b->b < w.heap.size)->nN S' w ps vals ->
  CallsIn Fence.wide n P f vals.toArray w fun e w'=>∃ v,e=.returned v/\Below w.heap.size w w'/\bR (fun k b=>(S' k b\/w.heap.size<=b)/\b < w'.heap.size) w' r v
def Us (C:jC) (P:Program) (f:FuncId) (xs:List AV) (H:Heap) (r:AV) (H':Heap):Prop :=
 II P f/\∀ (n:Nat) (S:Bool->Nat->Prop) (base:Nat) (φ:jI) (w:World) (vals:List Value),aU C S base φ H w->aJ (aY S base φ H w) φ w xs vals ->
  CallsIn Fence.wide n P f vals.toArray w fun e w'=>∃ v φ',e=.returned v/\fT φ H w φ' H' w'/\aU C S base φ' H' w'/\aL (aY S base φ' H' w') φ' w' r v
def zoO (C:jC) (P:Program) (id:Nat) (xs:List AV) (H:Heap) (r:AV) (H':Heap):Prop :=
 ∀ (n:Nat) (S:Bool->Nat->Prop) (base:Nat) (φ:jI) (w:World) (b m:Nat) (vals:List Value),φ id=some (b,m)->aU C S base φ H w->aJ (aY S base φ H w) φ w xs vals ->
  ∃ l:Loop,w.heap[b]?=some (.loop l)/\vals.length=l.params.size /\
   RoundIn Fence.wide n P b l.fn ((l.params.zip vals.toArray).foldl (fun tmps (x:Tmp×Value)=>tmps.setIfInBounds x.1 x.2) l.tmps) l.assign l.body w
    fun e w'=>∃ v φ',e=.returned v/\fT φ H w φ' H' w'/\aU C S base φ' H' w'/\aL (aY S base φ' H' w') φ' w' r v
structure bN (C:jC) (P:Program) (cl:Callee):Prop where
 pure:∀ f ps r,cl.pure f ps=some r->XW P f ps r
 run:∀ f xs H r H',cl.run f xs H=some (r,H')->Us C P f xs H r H'
 yield:∀ id xs H r H',cl.yield id xs H=some (r,H')->zoO C P id xs H r H'
theorem zgv {f:FuncId} (hf:II P f) (args:Array Value):(callFunc f args).run P w=.ok (.enter f args) w:=by
 obtain ⟨fn,h1,h2,h3⟩:=hf;simp only [callFunc,Sem.run_bind,run_program,Result.andThen_ok,h1,h2,h3,Bool.false_eq_true,if_false,Sem.run_pure]
theorem zkd {c:Call} {g:Operand} {f:FuncId} {first caps:Array Value} (aA:o.op=.call c) (hc:c.callee=.value g) (hg:a.eval g=.func (.func f) first caps) (hf:II P f) :
  (execOp a.eval o).run P w=.ok (.enter f (first++c.args.map a.eval++caps)) w:=by
 simp only [execOp,aA,resolve,hc,hg,Deferred.ofValue,Sem.run_bind,Sem.run_pure,Result.andThen_ok,invoke];rw [zgv hf]
variable {ro:Option Nat} {n:Nat} {K:Act->World->Prop} {Q:Exit->Act->World->Prop}
theorem zlY {f:FuncId} {args:Array Value} (tZ:∀ c,o.op≠.defer c) (hr:(execOp a.eval o).run P w=.ok (.enter f args) w)
  (h:CallsIn Fence.wide (n - 1) P f args w fun e w'=>∃ v,e=.returned v/\K (a.put o.dst v) w'):o.wpIn (Fw ro) n P a w K Q:=by
 refine ⟨fun _ _=>trivial,?_⟩
 rw [Oper.semAt_eq _ _ _ tZ,hr,Oper.uponIn_enter]
 refine ⟨fun hd=>by simp [Fw,Fence.wide] at hd,?_⟩
 have:=CallsIn.mono h (R':=fun
  | .returned v,w''=>K (a.put o.dst v) w''
  | .panicked chain,w''=>Q (.panic chain) a w''
  | .outgrown,_=>LetsOut Q) fun e w' ⟨v,he,hk⟩=>by subst he;exact hk
 exact this
theorem zqM (tZ:∀ c,o.op≠.defer c) (hr:jw C S base φ H w e ((execOp a.eval o).run P w)) (h:∀ v w',Iu C S base φ H w e v w'->K (a.put o.dst v) w'):o.wpIn (Fw ro) n P a w K Q:=by
 refine ⟨fun _ _=>trivial,?_⟩
 rw [Oper.semAt_eq _ _ _ tZ];rcases hr with ⟨v,w',hr,hp⟩|⟨w',hr,hp⟩
 .rw [hr,Oper.uponIn_value];exact h v w' hp
 .rw [hr,Oper.uponIn_skip];exact h _ w' hp
theorem aY.of_below {w':World} (hH:aU C S base φ H w) (hb:Below w.heap.size w w') {k:Bool} {b:Nat} (h:(aY S base φ H w k b\/w.heap.size<=b)/\b < w'.heap.size):aY S base φ H w' k b:=by
 obtain ⟨h1|h1,h2⟩:=h
 .exact ⟨h1.1,h2,h1.2.2⟩
 .refine ⟨.inr (Nat.le_trans hH.sz h1),h2,?_⟩
  rintro ⟨id,m,aB,_⟩;have:=(hH.lt _ _ _ aB).2;omega
theorem zns (hH:aU C S base φ H w) {ids:List Nat} {k:Bool} {id b m:Nat} (pQ:id∈ids) (aB:φ id=some (b,m)) (hc:∃ own cs,H.get id=.cells own cs):aY S base φ (H.freeze ids) w k b:=by
 obtain ⟨own,cs,hg⟩:=hc
 refine ⟨.inr (hH.lt _ _ _ aB).1,(hH.lt _ _ _ aB).2,?_⟩
 rintro ⟨id',m',yG,hl⟩;have bq:∀ i,(H.freeze ids).get i=if ids.contains i then (H.get i).freeze else H.get i:=fun i=>zic ids
 have hd:(H.get id).fH=false:=by rw [hg];rfl
 have qm:(H.get id').fH=false:=by
  rw [bq] at hl
  cases hq:H.get id'<;>rw [hq] at hl
  .exfalso
   split at hl<;>simp [aP.freeze,aP.live] at hl
  .rfl
  .rfl
  .rfl
  .rfl
 have:=hH.inj _ _ _ _ _ yG aB qm hd;subst this;rw [bq,if_pos (by simpa using pQ),hg] at hl;simp [aP.freeze,aP.live] at hl
theorem Po {fr:AV->Option (PV×List Nat)} (tO:∀ av p ids,fr av=some (p,ids)->∀ id∈ids,∃ own cs,H.get id=.cells own cs):∀ {cs:List AV} {ps:List PV} {ids:List Nat},zX fr cs=some (ps,ids)->∀ id∈ids,∃ own cs,H.get id=.cells own cs
 | [],ps,ids,h=>by simp [zX] at h;obtain ⟨_,rfl⟩:=h;simp
 | c::cs,ps,ids,h=>by
  unfold zX at h
  split at h
  .simp at h
  .rename_i p is hp
   split at h
   .simp at h
   .rename_i qs js hq;simp at h;obtain ⟨_,rfl⟩:=h;intro id aB;rcases List.mem_append.1 aB with h1|h1
    .exact tO _ _ _ hp id h1
    .exact Po tO hq id h1
theorem zoe {k:Bool}:∀ (n:Nat) (av:AV) (p:PV) (ids:List Nat),freeze H k n av=some (p,ids)->∀ id∈ids,∃ own cs,H.get id=.cells own cs:=by
 intro n
 induction n with
 | zero=>intro av p ids h;simp [freeze] at h
 | succ n ih =>
  intro av p ids h;unfold freeze at h
  split at h
  .simp at h;obtain ⟨_,rfl⟩:=h;simp
  .split at h
   .rename_i hf;simp at h;obtain ⟨_,rfl⟩:=h;exact Po ih hf
   .simp at h
  .split at h
   .rename_i hf;simp at h;obtain ⟨_,rfl⟩:=h;exact Po ih hf
   .simp at h
  .split at h
   .rename_i hf;simp at h;obtain ⟨_,rfl⟩:=h;exact Po ih hf
   .simp at h
  .split at h
   .rename_i own cs hg
    split at h
    .rename_i hf;simp at h;obtain ⟨_,rfl⟩:=h;intro id aB;rcases List.mem_cons.1 aB with rfl|h1
     .exact ⟨_,_,hg⟩
     .exact Po ih hf id h1
    .simp at h
   .simp at h
  .split at h
   .rename_i own cs hg
    split at h
    .rename_i hf
     split at h
     .simp at h;obtain ⟨_,rfl⟩:=h;intro id aB;rcases List.mem_cons.1 aB with rfl|h1
      .exact ⟨_,_,hg⟩
      .exact Po ih hf id h1
     .simp at h
    .simp at h
   .simp at h
  .simp at h
def Ut (S:Bool->Nat->Prop) (base:Nat) (φ:jI) (H:Heap) (ids:List Nat) (w:World):Bool->Nat->Prop
 | true=>aY S base φ (H.freeze ids) w true
 | false=>aY S base φ H w false
theorem zrz {S:Bool->Nat->Prop} {ids:List Nat} {k:Bool} {b:Nat} (h:Ut S base φ H ids w k b):b < w.heap.size:=by
 cases k<;>exact h.2.1
theorem zjf {cl:Callee} (bW:bN C P cl) (hH:aU C S base φ H w) {c:Call} {g:Operand} {f:FuncId} {oF:List AV} {yH:Array Value} {caps:List AV} {lu:Array Value} {args:List AV} (aA:o.op=.call c) (hc:c.callee=.value g)
  (hg:a.eval g=.func (.func f) yH lu) (ql:aJ (aY S base φ H w) φ w oF yH.toList) (Bf:aJ (aY S base φ H w) φ w caps lu.toList) (xM:aJ (aY S base φ H w) φ w args (c.args.toList.map a.eval))
  (h:(if cl.shared f then
    match cl.run f (oF++(args++caps)) H with
    | some (v,H')=>some (.upd v H')
    | none=>none
   else
    match zX (freeze H true qP) (oF++(args++caps)) with
    | none=>none
    | some (ps,ids) =>
     match cl.pure f ps with
     | none=>none
     | some r=>if ids.isEmpty||r.cold then some (.val (.pure r)) else some (.upd (.pure r) (H.freeze ids)):Option Eff)=some e)
  (hK:∀ v w',Iu C S base φ H w e v w'->K (a.put o.dst v) w'):o.wpIn (Fw ro) n P a w K Q:=by
 have tZ:∀ c,o.op≠.defer c:=fun c' h=>by rw [aA] at h;cases h
 have fe:=ql.append (xM.append Bf);have E8:(yH.toList++(c.args.toList.map a.eval++lu.toList)).toArray=yH++c.args.map a.eval++lu:=by
  apply Array.ext';simp
 split at h
 ·-- with the caller's memory
  split at h
  .rename_i v H' hr;simp at h;subst h;obtain ⟨hf,bO⟩:=bW.run _ _ _ _ _ hr
   refine zlY tZ (zkd aA hc hg hf) ?_
   rw [<- E8]
   refine (bO (n - 1) S base φ w _ hH fe).mono ?_
   rintro e w' ⟨v,φ',rfl,h1,h2,h3⟩;exact ⟨v,rfl,hK v w' ⟨φ',h1,h2,h3⟩⟩
  .simp at h
 ·-- on data
  split at h
  .simp at h
  .rename_i ps ids Ud
   split at h
   .simp at h
   .rename_i r hr;obtain ⟨hf,bO⟩:=bW.pure _ _ _ hr;have ru:=hH.freeze ids;have hJ:∀ id∈ids,∀ b n,φ id=some (b,n)->Ut S base φ H ids w true b:=fun id aB b m hb =>
     zns hH aB hb (Po (zoe qP) Ud id aB)
    have E5:∀ k b,aY S base φ H w k b->Ut S base φ H ids w k b:=fun k b hb=>by
     cases k with
     | true=>exact (ru.1.EP hb).1
     | false=>exact hb
    have sD:=Pn (J:=Ut S base φ H ids w) (fun av p ids' v h1 h2 h3=>zim hH E5 qP av p ids' v h1 h2 h3) Ud fe hJ
    refine zlY tZ (zkd aA hc hg hf) ?_
    rw [<- E8]
    refine (bO (n - 1) (Ut S base φ H ids w) w _ (fun k b hb=>zrz hb) sD).mono ?_
    rintro e' w' ⟨v,rfl,hb,DI⟩
    refine ⟨v,rfl,hK v w' ?_⟩
    split at h
    .rename_i aM;simp at h;subst h
     refine ⟨hb,.pure _ _ ?_⟩
     simp only [Bool.or_eq_true] at aM;rcases aM with Dv|Uu
     .have iw:ids=[]:=by simpa using Dv
      subst iw;have hHe:H.freeze []=H:=by cases H;rfl
      refine DI.mono fun k b hb'=>⟨aY.of_below hH hb ⟨?_,hb'.2⟩,rfl⟩
      rcases hb'.1 with h1|h1
      .refine .inl ?_
       cases k with
       | true=>rw [<- hHe];exact h1
       | false=>exact h1
      .exact .inr h1
     .exact zrs (fun b hb'=>⟨aY.of_below hH hb hb',rfl⟩) Uu DI
    .simp at h;subst h;have mH:=fT.of_below (φ:=φ) (H:=H.freeze ids) hb
     refine ⟨φ,ru.1.trans mH,ru.2.below hb,.pure _ _ (DI.mono fun k b hb'=>⟨aY.of_below ru.2 hb ⟨?_,hb'.2⟩,rfl⟩)⟩
     rcases hb'.1 with h1|h1
     .refine .inl ?_
      cases k with
      | true=>exact h1
      | false=>exact (ru.1.EP h1).1
     .exact .inr h1
theorem zj6 {cl:Callee} (bW:bN C P cl) (hH:aU C S base φ H w) {c:Call} {g:Operand} {f:FuncId} {caps:List AV} {lu:Array Value} {args:List AV} (aA:o.op=.call c) (hc:c.callee=.value g)
  (hg:a.eval g=.func (.func f) #[] lu) (Bf:aJ (aY S base φ H w) φ w caps lu.toList) (xM:aJ (aY S base φ H w) φ w args (c.args.toList.map a.eval))
  (h:(if cl.shared f then
    match cl.run f (args++caps) H with
    | some (v,H')=>some (.upd v H')
    | none=>none
   else
    match zX (freeze H true qP) (args++caps) with
    | none=>none
    | some (ps,ids) =>
     match cl.pure f ps with
     | none=>none
     | some r=>if ids.isEmpty||r.cold then some (.val (.pure r)) else some (.upd (.pure r) (H.freeze ids)):Option Eff)=some e)
  (hK:∀ v w',Iu C S base φ H w e v w'->K (a.put o.dst v) w'):o.wpIn (Fw ro) n P a w K Q:=by
 have hn:aJ (aY S base φ H w) φ w [] (#[]:Array Value).toList:=⟨rfl,fun i p v h=>by simp at h⟩
 exact zjf (oF:=[]) bW hH aA hc hg hn Bf xM (by simpa only [List.nil_append] using h) hK
end
section
variable {C:jC} {P:Program} {Z:List Nat} {S:Bool->Nat->Prop} {base:Nat} {φ:jI} {H:Heap} {w:World} {env:Env} {a:Act} {e:Eff} {o:Oper} {I:Bool->Nat->Prop}
variable {ro:Option Nat} {n:Nat} {K:Act->World->Prop} {Q:Exit->Act->World->Prop}
theorem XX {x:AV} (h:xG x=true):(∃ cs,x=.agg cs)\/∃ ps,x=.pure (.agg ps):=by
 unfold xG at h
 split at h
 .exact .inl ⟨_,rfl⟩
 .exact .inr ⟨_,rfl⟩
 .simp at h
theorem zgW (hH:aU C S base φ H w):φ H.nx=none:=by
 cases h:φ H.nx with
 | none=>rfl
 | some x=>exact absurd (hH.nx _ _ h) (Nat.lt_irrefl _)
theorem XY {g:Bool} {s:Nat} (h:¬ (g=false/\s≠1)):g=false->s=1:=fun hg=>by
 rcases Decidable.em (s=1) with h1|h1
 .exact h1
 .exact absurd ⟨hg,h1⟩ h
theorem ziH {av:AV} {r:Result Next} (h:jw C S base φ H w (.val av) r):jw C S base φ H w (.val .undef) r:=by
 rcases h with ⟨v,w',h1,h2,h3⟩|⟨w',h1,h2,h3⟩
 .exact .inl ⟨v,w',h1,h2,.undef _⟩
 .exact .inr ⟨w',h1,h2,.undef _⟩
theorem zr6 {cl:Callee} {vo:mG} (hH:aU C S base φ H w) (hE:bz (aY S base φ H w) φ w env a) (hc:zN P Z o=some vo) (hs:step cl env H vo=some e) (hnc:∀ f xs,vo≠.call f xs) :
  jw C S base φ H w e ((execOp a.eval o).run P w)/\∀ c,o.op≠.defer c:=by
 unfold zN at hc
 split at hc
 ·-- move
  rename_i X aA
  cases hx:zI X with
  | none=>simp [hx] at hc
  | some x =>
   simp [hx] at hc;subst hc;simp [step] at hs;subst hs;exact ⟨zpb hE hx (.inl aA),by simp [aA]⟩
 .rename_i X aA
  cases hx:zI X with
  | none=>simp [hx] at hc
  | some x =>
   simp [hx] at hc;subst hc;simp [step] at hs;subst hs;exact ⟨zpb hE hx (.inr aA),by simp [aA]⟩
 ·-- pick
  rename_i C' A B aA
  split at hc
  .rename_i c x y h1 h2 h3;simp at hc;subst hc;simp only [step] at hs
   split at hs
   .rename_i t ht;simp at hs;subst hs;exact ⟨zsl hE h1 h2 h3 aA ht,by simp [aA]⟩
   .simp at hs
  .simp at hc
 ·-- alloc
  rename_i t aA
  cases hz:A9 P t with
  | none=>simp [hz] at hc
  | some z =>
   simp [hz] at hc;subst hc;simp [step] at hs;subst hs;exact ⟨zpN hz aA,by simp [aA]⟩
 ·-- box
  rename_i t X aA
  cases hx:zI X with
  | none=>simp only [hx,Option.map_none] at hc;(repeat' split at hc)<;>simp at hc
  | some x =>
   have yu:vo=.box x->jw C S base φ H w e ((execOp a.eval o).run P w)/\∀ c,o.op≠.defer c:=by
    intro h;subst h;simp [step] at hs;subst hs;exact ⟨zs6 hE hx aA,by simp [aA]⟩
   simp only [hx,Option.map_some] at hc
   split at hc
   .split at hc
    .simp at hc;exact yu hc.symm
    .simp at hc;subst hc;simp only [step] at hs
     split at hs
     .rename_i ps hp;simp at hs;subst hs;exact ⟨zrw hH hE hx aA hp,by simp [aA]⟩
     .simp at hs
   .simp at hc;exact yu hc.symm
 ·-- build
  rename_i t parts aA
  split at hc
  .rename_i z ps h1 h2
   split at hc
   .rename_i bQ;simp at hc;subst hc;simp only [step] at hs
    split at hs
    .rename_i cs hf;simp at hs;subst hs;exact ⟨zpw hE h1 h2 bQ aA hf,by simp [aA]⟩
    .simp at hs
   .simp at hc
  .simp at hc
 ·-- buildSlice
  rename_i t len parts aA
  split at hc
  .rename_i e' ht
   split at hc
   .rename_i s z h1 h2
    split at hc
    .rename_i aM
     cases hp:FV (fun i=>some (i*s,s)) parts.toList with
     | none=>simp [hp] at hc
     | some ps =>
      simp [hp] at hc;subst hc;simp only [step] at hs
      split at hs
      .rename_i cs hf;simp only [Option.some.injEq] at hs;subst hs;exact ⟨zil hE ht h1 h2 aM.1 aM.2.1 aM.2.2 hp aA hf,by simp [aA]⟩
      .simp at hs
    .simp at hc
   .simp at hc
  .simp at hc
 ·-- load
  rename_i t X aA
  split at hc
  .rename_i g s x h1 h2 h3
   split at hc
   .simp at hc
   .rename_i hg;simp at hc;subst hc;simp only [step] at hs
    split at hs
    .rename_i cs hl
     cases ho:r9 g cs with
     | none=>simp [ho] at hs
     | some av =>
      simp [ho] at hs;subst hs;exact ⟨zq4 hH hE h3 h1 h2 (XY hg) aA hl ho,by simp [aA]⟩
    .simp at hs
  .simp at hc
 ·-- store
  rename_i t A X aA
  split at hc
  .rename_i s x y h1 h2 h3
   split at hc
   .simp at hc
   .rename_i h0;simp at hc;subst hc;simp only [step] at hs
    split at hs
    .rename_i id off hb
     split at hs
     .rename_i ds hg
      split at hs
      .rename_i aM;simp only [Option.some.injEq] at hs;subst hs;exact ⟨zpt hH hE h2 h3 h1 h0 aA hb hg aM.1 aM.2.2.1 aM.2.2.2,by simp [aA]⟩
      .simp at hs
     .simp at hs
    .simp at hs
  .simp at hc
 ·-- nilCheck
  rename_i X aA
  cases hx:zI X with
  | none=>simp [hx] at hc
  | some x =>
   simp [hx] at hc;subst hc;simp only [step] at hs
   split at hs
   .rename_i h1;simp at hs;subst hs;exact ⟨zgL hE hx aA (.inl h1),by simp [aA]⟩
   .rename_i h1 _;simp at hs;subst hs;exact ⟨zgL hE hx aA (.inr h1),by simp [aA]⟩
   .simp at hs
 ·-- binOp
  rename_i op t X Y t' aA
  split at hc
  .rename_i x y d h1 h2 h3;have plain:∀ k,kOf P t k->vo=.bin op k x y->jw C S base φ H w e ((execOp a.eval o).run P w)/\∀ c,o.op≠.defer c:=by
    intro k hk hvo;subst hvo;simp only [step] at hs
    cases hv:iE op k (x.eval env) (y.eval env) with
    | none=>simp [hv] at hs
    | some av =>
     simp [hv] at hs;subst hs;exact ⟨zsx hE h1 h2 hk aA hv,by simp [aA]⟩
   split at hc
   .rename_i fs
    split at hc
    .rename_i ls xK
     split at hc
     .rename_i s fF;have main:∀ neg,vo=.lW neg s ls x y->((op=.eql/\neg=false)\/(op=.neq/\neg=true))->jw C S base φ H w e ((execOp a.eval o).run P w)/\∀ c,o.op≠.defer c:=by
       intro neg hvo K5;subst hvo;simp only [step] at hs
       split at hs
       .rename_i aM
        split at hs
        .rename_i b hb;simp at hs;subst hs;have:=zqw (C:=C) (P:=P) hE h1 h2 h3 xK fF aA (K5.imp And.left And.left) (XX aM.1) (XX aM.2.1) aM.2.2.1 aM.2.2.2 hb;have hn:(op == .neq)=neg:=by rcases K5 with ⟨rfl,rfl⟩|⟨rfl,rfl⟩<;>rfl
         rw [hn] at this;exact ⟨this,by simp [aA]⟩
        .simp at hs
       .simp at hs
      split at hc
      .rename_i heq;simp at hc;exact main false hc.symm (.inl ⟨heq,rfl⟩)
      .split at hc
       .rename_i heq;simp at hc;exact main true hc.symm (.inr ⟨heq,rfl⟩)
       .simp at hc
     .simp at hc
    .simp at hc
   .rename_i k;simp at hc;exact plain .num (.inl ⟨k,h3⟩) hc.symm
   .simp at hc;exact plain .num (.inr h3) hc.symm
   .simp at hc;exact plain .bool h3 hc.symm
   .rename_i el;simp at hc;exact plain .slice ⟨el,h3⟩ hc.symm
   .rename_i el;simp at hc;exact plain .pointer ⟨el,h3⟩ hc.symm
   .rename_i f1 f2 f3;simp at hc;exact plain .func ⟨f1,f2,f3,h3⟩ hc.symm
   .simp at hc
  .simp at hc
 ·-- unOp
  rename_i op t X aA
  cases hx:zI X with
  | none=>simp [hx] at hc
  | some x =>
   simp [hx] at hc;subst hc;simp only [step] at hs
   cases hv:O0 op (x.eval env) with
   | none=>simp [hv] at hs
   | some av =>
    simp [hv] at hs;subst hs;exact ⟨zun hE hx aA hv,by simp [aA]⟩
 ·-- convert
  rename_i src dst X aA
  split at hc
  .rename_i k0 k x h1 h2 h3;simp at hc;subst hc;simp only [step] at hs
   split at hs
   .rename_i k2 m e2;simp at hs;subst hs;exact ⟨zpp hE h3 h1 h2 aA e2,by simp [aA]⟩
   .simp at hs
  .rename_i x h1 h2 h3;simp at hc;subst hc;simp only [step] at hs
   split at hs
   .rename_i b e2;simp at hs;subst hs;exact ⟨zkO hE h3 h1 h2 aA e2,by simp [aA]⟩
   .simp at hs
  .rename_i el x h1 h2 h3
   split at hc
   .rename_i h4 h5;simp at hc;subst hc;simp only [step] at hs
    split at hs
    .rename_i b e2;simp only [Option.some.injEq] at hs;subst hs;exact ⟨zml hE h3 h1 h2 h4 h5 aA e2,by simp [aA]⟩
    .simp at hs
   .simp at hc
  .rename_i el x h1 h2 h3
   split at hc
   .rename_i h4;simp at hc;subst hc;simp only [step] at hs
    split at hs
    .rename_i cs m e2
     split at hs
     .rename_i bs e3;simp only [Option.some.injEq] at hs;subst hs;exact ⟨zqv hH hE h3 h1 h2 h4 aA e2 e3,by simp [aA]⟩
     .simp at hs
    .simp at hs
   .simp at hc
  .simp at hc
 ·-- makeFunc
  rename_i f first caps aA
  split at hc
  .rename_i h0
   cases hx:A8 caps.toList with
   | none=>simp [hx] at hc
   | some xs =>
    simp [hx] at hc;subst hc;simp [step] at hs;subst hs;exact ⟨zkK hE h0 hx aA,by simp [aA]⟩
  .split at hc
   .rename_i h0
    cases hx:A8 first.toList with
    | none=>simp [hx] at hc
    | some xs =>
     simp [hx] at hc;subst hc;simp only [step] at hs
     split at hs
     .rename_i ps hp;simp only [Option.some.injEq] at hs;subst hs;exact ⟨zld hE h0 hx aA hp,by simp [aA]⟩
     .simp at hs
   .simp at hc
 ·-- makeSlice
  rename_i t X Y aA
  split at hc
  .rename_i el ht
   split at hc
   .rename_i s b z x y h1 h2 h3 h4 h5
    split at hc
    .rename_i aM;simp at hc;subst hc;simp only [step] at hs
     split at hs
     .rename_i k1 p k2 q e1 e2
      split at hs
      .rename_i wF;simp only [Option.some.injEq] at hs;subst hs;obtain ⟨c1,rfl,c3,c4,c5⟩:=wF;exact ⟨zjC hE h4 h5 ht h1 h2 h3 aM.1 aM.2 aA e1 e2 c1 c4 c5,by simp [aA]⟩
      .simp at hs
     .simp at hs
    .simp at hc
   .simp at hc
  .simp at hc
 ·-- slice
  rename_i t X lo hi aA
  split at hc
  .rename_i el x lo' bV ht h1 h2 h3
   cases oH:iT P el with
   | none=>simp [oH] at hc
   | some sz =>
    simp [oH] at hc;subst hc;simp only [step] at hs
    split at hs
    .rename_i e1
     split at hs
     .rename_i h b1
      split at hs
      .rename_i l b2;simp at hs;subst hs;exact ⟨zjD hE h1 ht oH h2 h3 aA e1 b1 b2,by simp [aA]⟩
      .simp at hs
     .simp at hs
    .rename_i kk s es e1
     split at hs
     .rename_i rP;subst rP
      split at hs
      .rename_i h b1
       split at hs
       .rename_i l b2;simp at hs;subst hs;exact ⟨ziK hE h1 ht oH h2 h3 aA e1 b1 b2,by simp [aA]⟩
       .simp at hs
      .simp at hs
     .simp at hs
    .rename_i id s off len e1
     split at hs
     .rename_i rP;subst rP
      split at hs
      .rename_i N hN
       split at hs
       .rename_i h b1
        split at hs
        .rename_i l b2;simp only [Option.some.injEq] at hs;subst hs;exact ⟨zjA hH hE h1 ht oH h2 h3 aA e1 hN b1 b2,by simp [aA]⟩
        .simp at hs
       .simp at hs
      .simp at hs
     .simp at hs
    .simp at hs
  .rename_i x lo' bV ht h1 h2 h3;simp at hc;subst hc;simp only [step] at hs
   split at hs
   .rename_i s e1
    split at hs
    .rename_i h b1
     split at hs
     .rename_i l b2;simp at hs;subst hs;exact ⟨znd hE h1 ht h2 h3 aA e1 b1 b2,by simp [aA]⟩
     .simp at hs
    .simp at hs
   .simp at hs
  .simp at hc
 ·-- slice3
  rename_i t X lo Y Z aA
  split at hc
  .rename_i el x lo' y z ht h1 h2 h3 h4
   cases oH:iT P el with
   | none=>simp [oH] at hc
   | some sz =>
    simp [oH] at hc;subst hc;simp only [step] at hs
    split at hs
    .rename_i len e1
     split at hs
     .rename_i m b0
      split at hs
      .rename_i h b1
       split at hs
       .rename_i l b2;simp only [Option.some.injEq] at hs;subst hs;exact ⟨znR hE h1 h3 h4 ht oH h2 aA e1 b0 b1 b2,by simp [aA]⟩
       .simp at hs
      .simp at hs
     .simp at hs
    .simp at hs
  .simp at hc
 ·-- fieldAddr
  rename_i t X i aA
  split at hc
  .rename_i fs x ht h1
   split at hc
   .rename_i f hf
    split at hc
    .rename_i s fF
     split at hc
     .simp at hc
     .rename_i h0;simp at hc;subst hc;simp only [step] at hs
      split at hs
      .rename_i kk cs q e1;simp at hs;subst hs;exact ⟨zfN hE h1 ht hf fF h0 aA (.inl ⟨kk,cs,q,e1,rfl⟩),by simp [aA]⟩
      .rename_i id q e1;simp at hs;subst hs;exact ⟨zfN hE h1 ht hf fF h0 aA (.inr ⟨id,q,e1,rfl⟩),by simp [aA]⟩
      .simp at hs
    .simp at hc
   .simp at hc
  .simp at hc
 ·-- field
  rename_i t X i aA
  split at hc
  .rename_i fs x ht h1
   split at hc
   .rename_i f hf
    split at hc
    .rename_i s g fF hg
     split at hc
     .simp at hc
     .rename_i h0;simp at hc;subst hc;simp only [step] at hs
      split at hs
      .rename_i aM
       cases ho:r9 g (((x.eval env).cells.drop f.offset).take s) with
       | none=>simp [ho] at hs
       | some av =>
        simp [ho] at hs;subst hs;exact ⟨zph hE h1 ht hf fF hg (XY h0) aA (XX aM.1) aM.2 ho,by simp [aA]⟩
      .simp at hs
    .simp at hc
   .simp at hc
  .simp at hc
 ·-- indexAddr
  rename_i t X Y aA
  split at hc
  .rename_i len el x y ht h1 h2
   cases fF:iT P el with
   | none=>simp [fF] at hc
   | some s =>
    simp [fF] at hc;subst hc;simp only [step] at hs
    split at hs
    .rename_i k m e1
     split at hs
     .rename_i h0
      split at hs
      .rename_i aK
       split at hs
       .rename_i kk cs q e2;simp at hs;subst hs;exact ⟨zd3 hE h1 h2 ht fF aA e1 h0 aK (.inl ⟨kk,cs,q,e2,rfl⟩),by simp [aA]⟩
       .rename_i id q e2;simp at hs;subst hs;exact ⟨zd3 hE h1 h2 ht fF aA e1 h0 aK (.inr ⟨id,q,e2,rfl⟩),by simp [aA]⟩
       .simp at hs
      .simp at hs
     .simp at hs
    .simp at hs
  .rename_i el x y ht h1 h2
   cases fF:iT P el with
   | none=>simp [fF] at hc
   | some s =>
    simp [fF] at hc;subst hc;simp only [step] at hs
    split at hs
    .rename_i k m e1
     split at hs
     .rename_i h0
      split at hs
      .rename_i kk s' es e2
       split at hs
       .rename_i rP;subst rP
        split at hs
        .rename_i Pg e3;simp at hs;subst hs;exact ⟨zek hE h1 h2 ht fF aA e1 h0 (.inl ⟨kk,es,Pg,e2,e3,rfl⟩),by simp [aA]⟩
        .simp at hs
       .simp at hs
      .rename_i id s' off len e2
       split at hs
       .rename_i aM;obtain ⟨rP,aK⟩:=aM;subst rP;simp at hs;subst hs;exact ⟨zek hE h1 h2 ht fF aA e1 h0 (.inr ⟨id,off,len,e2,aK,rfl⟩),by simp [aA]⟩
       .simp at hs
      .simp at hs
     .simp at hs
    .simp at hs
  .simp at hc
 ·-- index
  rename_i t X Y aA
  split at hc
  .rename_i len el x y ht h1 h2
   split at hc
   .rename_i s g fF hg
    split at hc
    .simp at hc
    .rename_i h0;simp at hc;subst hc;simp only [step] at hs
     split at hs
     .rename_i k m e1
      split at hs
      .rename_i aM
       cases ho:r9 g (((x.eval env).cells.drop (m.toNat*s)).take s) with
       | none=>simp [ho] at hs
       | some av =>
        simp [ho] at hs;subst hs;exact ⟨zpo hE h1 h2 ht fF hg (XY h0) aA (XX aM.1) e1 aM.2.1 aM.2.2.1 aM.2.2.2 ho,by simp [aA]⟩
      .simp at hs
     .simp at hs
   .simp at hc
  .rename_i x y ht h1 h2;simp at hc;subst hc;simp only [step] at hs
   split at hs
   .rename_i s k m e1 e2
    split at hs
    .rename_i h0
     split at hs
     .rename_i b hb;simp at hs;subst hs;exact ⟨znq hE h1 h2 ht aA e1 e2 h0 hb,by simp [aA]⟩
     .simp at hs
    .simp at hs
   .simp at hs
  .simp at hc
 ·-- extract
  rename_i X i aA
  cases hx:zI X with
  | none=>simp only [hx,Option.map_none] at hc;(repeat' split at hc)<;>simp at hc
  | some x =>
   have IJ:vo=.extract i x->jw C S base φ H w e ((execOp a.eval o).run P w)/\∀ c,o.op≠.defer c:=by
    intro h;subst h;simp only [step] at hs
    split at hs
    .rename_i vs e1
     split at hs
     .rename_i v e2;simp at hs;subst hs;exact ⟨XN hE hx aA (.inl ⟨vs,e1,v,e2,rfl⟩),by simp [aA]⟩
     .simp at hs
    .rename_i vs e1
     split at hs
     .rename_i v e2;simp at hs;subst hs;exact ⟨XN hE hx aA (.inr ⟨vs,e1,e2⟩),by simp [aA]⟩
     .simp at hs
    .simp at hs
   simp only [hx,Option.map_some] at hc
   split at hc
   .split at hc
    .simp at hc;subst hc;simp only [step] at hs
     split at hs
     .rename_i vs e1
      split at hs
      .rename_i v e2;simp only [Option.some.injEq] at hs;subst hs;exact ⟨ziH (XN hE hx aA (.inl ⟨vs,e1,v,e2,rfl⟩)),by simp [aA]⟩
      .simp at hs
     .rename_i vs e1
      split at hs
      .rename_i v e2;simp only [Option.some.injEq] at hs;subst hs;exact ⟨ziH (XN hE hx aA (.inr ⟨vs,e1,e2⟩)),by simp [aA]⟩
      .simp at hs
     .simp at hs
    .simp at hc;exact IJ hc.symm
   .simp at hc;exact IJ hc.symm
 ·-- call
  rename_i c aA
  split at hc
  .split at hc
   .simp at hc;exact absurd hc.symm (hnc _ _)
   .simp at hc
  ·-- len
   rename_i iY
   split at hc
   .rename_i X t ha hb
    split at hc
    .rename_i x len el h1 h2;simp at hc;subst hc;simp [step] at hs;subst hs;exact ⟨zmx hE h1 h2 aA iY ha hb,by simp [aA]⟩
    .rename_i x h1 h2;simp at hc;subst hc;simp only [step] at hs
     split at hs
     .rename_i s e1;simp only [Option.some.injEq] at hs;subst hs;exact ⟨XO hE h1 (.inl h2) aA iY ha hb (.inl ⟨h2,s,e1,rfl⟩),by simp [aA]⟩
     .simp at hs
    .rename_i x el h1 h2;simp at hc;subst hc;simp only [step] at hs
     split at hs
     .rename_i e1;simp only [Option.some.injEq] at hs;subst hs;exact ⟨XO hE h1 (.inr ⟨_,h2⟩) aA iY ha hb (.inr ⟨⟨_,h2⟩,.inl ⟨e1,rfl⟩⟩),by simp [aA]⟩
     .rename_i kk s es e1;simp only [Option.some.injEq] at hs;subst hs;exact ⟨XO hE h1 (.inr ⟨_,h2⟩) aA iY ha hb (.inr ⟨⟨_,h2⟩,.inr (.inl ⟨kk,s,es,e1,rfl⟩)⟩),by simp [aA]⟩
     .rename_i id s off m e1;simp only [Option.some.injEq] at hs;subst hs;exact ⟨XO hE h1 (.inr ⟨_,h2⟩) aA iY ha hb (.inr ⟨⟨_,h2⟩,.inr (.inr ⟨id,s,off,e1⟩)⟩),by simp [aA]⟩
     .simp at hs
    .rename_i x kt et h1 h2;simp at hc;subst hc;simp only [step] at hs
     split at hs
     .rename_i id e1
      split at hs
      .rename_i es hg;simp only [Option.some.injEq] at hs;subst hs;exact ⟨znm hH hE h1 h2 aA iY ha hb e1 hg,by simp [aA]⟩
      .simp at hs
     .simp at hs
    .simp at hc
   .simp at hc
  ·-- cap
   rename_i iY
   split at hc
   .rename_i X t ha hb
    split at hc
    .rename_i x el h1 h2;simp at hc;subst hc;simp only [step] at hs
     split at hs
     .rename_i e1;simp only [Option.some.injEq] at hs;subst hs;exact ⟨ztl hE h1 h2 aA iY ha hb e1,by simp [aA]⟩
     .simp at hs
    .simp at hc
   .simp at hc
  ·-- append
   rename_i iY
   split at hc
   .rename_i X Y t u ha hb
    split at hc
    .rename_i x y el Pg h1 h2 h3 h4
     split at hc
     .rename_i s b s' z h5 h6 h7 h8
      split at hc
      .rename_i aM;simp at hc;subst hc;obtain ⟨c1,rfl,c3,c4⟩:=aM;simp only [step] at hs;exact ⟨zok hH hE h1 h2 ⟨⟨el,Pg,h3,h4,h5,h6,z,h8,c3⟩,c1,c4⟩ aA iY ha hb (zgW hH) hs,by simp [aA]⟩
      .simp at hc
     .simp at hc
    .rename_i x y el k0 h1 h2 h3 h4
     split at hc
     .rename_i s b z h5 h6 h7
      split at hc
      .rename_i aM;simp at hc;subst hc;simp only [step] at hs
       split at hs
       .rename_i k n e1 e2
        split at hs
        .rename_i hb'
         refine ⟨zmu hE h1 h2 h3 h4 h5 h6 h7 aM.1 aM.2.1 aM.2.2 aA iY ha hb e1 e2 hb'.1 hb'.2.2.1 hb'.2.2.2 ?_,by simp [aA]⟩
         split at hs
         .rename_i h0;simp at hs;exact .inl ⟨h0,hs.symm⟩
         .rename_i h0;simp only [Option.some.injEq] at hs;exact .inr ⟨h0,hs.symm⟩
        .simp at hs
       .simp at hs
      .simp at hc
     .simp at hc
    .simp at hc
   .simp at hc
  ·-- max
   rename_i iY
   cases hx:A8 c.args.toList with
   | none=>simp [hx] at hc
   | some xs =>
    simp [hx] at hc;subst hc;simp only [step] at hs
    split at hs
    .rename_i k p rest e1
     cases hm:Ig true k p rest with
     | none=>simp [hm] at hs
     | some m =>
      simp [hm] at hs;subst hs;exact ⟨ziL (mx:=true) hE hx aA iY e1 hm,by simp [aA]⟩
    .simp at hs
  .rename_i iY
   cases hx:A8 c.args.toList with
   | none=>simp [hx] at hc
   | some xs =>
    simp [hx] at hc;subst hc;simp only [step] at hs
    split at hs
    .rename_i k p rest e1
     cases hm:Ig false k p rest with
     | none=>simp [hm] at hs
     | some m =>
      simp [hm] at hs;subst hs;exact ⟨ziL (mx:=false) hE hx aA iY e1 hm,by simp [aA]⟩
    .simp at hs
  ·-- clear
   rename_i iY
   split at hc
   .rename_i X t ha hb
    split at hc
    .rename_i x el h1 h2
     split at hc
     .rename_i s z h3 h4
      split at hc
      .rename_i aM;simp at hc;subst hc;simp only [step] at hs
       refine ⟨zps hH hE h1 h2 h3 h4 aM.1 aM.2 aA iY ha hb ?_,by simp [aA]⟩
       split at hs
       .rename_i e1;simp only [Option.some.injEq] at hs;exact .inl ⟨e1,hs.symm⟩
       .rename_i id sz off len e1
        split at hs
        .rename_i hz
         split at hs
         .rename_i ds hg
          split at hs
          .rename_i hle;simp only [Option.some.injEq] at hs;have hszs:sz=s:=by rw [<- hz];exact aM.2
           subst hszs;exact .inr ⟨id,off,len,ds,e1,hg,hle,hs.symm⟩
          .simp at hs
         .simp at hs
        .simp at hs
       .simp at hs
      .simp at hc
     .simp at hc
    .simp at hc
   .simp at hc
  .simp at hc
 ·-- makeMap
  rename_i t aA;simp at hc;subst hc;simp [step] at hs;subst hs;exact ⟨zmZ aA,by simp [aA]⟩
 ·-- lookup
  rename_i t M K ok aA
  split at hc
  .rename_i str z m k h1 h2 h3 h4;simp at hc;subst hc;simp only [step] at hs
   split at hs
   .rename_i id key e1 e2
    split at hs
    .rename_i es hg
     split at hs
     .rename_i v hf;simp only [Option.some.injEq] at hs;subst hs;exact ⟨zi0 hH hE h1 h2 h3 h4 aA e1 e2 hg hf,by simp [aA]⟩
     .rename_i hf;simp only [Option.some.injEq] at hs;subst hs;exact ⟨zi0 hH hE h1 h2 h3 h4 aA e1 e2 hg hf,by simp [aA]⟩
     .simp at hs
    .simp at hs
   .simp at hs
  .simp at hc
 ·-- mapUpdate
  rename_i t M K X aA
  split at hc
  .rename_i str m k x h1 h2 h3 h4;simp at hc;subst hc;simp only [step] at hs
   split at hs
   .rename_i id key v e1 e2 e3
    split at hs
    .rename_i es hg
     split at hs
     .rename_i es' hf;simp only [Option.some.injEq] at hs;subst hs;exact ⟨ziO hH hE h1 h2 h3 h4 (.inl aA) e1 e2 e3 hg hf,by simp [aA]⟩
     .simp at hs
    .simp at hs
   .simp at hs
  .simp at hc
 ·-- insert
  rename_i t M K X aA
  split at hc
  .rename_i str m k x h1 h2 h3 h4;simp at hc;subst hc;simp only [step] at hs
   split at hs
   .rename_i id key v e1 e2 e3
    split at hs
    .rename_i es hg
     split at hs
     .rename_i es' hf;simp only [Option.some.injEq] at hs;subst hs;exact ⟨ziO hH hE h1 h2 h3 h4 (.inr aA) e1 e2 e3 hg hf,by simp [aA]⟩
     .simp at hs
    .simp at hs
   .simp at hs
  .simp at hc
 .simp at hc
theorem zkM {f:ag} {xs:List ag} (hc:zN P Z o=some (.call f xs)):∃ c g,o.op=.call c/\c.callee=.value g/\zI g=some f/\A8 c.args.toList=some xs:=by
 unfold zN at hc
 split at hc
 case h_23 =>
  rename_i c aA
  split at hc
  .rename_i g iY
   split at hc
   .rename_i f' xs' h1 h2;simp at hc;obtain ⟨rfl,rfl⟩:=hc;exact ⟨c,g,aA,iY,h1,h2⟩
   .simp at hc
  all_goals
   exfalso
   revert hc
   (repeat' split)<;>simp
 all_goals
  exfalso
  revert hc
  (repeat' split)<;>simp
theorem yJ {cl:Callee} {vo:mG} (bW:bN C P cl) (hH:aU C S base φ H w) (hE:bz (aY S base φ H w) φ w env a) (jy:vo=(zN P Z o).getD .stuck) (hs:step cl env H vo=some e)
  (hK:∀ v w',Iu C S base φ H w e v w'->K (a.put o.dst v) w'):o.wpIn (Fw ro) n P a w K Q:=by
 have hc:zN P Z o=some vo:=by
  cases h:zN P Z o with
  | none =>
   rw [h] at jy;subst jy;simp [step] at hs
  | some v =>
   rw [h] at jy;rw [jy];rfl
 by_cases xN:∃ f xs,vo=.call f xs
 .obtain ⟨f,xs,rfl⟩:=xN;obtain ⟨c,g,aA,iY,h1,h2⟩:=zkM hc;have hf:=zJ hE h1;have Bd:=Uc hE h2;simp only [step,zG] at hs
  split at hs
  .rename_i g' caps e1;rw [e1] at hf;obtain ⟨vs,hg,hl,hr⟩:=hf.aI.lq;exact zj6 bW hH aA iY hg (aJ.p8 (by simpa using hl) fun i p v hp hv=>hr i p v hp (by simpa using hv)) Bd hs hK
  .rename_i g' caps e1;rw [e1] at hf;obtain ⟨vs,hg,hl,hr⟩:=hf.lq;exact zj6 bW hH aA iY hg (aJ.si hl hr) Bd hs hK
  .rename_i g' first e1
   rw [e1] at hf;obtain ⟨vs,hg,hl,hr⟩:=hf.aI.Ik;exact zjf bW hH aA iY hg (aJ.p8 (by simpa using hl) fun i p v hp hv=>hr i p v hp (by simpa using hv)) (caps:=[]) ⟨rfl,fun i p v h=>by simp at h⟩ Bd hs hK
  .rename_i id e1;rw [e1] at hf;obtain ⟨b,m,aB,hg⟩:=hf.FT
   split at hs
   .rename_i v H' hy;simp at hs;subst hs;obtain ⟨l,hl,hlen,DJ⟩:=bW.yield _ _ _ _ _ hy (n - 1) S base φ w b m _ aB hH Bd;have tZ:∀ c,o.op≠.defer c:=by simp [aA]
    refine ⟨fun _ _=>trivial,?_⟩
    have bO:(execOp a.eval o).run P w=.ok (.round b l.fn ((l.params.zip (c.args.toList.map a.eval).toArray).foldl (fun tmps (x:Tmp×Value)=>tmps.setIfInBounds x.1 x.2) l.tmps) l.assign l.body) w:=by
     have hobj:(getObj b).run P w=.ok (.loop l) w:=by
      simp only [getObj,Sem.run,hl]
     have xM:(c.args.toList.map a.eval).toArray=c.args.map a.eval:=by apply Array.ext';simp
     simp only [execOp,aA,resolve,iY,hg,Deferred.ofValue,Sem.run_bind,Sem.run_pure,Result.andThen_ok,invoke,Instr.yield,Instr.getLoop,hobj];rw [if_neg (by simp at hlen ⊢;omega)];rw [xM];simp
    rw [Oper.semAt_eq _ _ _ tZ,bO,Oper.uponIn_round]
    refine ⟨fun hd=>by simp [Fw,Fence.wide] at hd,?_⟩
    have:=RoundIn.mono DJ (R':=fun
     | .returned v,w''=>K (a.put o.dst v) w''
     | .panicked chain,w''=>Q (.panic chain) a w''
     | .outgrown,_=>LetsOut Q) fun e w' ⟨v,φ',he,h1,h2,h3⟩=>by subst he;exact hK v w' ⟨φ',h1,h2,h3⟩
    exact this
   .simp at hs
  .simp at hs
 .have hnc:∀ f xs,vo≠.call f xs:=fun f xs h=>xN ⟨f,xs,h⟩;obtain ⟨h1,h2⟩:=zr6 hH hE hc hs hnc;exact zqM h2 h1 hK
theorem zf5 {s:Nat} (hc:zN P Z o=some (.buildSlice s [] [])):∃ t e parts,o.op=.buildSlice t 0 parts/\parts.toList=[]/\P.underlying t=some (.slice e)/\iT P e=some s/\0 < s:=by
 unfold zN at hc
 split at hc
 case h_7 =>
  rename_i t len parts aA
  split at hc
  .rename_i e ht
   split at hc
   .rename_i s' z h1 h2
    split at hc
    .rename_i aM
     cases hp:FV (fun i=>some (i*s',s')) parts.toList with
     | none=>simp [hp] at hc
     | some ps =>
      simp [hp] at hc;obtain ⟨rfl,hz,rfl⟩:=hc;have sD:parts.toList=[]:=by
       cases hl:parts.toList with
       | nil=>rfl
       | cons q qs =>
        obtain ⟨i,x⟩:=q;rw [hl] at hp;simp only [FV] at hp
        revert hp
        (repeat' split)<;>simp
      have hlen:len=0:=by
       rcases Nat.eq_zero_or_pos len with h|h
       .exact h
       .have h9:=aM.2.2;rw [hz (by omega)] at h9;simp at h9;omega
      subst hlen;exact ⟨t,e,parts,aA,sD,ht,h1,aM.1⟩
    .simp at hc
   .simp at hc
  .simp at hc
 all_goals
  exfalso
  revert hc
  (repeat' split)<;>simp
theorem zi2 {s b:Nat} {x y:ag} (hc:zN P Z o=some (.append s b x y)):∃ c X Y t u,o.op=.call c/\c.callee=.builtin .append/\c.args.toList=[X,Y]/\c.argTypes.toList=[t,u]/\zI X=some x/\zI Y=some y/\IB P t u s b:=by
 unfold zN at hc
 split at hc
 case h_23 =>
  rename_i c aA
  split at hc
  case h_4 =>
   rename_i iY
   split at hc
   .rename_i X Y t u ha hb
    split at hc
    .rename_i x' y' el Pg h1 h2 h3 h4
     split at hc
     .rename_i s1 b1 s' z h5 h6 h7 h8
      split at hc
      .rename_i aM;simp at hc;obtain ⟨rfl,rfl,rfl,rfl⟩:=hc;obtain ⟨c1,rfl,c3,c4⟩:=aM;exact ⟨c,X,Y,t,u,aA,iY,ha,hb,h1,h2,⟨el,Pg,h3,h4,h5,h6,z,h8,c3⟩,c1,c4⟩
      .simp at hc
     .simp at hc
    .revert hc
     (repeat' split)<;>simp
    .simp at hc
   .simp at hc
  all_goals
   exfalso
   revert hc
   (repeat' split)<;>simp
 all_goals
  exfalso
  revert hc
  (repeat' split)<;>simp
theorem zjt {t e:TypeId} {parts:Array (Nat×Operand)} {s:Nat} (aA:o.op=.buildSlice t 0 parts) (sD:parts.toList=[]) (ht:P.underlying t=some (.slice e)) (hs:iT P e=some s) (h0:0 < s) :
  jw C S base φ H w (.new (.cells true []) fun id=>.void id s) ((execOp a.eval o).run P w):=by
 have hp:parts=#[]:=by rw [<- Array.toList_inj,sD]
 subst hp
 refine Ue (c:=#[]) (t:=e) (v:=.slice (some ⟨w.heap.size,0,none⟩) 0 0) ?_ (by simp) (fun j a v ha hv=>by simp at ha) fun I' φ' w' id aB=>.void id s _ aB
 simp only [execOp,aA,Instr.buildSlice,Sem.run_bind,zk ht,Result.andThen_ok,vv hs];rw [if_neg (by omega)];have Iy:Array.range 0=#[]:=rfl;simp only [Nat.zero_mul,if_true,Sem.run_pure,Result.andThen_ok,Sem.run_bind,Iy,Array.map_empty,List.map_toArray,List.map_nil];have hf:∀ f:Nat->Option (Nat×Nat),Instr.fill f #[] []=some #[]:=fun f=>rfl;simp [newRow,hf]
theorem zl9 {cl:Callee} (hH:aU C S base φ H w) (hE:bz (aY S base φ H w) φ w env a) {X Y:Operand} {x y:ag} {t u:TypeId} {s b:Nat} {c:Call} (hx:zI X=some x) (hy:zI Y=some y) (hT:IB P t u s b)
  (aA:o.op=.call c) (hc:c.callee=.builtin .append) (h1:c.args.toList=[X,Y]) (h2:c.argTypes.toList=[t,u]) (h:step cl env H (.jW s b x y)=some e) :
  jw C S base φ H w e ((execOp a.eval o).run P w):=by
 have yz:=zJ hE hx;have yw:=zJ hE hy;have mg:=hT.pos;simp only [step] at h
 split at h
 .simp at h
 .rename_i new m Dx;obtain ⟨ad,cap',news,f1,f2,f3,f4,f5⟩:=zdE hH mg yw Dx;have Dw:news.length=m*s:=by have:=f2.1;omega
  split at h
  .simp at h
  .rename_i bn;have ND:∀ w':World,(∀ a,ad=some a->∀ (j:Nat) v,news[j]?=some v->w'.cell? (a.add j)=some v)->(Builtin.firstCells s m (.slice ad m cap')).run P w'=.ok news.toArray w':=fun w' vB=>XQ Dw f4 vB
   split at h
   .rename_i id s' heq;rw [heq] at yz;obtain ⟨bb,aB,hX⟩:=yz.Ij
    split at h
    .rename_i rP;subst rP
     split at h
     .rename_i hm;subst hm;simp only [Option.some.injEq] at h;subst h;have NF:news=[]:=List.eq_nil_of_length_eq_zero (by simpa using Dw);subst NF
      refine zY (v:=.slice (some ⟨bb,0,none⟩) (0+0) 0) (KY aA hc h1 h2 (ze8 hT hX f1 (Nat.le_refl 0) (by rw [f1];exact ND w f5) rfl)) (.row id s' 0 0 bb 0 0 0 aB (by simp) (Nat.le_refl 0) (by simp))
     .rename_i hm
      split at h
      .rename_i KW;simp only [Option.some.injEq] at h;subst h;have hb':(0+m)*b<=140737488355328:=by rw [Nat.zero_add];have:=KW.2;simp only [zu] at this;omega
       obtain ⟨c',e,cp,g1,g2,g3,rest,g4⟩:=zfq (ty:=o.type) (olds:=[]) hT hX f1 (by omega) (Nat.le_refl 0) hb' (by rw [hX];exact XQ (by simp) (fun h=>rfl) fun a ha j u hu=>by simp at hu) (by rw [f1];exact ND _ f5) (by simp) Dw;have hlen:new.length<=c'.size:=by
        have:c'.toList.length=c'.size:=by simp
        rw [g4] at this;simp at this;have:=f2.1;omega
       refine .inl ⟨_,_,KY aA hc h1 h2 g1,w.heap.size,c'.size,((Below.refl _ w).drew).alloc (Nat.le_refl _) _,Nat.le_refl _,XT w _,?_,fun I' φ' id aB=>?_⟩
       .refine ⟨c',e,(0,0),heap_alloc_new w.drew _,rfl,hlen,fun j _ hj=>by simp at hj,fun j av v ha hv=>?_⟩
        have hj:j < news.length:=by have:=(List.getElem?_eq_some_iff.1 ha).1;have:=f2.1;omega
        rw [<- Array.getElem?_toList,g4,List.nil_append,List.getElem?_append_left hj] at hv;exact aL.mono (w:=w) (fun _ b hb=>⟨hb,Below.heap_alloc w.drew _ b hb.2.1⟩) (fun _ _ h=>h) (f2.2 j av v ha hv)
       .have:(0+m)=m:=by omega
        rw [this] at g2 ⊢;exact .row id s' 0 m _ _ 0 cp aB (by simp) g2 (by simp [g3])
      .simp at h
    .simp at h
   .simp at h
theorem zjF {s:Nat} {x y:ag} (hc:zN P Z o=some (.store s x y)):∃ t A X,o.op=.store t A X/\zI A=some x/\zI X=some y/\iT P t=some s/\s≠0:=by
 unfold zN at hc
 split at hc
 case h_9 =>
  rename_i t A X aA
  split at hc
  .rename_i s' x' y' h1 h2 h3
   split at hc
   .simp at hc
   .rename_i h0;simp at hc;obtain ⟨rfl,rfl,rfl⟩:=hc;exact ⟨t,A,X,aA,h2,h3,h1,h0⟩
  .simp at hc
 all_goals
  exfalso
  revert hc
  (repeat' split)<;>simp
theorem zjz {r:Result Next} {cs:List AV} {ps:List PV} {s len:Nat} (hH:aU C S base φ H w) (hp:qO cs=some ps) (hl:ps.length=len*s)
  (h:jw C S base φ H w (.new (.cells true cs) fun id=>.row id s 0 len) r):jw C S base φ H w (.val (.pure (.slice false s (chunks s len ps)))) r:=by
 have key:∀ v w',Iu C S base φ H w (.new (.cells true cs) fun id=>.row id s 0 len) v w'->Iu C S base φ H w (.val (.pure (.slice false s (chunks s len ps)))) v w':=by
  rintro v w' ⟨b,n,Uw,sF,vF,⟨c,e,fz,hh,hcn,bW,_,hv⟩,hr⟩
  refine ⟨Uw,.pure _ _ ?_⟩
  obtain ⟨b',n',cap,aB,wG,wT,hn⟩:=(hr (fun _ _=>True) (fun _=>some (b,n)) 0 rfl).jr;simp only [Option.some.injEq,Prod.mk.injEq] at aB;obtain ⟨rfl,rfl⟩:=aB;rw [Nat.zero_mul] at wG;subst wG;have tV:=RL hp;subst tV;have wC:¬ EN φ H b:=fun ⟨id,m,aB,_⟩=>by have:=(hH.lt _ _ _ aB).2;omega
  have DK:aY S base φ H w' false b:=⟨.inr (Nat.le_trans hH.sz sF),vF,wC⟩
  have Iw:∀ k b,aY S base φ H w k b->aY S base φ H w' k b/\w'.heap[b]?=w'.heap[b]?:=fun k b hb =>
   ⟨⟨hb.1,Nat.lt_of_lt_of_le hb.2.1 Uw.size,hb.2.2⟩,rfl⟩
  have bq:∀ (i:Nat) e (j:Nat) p,(chunks s len ps)[i]?=some e->e[j]?=some p->ps[i*s+j]?=some p:=fun i e j p he hp=>by
   obtain ⟨hi,rfl⟩:=Ur s len ps i e he;rw [List.getElem?_take] at hp
   split at hp
   .rw [List.getElem?_drop] at hp;exact hp
   .simp at hp
  have bX:∀ (k:Nat) p,ps[k]?=some p->k < c.size/\bR (aY S base φ H w') w' p (c.getD k undef):=fun k p hk=>by
   have aK:=(List.getElem?_eq_some_iff.1 hk).1;have xI:k < c.size:=by simp at bW;omega
   refine ⟨xI,?_⟩
   have h1:=hv k (.pure p) c[k] (by simp [hk]) (by simp [xI]);have h2:=h1.aI.mono Iw;rw [show c.getD k undef=c[k] from by simp [xI]];exact h2
  refine .slice false s _ b 0 len cap (fun i j=>c.getD (i*s+j) undef) (zeb _ _ _) wT (fun i e he=>?_) (fun i e j p he hp=>⟨DK,?_⟩) (fun i e j p he hp=>(bX _ _ (bq i e j p he hp)).2)
  .obtain ⟨hi,rfl⟩:=Ur s len ps i e he;have h5:(i+1)*s<=len*s:=Nat.mul_le_mul_right s hi;rw [Nat.add_mul,Nat.one_mul] at h5;rw [List.length_take,List.length_drop,hl];omega
  .obtain ⟨hk,_⟩:=bX _ _ (bq i e j p he hp);simp [World.cell?,hh,hk,Nat.add_assoc]
 rcases h with ⟨v,w',h1,h2⟩|⟨w',h1,h2⟩
 .exact .inl ⟨v,w',h1,key _ _ h2⟩
 .exact .inr ⟨w',h1,key _ _ h2⟩
theorem zjZ {cl:Callee} {s:Nat} {x y:ag} (hH:aU C S base φ H w) (hE:bz (aY S base φ H w) φ w env a) (jy:.store s x y=(zN P Z o).getD .stuck) (hs:step cl env H (.bB s x y)=some e) :
  ∃ H2,e=.upd (.aQ []) H2/\((∀ w',fT φ H w φ H2 w'->aU C S base φ H2 w'->K (a.put o.dst undef) w')->o.wpIn (Fw ro) n P a w K Q):=by
 have hc:zN P Z o=some (.store s x y):=by
  cases h:zN P Z o with
  | none=>rw [h] at jy;simp at jy
  | some v=>rw [h] at jy;simpa using jy.symm
 obtain ⟨t,A,X,aA,h1,h2,h3,h4⟩:=zjF hc;simp only [step] at hs
 split at hs
 .rename_i id off yu
  split at hs
  .rename_i z hg
   split at hs
   .rename_i aM;simp only [Option.some.injEq] at hs;subst hs
    refine ⟨_,rfl,fun hK=>?_⟩
    have hb:=zJ hE h1;rw [yu] at hb;obtain ⟨b,m,aB,hv⟩:=hb.lZ;have hu:=hH.write (o:=.cells true (z.map AV.pure)) (w':=w) aB (by rw [hg];rfl) rfl rfl rfl rfl (fun _ _=>rfl) (by have:=hH.obj _ _ _ aB;rw [hg] at this;exact this);obtain ⟨w',e1,e2,e3⟩:=run_store (P:=P) hu.2 (fun t=>hu.1.yn (hE t)) h1 h2 h3 h4 aA yu (Ns (hH.nx _ _ aB)) aM.1 aM.2.2.1 aM.2.2.2;have IE:∀ o2,(H.set id (.cells true (z.map AV.pure))).set id o2=H.set id o2:=fun o2=>Heap.ext' rfl fun i=>by
     simp only [Heap.set,upd]
     by_cases hi:i=id<;>simp [hi]
    rw [IE] at e2 e3
    refine ⟨fun _ _=>trivial,?_⟩
    rw [Oper.semAt_eq _ _ _ (by simp [aA]),e1,Oper.uponIn_skip];exact hK w' (hu.1.trans e2) e3
   .simp at hs
  .simp at hs
 .simp at hs
theorem zfU {cl:Callee} {op:mG} (h:step cl env H op=some e):step cl env H op.plain=some e:=by
 cases op<;>first|exact h|skip
 .simp only [step,mG.plain] at h ⊢
  split at h
  .split at h
   .exact h
   .simp at h
  .simp at h
 .simp only [step,mG.plain] at h ⊢
  split at h
  .rename_i v H2 hd
   split at h
   .rw [hd];exact h
   .simp at h
  .simp at h
theorem XZ {cl:Callee} {vo:mG} (bW:bN C P cl) (hH:aU C S base φ H w) (hE:bz (aY S base φ H w) φ w env a) (jy:vo=GV Z o.dst ((zN P Z o).getD .stuck)) (hs:step cl env H vo=some e)
  (hK:∀ v w',Iu C S base φ H w e v w'->K (a.put o.dst v) w'):o.wpIn (Fw ro) n P a w K Q:=by
 have Pq:(jw C S base φ H w e ((execOp a.eval o).run P w)/\∀ c,o.op≠.defer c)->o.wpIn (Fw ro) n P a w K Q:=fun h=>zqM h.2 h.1 hK;unfold GV at jy
 split at jy
 .split at jy
  .rename_i s t x hx
   split at jy
   .subst jy;obtain ⟨H2,rfl,hw⟩:=zjZ (ro:=ro) (n:=n) (K:=K) (Q:=Q) hH hE hx.symm hs;exact hw fun w' h1 h2=>hK _ w' ⟨φ,h1,h2,.aQ [] #[] rfl fun i p v h=>by simp at h⟩
   .split at jy
    .subst jy;exact yJ bW hH hE hx.symm (zfU hs) hK
    .exact yJ bW hH hE (jy.trans hx.symm) hs hK
  .exact yJ bW hH hE jy hs hK
 .split at jy
  .rename_i z hx
   split at jy
   .subst jy;simp only [step,Option.some.injEq] at hs;subst hs;exact yJ (vo:=.alloc z) (e:=.new (.cells true (z.map .pure)) fun id=>.box id 0) bW hH hE hx.symm rfl fun v w' hp=>hK v w' hp
   .exact yJ bW hH hE (jy.trans hx.symm) hs hK
  .rename_i x hx
   refine yJ (vo:=.iq x) bW hH hE hx.symm ?_ hK
   split at jy<;>subst jy<;>exact hs
  .rename_i off x hx
   refine yJ (vo:=.fieldAddr off x) bW hH hE hx.symm ?_ hK
   split at jy<;>subst jy<;>exact hs
  .rename_i g s x hx
   refine yJ (vo:=.load g s x) bW hH hE hx.symm ?_ hK
   split at jy
   .subst jy;exact hs
   .split at jy
    .subst jy;simp only [step] at hs ⊢
     split at hs
     .rename_i k cs off hv
      split at hs
      .rename_i hle;rw [hv];simp only [qX,if_pos hle];exact hs
      .simp at hs
     .simp at hs
    .subst jy;exact hs
  .rename_i s x lo hi hx
   split at jy
   .subst jy
    refine yJ (vo:=.slice s x lo hi) bW hH hE hx.symm ?_ hK
    simp only [step] at hs ⊢
    split at hs
    .rename_i h1;rw [h1];exact hs
    .rename_i h1;rw [h1];exact hs
    .simp at hs
   .exact yJ bW hH hE (jy.trans hx.symm) hs hK
  .rename_i s hx
   split at jy
   .have hc:zN P Z o=some (.buildSlice s [] []):=by
     cases h:zN P Z o with
     | none=>rw [h] at hx;simp at hx
     | some v=>rw [h] at hx;simpa using hx
    obtain ⟨t,e',parts,aA,sD,ht,h1,h2⟩:=zf5 hc;subst jy;simp only [step,Option.some.injEq] at hs;subst hs;exact Pq ⟨zjt aA sD ht h1 h2,by simp [aA]⟩
   .exact yJ bW hH hE (jy.trans hx.symm) hs hK
  .rename_i s z ps ry hx
   split at jy
   .have hc:zN P Z o=some (.buildSlice s z ps):=by
     cases h:zN P Z o with
     | none=>rw [h] at hx;simp at hx
     | some v=>rw [h] at hx;simpa using hx
    subst jy;simp only [step] at hs
    split at hs
    .rename_i cs hf
     split at hs
     .rename_i qs hq
      split at hs
      .rename_i hl;simp only [Option.some.injEq] at hs;subst hs;have h9:=zr6 (cl:=cl) (e:=.new (.cells true cs) fun id=>.row id s 0 (if s=0 then 0 else cs.length / s)) hH hE hc (by simp only [step,hf]) (fun f xs h=>by simp at h);exact Pq ⟨zjz hH hq hl h9.1,h9.2⟩
      .simp at hs
     .simp at hs
    .simp at hs
   .exact yJ bW hH hE (jy.trans hx.symm) hs hK
  .rename_i s b x y hx
   split at jy
   .have hc:zN P Z o=some (.append s b x y):=by
     cases h:zN P Z o with
     | none=>rw [h] at hx;simp at hx
     | some v=>rw [h] at hx;simpa using hx
    obtain ⟨c,X,Y,t,u,aA,iY,h1,h2,h3,h4,h5⟩:=zi2 hc;subst jy;exact Pq ⟨zl9 hH hE h3 h4 h5 aA iY h1 h2 hs,by simp [aA]⟩
   .exact yJ bW hH hE (jy.trans hx.symm) hs hK
  .rename_i f xs hx
   split at jy
   .subst jy;exact yJ bW hH hE hx.symm (zfU hs) hK
   .exact yJ bW hH hE (jy.trans hx.symm) hs hK
  .rename_i z ps hx
   refine yJ (vo:=.build z ps) bW hH hE hx.symm ?_ hK
   split at jy<;>subst jy<;>exact hs
  .exact yJ bW hH hE jy hs hK
theorem zjE {P:Program} {Z:List Nat} {dst:Option Nat} {o:Oper} {s:Nat} {x y:ag} {ls:List ag} (h:mG.fG s x y ls=GV Z dst ((zN P Z o).getD .stuck)):.store s x y=(zN P Z o).getD .stuck:=by
 have key:∀ v,(zN P Z o).getD .stuck=v->mG.fG s x y ls≠v:=fun v hv he=>by
  subst he
  cases hc:zN P Z o with
  | none=>rw [hc] at hv;simp at hv
  | some u =>
   rw [hc] at hv;simp only [Option.getD_some] at hv;subst hv;unfold zN at hc
   revert hc
   (repeat' split)<;>simp
 unfold GV at h
 split at h
 .split at h
  .rename_i s' t x' hx
   split at h
   .simp at h
   .split at h
    .simp only [mG.fG.injEq] at h;obtain ⟨rfl,rfl,rfl,_⟩:=h;exact hx.symm
    .simp at h
  .exact absurd h (key _ rfl)
 .split at h<;>first|(exact absurd h (key _ rfl))|(split at h<;>simp at h;done)|(split at h<;>first|(simp at h;done)|(split at h<;>simp at h;done))
theorem zlr {P:Program} {Z:List Nat} {dst:Option Nat} {o:Oper} {f:ag} {xs ls:List ag} (h:mG.jB f xs ls=GV Z dst ((zN P Z o).getD .stuck)):.call f xs=(zN P Z o).getD .stuck:=by
 have key:∀ v,(zN P Z o).getD .stuck=v->mG.jB f xs ls≠v:=fun v hv he=>by
  subst he
  cases hc:zN P Z o with
  | none=>rw [hc] at hv;simp at hv
  | some u =>
   rw [hc] at hv;simp only [Option.getD_some] at hv;subst hv;unfold zN at hc
   revert hc
   (repeat' split)<;>simp
 unfold GV at h
 split at h
 .split at h
  .split at h
   .simp at h
   .split at h<;>simp at h
  .exact absurd h (key _ rfl)
 .split at h
  case h_11=>exact absurd h (key _ rfl)
  case h_9 =>
   rename_i f' xs' hx
   split at h
   .simp only [mG.jB.injEq] at h;obtain ⟨rfl,rfl,_⟩:=h;exact hx.symm
   .simp at h
  all_goals first|(exact absurd h (key _ rfl))|(split at h<;>simp at h;done)|(split at h<;>first|(simp at h;done)|(split at h<;>simp at h;done))
theorem zut {cl:Callee} {vo:mG} (bW:bN C P cl) (hH:aU C S base φ H w) (hE:bz (aY S base φ H w) φ w env a) (jy:vo=GV Z o.dst ((zN P Z o).getD .stuck)) (hs:step cl env H vo.plain=some e)
  (hK:∀ v w',Iu C S base φ H w e v w'->K (a.put o.dst v) w'):o.wpIn (Fw ro) n P a w K Q:=by
 by_cases hx:∃ s x y ls,vo=.fG s x y ls
 .obtain ⟨s,x,y,ls,rfl⟩:=hx;exact yJ bW hH hE (zjE jy) hs hK
 .by_cases hy:∃ f xs ls,vo=.jB f xs ls
  .obtain ⟨f,xs,ls,rfl⟩:=hy;exact yJ bW hH hE (zlr jy) hs hK
  refine XZ bW hH hE jy ?_ hK
  have:vo.plain=vo:=by
   cases vo<;>first|rfl|exact absurd ⟨_,_,_,_,rfl⟩ hx|exact absurd ⟨_,_,_,rfl⟩ hy
  rwa [this] at hs
end
section
variable {env env':Env} {H H':Heap} {cl:Callee}
theorem zw {x:ag} (h:∀ t∈qY x,env t=env' t):x.eval env=x.eval env':=by
 cases x with
 | tmp t=>exact h t (by simp [qY])
 | const p=>rfl
theorem Ux {xs:List ag} (h:∀ t∈xs.flatMap qY,env t=env' t):xs.map (fun x=>x.eval env)=xs.map (fun x=>x.eval env') :=
 List.map_congr_left fun x hx=>zw fun t ht=>h t (List.mem_flatMap.2 ⟨x,hx,ht⟩)
theorem X0 {ps:List (Nat×Nat×ag)} (h:∀ t∈ps.flatMap (fun p=>qY p.2.2),env t=env' t):wB env ps=wB env' ps :=
 List.map_congr_left fun p hp=>by
  obtain ⟨o,s,x⟩:=p;simp only;rw [zw (x:=x) fun t ht=>h t (List.mem_flatMap.2 ⟨_,hp,ht⟩)]
theorem K6 {n d:Nat} {x:Option ag} (h:∀ t∈(x.map qY).getD [],env t=env' t):bound env n d x=bound env' n d x:=by
 cases x with
 | none=>rfl
 | some x =>
  unfold bound;simp only;rw [zw (x:=x) fun t ht=>h t (by simpa using ht)]
theorem Uy {op:mG} (h:∀ t∈op.reads,env t=env' t):step cl env H op=step cl env' H op:=by
 cases op<;>simp only [mG.reads] at h<;>simp only [step]
 case iq x=>rw [zw h]
 case pick c a b =>
  rw [zw (x:=c) fun t ht=>h t (by simp [ht]),zw (x:=a) fun t ht=>h t (by simp [ht]),zw (x:=b) fun t ht=>h t (by simp [ht])]
 case box x=>rw [zw h]
 case build z ps=>rw [X0 h]
 case buildSlice sz z ps=>rw [X0 h]
 case oC sz z ps=>rw [X0 h]
 case qj z ps=>rw [X0 h]
 case load g s x=>rw [zw h]
 case store s a x=>rw [zw (x:=a) fun t ht=>h t (by simp [ht]),zw (x:=x) fun t ht=>h t (by simp [ht])]
 case nilCheck x=>rw [zw h]
 case bin op d a x=>rw [zw (x:=a) fun t ht=>h t (by simp [ht]),zw (x:=x) fun t ht=>h t (by simp [ht])]
 case lW n s o a x=>rw [zw (x:=a) fun t ht=>h t (by simp [ht]),zw (x:=x) fun t ht=>h t (by simp [ht])]
 case un op x=>rw [zw h]
 case toInt k x=>rw [zw h]
 case uG x=>rw [zw h]
 case uH x=>rw [zw h]
 case toStr x=>rw [zw h]
 case makeFunc f xs=>rw [Ux h]
 case iD f xs=>rw [Ux h]
 case makeSlice s b z a x=>rw [zw (x:=a) fun t ht=>h t (by simp [ht]),zw (x:=x) fun t ht=>h t (by simp [ht])]
 case slice sz x lo hi =>
  have e1:=zw (x:=x) (env:=env) (env':=env') fun t ht=>h t (by simp [ht]);have e2:∀ n d,bound env n d lo=bound env' n d lo:=fun n d=>K6 fun t ht=>h t (by simp [ht]);have e3:∀ n d,bound env n d hi=bound env' n d hi:=fun n d=>K6 fun t ht=>h t (by simp [ht]);simp only [e1,e2,e3]
 case substr x lo hi =>
  have e1:=zw (x:=x) (env:=env) (env':=env') fun t ht=>h t (by simp [ht]);have e2:∀ n d,bound env n d lo=bound env' n d lo:=fun n d=>K6 fun t ht=>h t (by simp [ht]);have e3:∀ n d,bound env n d hi=bound env' n d hi:=fun n d=>K6 fun t ht=>h t (by simp [ht]);simp only [e1,e2,e3]
 case slice3 sz x lo hi mx =>
  have e1:=zw (x:=x) (env:=env) (env':=env') fun t ht=>h t (by simp [ht]);have e2:∀ n d,bound env n d lo=bound env' n d lo:=fun n d=>K6 fun t ht=>h t (by simp [ht]);have e3:∀ n d,bound env n d (some hi)=bound env' n d (some hi):=fun n d=>K6 fun t ht=>h t (by simp at ht;simp [ht]);have e4:∀ n d,bound env n d (some mx)=bound env' n d (some mx):=fun n d=>K6 fun t ht=>h t (by simp at ht;simp [ht]);simp only [e1,e2,e3,e4]
 case EK x=>rw [zw h]
 case FQ x=>rw [zw h]
 case uJ s b z a x=>rw [zw (x:=a) fun t ht=>h t (by simp [ht]),zw (x:=x) fun t ht=>h t (by simp [ht])]
 case idle i x=>rw [zw h]
 case ym x=>rw [zw h]
 case lg off x=>rw [zw h]
 case iQ g s x=>rw [zw h]
 case ve g s x=>rw [zw h]
 case fG s a x ls =>
  have e3:ls.all (fun l=>beside 0 (l.eval env))=ls.all (fun l=>beside 0 (l.eval env)):=rfl;have e4:∀ id,ls.all (fun l=>beside id (l.eval env))=ls.all (fun l=>beside id (l.eval env')):=fun id=>by
   rw [Bool.eq_iff_iff,List.all_eq_true,List.all_eq_true]
   constructor
   .intro hh l hl;rw [<- zw (x:=l) fun t ht=>h t (by simp only [List.mem_append,List.mem_flatMap];exact .inr ⟨l,hl,ht⟩)];exact hh l hl
   .intro hh l hl;rw [zw (x:=l) fun t ht=>h t (by simp only [List.mem_append,List.mem_flatMap];exact .inr ⟨l,hl,ht⟩)];exact hh l hl
  simp only [e4];rw [zw (x:=a) fun t ht=>h t (by simp [ht]),zw (x:=x) fun t ht=>h t (by simp [ht])]
 case u6 sz x lo hi =>
  have e1:=zw (x:=x) (env:=env) (env':=env') fun t ht=>h t (by simp [ht]);have e2:∀ n d,bound env n d lo=bound env' n d lo:=fun n d=>K6 fun t ht=>h t (by simp [ht]);have e3:∀ n d,bound env n d hi=bound env' n d hi:=fun n d=>K6 fun t ht=>h t (by simp [ht]);simp only [e1,e2,e3]
 case jW s b a x=>rw [zw (x:=a) fun t ht=>h t (by simp [ht]),zw (x:=x) fun t ht=>h t (by simp [ht])]
 case bB s a x=>rw [zw (x:=a) fun t ht=>h t (by simp [ht]),zw (x:=x) fun t ht=>h t (by simp [ht])]
 case fieldAddr off x=>rw [zw h]
 case field off s g x=>rw [zw h]
 case indexAddr sz arr x i=>rw [zw (x:=x) fun t ht=>h t (by simp [ht]),zw (x:=i) fun t ht=>h t (by simp [ht])]
 case index sz l g x i=>rw [zw (x:=x) fun t ht=>h t (by simp [ht]),zw (x:=i) fun t ht=>h t (by simp [ht])]
 case byteAt x i=>rw [zw (x:=x) fun t ht=>h t (by simp [ht]),zw (x:=i) fun t ht=>h t (by simp [ht])]
 case extract i x=>rw [zw h]
 case jB f xs ls =>
  have e1:∀ H2,ls.all (fun l=>keeps H H2 (l.eval env))=ls.all (fun l=>keeps H H2 (l.eval env')):=fun H2=>by
   rw [Bool.eq_iff_iff,List.all_eq_true,List.all_eq_true]
   constructor
   .intro hh l hl;rw [<- zw (x:=l) fun t ht=>h t (by simp only [List.mem_append,List.mem_flatMap];exact .inr ⟨l,hl,ht⟩)];exact hh l hl
   .intro hh l hl;rw [zw (x:=l) fun t ht=>h t (by simp only [List.mem_append,List.mem_flatMap];exact .inr ⟨l,hl,ht⟩)];exact hh l hl
  rw [zw (x:=f) fun t ht=>h t (by simp [ht]),Ux (xs:=xs) fun t ht=>h t (by simp only [List.mem_append];exact .inl (.inr ht))];simp only [e1]
 case call f xs=>rw [zw (x:=f) fun t ht=>h t (by simp [ht]),Ux (xs:=xs) fun t ht=>h t (by simp only [List.mem_append];exact .inr ht)]
 case yl x=>rw [zw h]
 case xD x=>rw [zw h]
 case append s b a x=>rw [zw (x:=a) fun t ht=>h t (by simp [ht]),zw (x:=x) fun t ht=>h t (by simp [ht])]
 case aZ m xs=>rw [Ux h]
 case clear z x=>rw [zw h]
 case lookup s z ok a x=>rw [zw (x:=a) fun t ht=>h t (by simp [ht]),zw (x:=x) fun t ht=>h t (by simp [ht])]
 case rZ s c a b =>
  rw [zw (x:=c) fun t ht=>h t (by simp [ht]),zw (x:=a) fun t ht=>h t (by simp [ht]),zw (x:=b) fun t ht=>h t (by simp [ht])]
 case u7 x=>rw [zw h]
def nX (H H':Heap):Prop:=∀ id,H.get id≠.dead->(∀ z,H.get id≠.raw z)->H'.get id=H.get id
theorem nX.cells (h:nX H H') {id:Nat} {b:Bool} {cs:List AV} (hg:H.get id=.cells b cs):H'.get id=.cells b cs:=(h id (by rw [hg];simp) (by rw [hg];simp)).trans hg
theorem nX.ji (h:nX H H') {id:Nat} {es:List (PV×PV)} (hg:H.get id=.ji es):H'.get id=.ji es:=(h id (by rw [hg];simp) (by rw [hg];simp)).trans hg
theorem Pv {fr fr':AV->Option (PV×List Nat)} (tO:∀ v r,fr v=some r->fr' v=some r):∀ {cs:List AV} {r:List PV×List Nat},zX fr cs=some r->zX fr' cs=some r
 | [],r,h=>h
 | c::cs,r,h=>by
  unfold zX at h ⊢
  split at h
  .simp at h
  .rename_i p is hp;rw [tO _ _ hp];simp only
   split at h
   .simp at h
   .rename_i qs js hq;rw [Pv tO hq];exact h
theorem zl8 {k:Bool} (h:nX H H'):∀ (n:Nat) (v:AV) (r:PV×List Nat),freeze H k n v=some r->freeze H' k n v=some r:=by
 intro n
 induction n with
 | zero=>intro v r h;simp [freeze] at h
 | succ n ih =>
  intro v r hf;unfold freeze at hf ⊢
  split at hf
  .exact hf
  .split at hf
   .rename_i e;rw [Pv ih e];exact hf
   .simp at hf
  .split at hf
   .rename_i e;rw [Pv ih e];exact hf
   .simp at hf
  .split at hf
   .rename_i e;rw [Pv ih e];exact hf
   .simp at hf
  .split at hf
   .rename_i hg;rw [h.cells hg];simp only
    split at hf
    .rename_i e;rw [Pv ih e];exact hf
    .simp at hf
   .simp at hf
  .split at hf
   .rename_i hg;rw [h.cells hg];simp only
    split at hf
    .rename_i e;rw [Pv ih e];exact hf
    .simp at hf
   .simp at hf
  .simp at hf
theorem ze6 (h:nX H H') {s:Nat} {v:AV} {cs:List AV} (hl:qX H s v=some cs):qX H' s v=some cs:=by
 unfold qX at hl ⊢
 split at hl
 .exact hl
 .split at hl
  .rename_i hg;rw [h.cells hg];exact hl
  .simp at hl
 .simp at hl
theorem zc6 (h:nX H H') {s:Nat} {v:AV} {r:List AV×Nat} (hl:zM H s v=some r):zM H' s v=some r:=by
 unfold zM at hl ⊢
 split at hl
 .exact hl
 .exact hl
 .split at hl
  .rename_i hs;rw [if_pos hs]
   split at hl
   .rename_i hg;rw [h.cells hg];exact hl
   .simp at hl
  .simp at hl
 .simp at hl
theorem zj9 (h:nX H H') {op:mG} {e:Eff} (he:tN e=false) (hs:step cl env H op=some e):step cl env H' op=some e:=by
 cases op<;>simp only [step] at hs ⊢
 case load g s x =>
  split at hs
  .rename_i cs hl;rw [ze6 h hl];exact hs
  .simp at hs
 case iQ g s x =>
  split at hs
  .rename_i cs hl;rw [ze6 h hl];exact hs
  .simp at hs
 case store s a x =>
  split at hs
  .split at hs
   .split at hs
    .simp at hs;subst hs;simp [tN] at he
    .simp at hs
   .simp at hs
  .simp at hs
 case jB f xs ls =>
  split at hs
  .split at hs
   .simp at hs;subst hs;simp [tN] at he
   .simp at hs
  .simp at hs
 case fG s a x ls =>
  split at hs
  .split at hs
   .split at hs
    .split at hs
     .simp at hs;subst hs;simp [tN] at he
     .simp at hs
    .simp at hs
   .simp at hs
  .simp at hs
 case slice sz x lo hi =>
  split at hs
  .exact hs
  .exact hs
  .rename_i id s off len hx
   split at hs
   .rename_i rP;rw [if_pos rP]
    split at hs
    .rename_i N hN;have:TN H' id sz off len=some N:=by
      unfold TN at hN ⊢
      split at hN
      .rename_i own cs hg;rw [h.cells hg];exact hN
      .simp at hN
     rw [this];exact hs
    .simp at hs
   .simp at hs
  .simp at hs
 case toStr x =>
  split at hs
  .rename_i cs m hl;rw [zc6 h hl];exact hs
  .simp at hs
 case call f xs =>
  unfold zG at hs ⊢;have go:∀ (g:Nat) (ys:List AV),(if cl.shared g then
    match cl.run g ys H with
    | some (v,H')=>some (.upd v H')
    | none=>none
   else
    match zX (freeze H true qP) ys with
    | none=>none
    | some (ps,ids) =>
     match cl.pure g ps with
     | none=>none
     | some r=>if ids.isEmpty||r.cold then some (.val (.pure r)) else some (.upd (.pure r) (H.freeze ids)):Option Eff)=some e ->
    (if cl.shared g then
    match cl.run g ys H' with
    | some (v,H')=>some (.upd v H')
    | none=>none
   else
    match zX (freeze H' true qP) ys with
    | none=>none
    | some (ps,ids) =>
     match cl.pure g ps with
     | none=>none
     | some r=>if ids.isEmpty||r.cold then some (.val (.pure r)) else some (.upd (.pure r) (H'.freeze ids)):Option Eff)=some e:=by
   intro g ys hg
   split at hg
   .split at hg
    .simp at hg;subst hg;simp [tN] at he
    .simp at hg
   .rename_i hsh;rw [if_neg hsh]
    split at hg
    .simp at hg
    .rename_i ps ids hf;rw [Pv (zl8 h qP) hf];simp only
     split at hg
     .simp at hg
     .rename_i r hr
      split at hg
      .rename_i hc;rw [if_pos hc];exact hg
      .simp at hg;subst hg;simp [tN] at he
  split at hs
  .exact go _ _ hs
  .exact go _ _ hs
  .exact go _ _ hs
  .split at hs
   .simp at hs;subst hs;simp [tN] at he
   .simp at hs
  .simp at hs
 case bB s a x =>
  split at hs
  .split at hs
   .split at hs
    .simp at hs;subst hs;simp [tN] at he
    .simp at hs
   .simp at hs
  .simp at hs
 case jW s b a x =>
  split at hs
  .simp at hs
  .rename_i new m hl;rw [zc6 h hl];exact hs
 case append s b a x =>
  unfold zh at hs ⊢
  split at hs
  .simp at hs
  .rename_i new m hl;rw [zc6 h hl];simp only
   split at hs
   .simp at hs
   .rename_i bn;rw [if_neg bn]
    split at hs
    .exact hs
    .split at hs
     .split at hs
      .split at hs
       .simp at hs;subst hs;simp [tN] at he
       .split at hs
        .simp at hs;subst hs;simp [tN] at he
        .simp at hs
      .simp at hs
     .simp at hs
    .simp at hs
 case clear z x =>
  split at hs
  .exact hs
  .split at hs
   .split at hs
    .split at hs
     .simp at hs;subst hs;simp [tN] at he
     .simp at hs
    .simp at hs
   .simp at hs
  .simp at hs
 case lookup s z ok m k =>
  split at hs
  .rename_i id key e1 e2
   split at hs
   .rename_i es hg;simp only [h.ji hg];exact hs
   .simp at hs
  .simp at hs
 case rZ s m k x =>
  split at hs
  .split at hs
   .split at hs
    .simp at hs;subst hs;simp [tN] at he
    .simp at hs
   .simp at hs
  .simp at hs
 case u7 x =>
  split at hs
  .rename_i id e1
   split at hs
   .rename_i es hg;simp only [h.ji hg];exact hs
   .simp at hs
  .simp at hs
 all_goals exact hs
end
abbrev IK (r:Nat):Deferred:={ target:=.collected r,args:=#[] }
structure R (C:jC) (S:Bool->Nat->Prop) (base lo nt:Nat) (φ:jI) (H:Heap) (env:Env) (a:Act) (w:World):Prop where
 heap:aU C S base φ H w
 env:bz (aY S base φ H w) φ w env a
 size:a.tmps.size=nt
 wU:lo<=w.heap.size
 defs:∃ marks:List Nat,a.defers=marks.map IK/\marks.Nodup/\∀ r∈marks,lo<=r/\w.heap[r]?=some (.deferred (some []))
section
variable {C:jC} {P:Program} {Z:List Nat} {S:Bool->Nat->Prop} {base lo nt:Nat} {φ φ':jI} {H H':Heap} {w w':World} {env env':Env} {a:Act} {e:Eff} {o:Oper}
variable {ro:Option Nat} {n:Nat} {K:Act->World->Prop} {Q:Exit->Act->World->Prop}
theorem zgY (hH:aU C S base φ H w) {r:Nat} {x:Option (List Deferred)} (h:w.heap[r]?=some (.deferred x)):¬ EN φ H r:=by
 rintro ⟨id,m,aB,hl⟩;have ho:=hH.obj _ _ _ aB
 cases hg:H.get id with
 | dead=>rw [hg] at hl;simp [aP.live] at hl
 | cells own cs =>
  rw [hg] at ho;obtain ⟨c,t,fz,h1,_⟩:=ho;rw [h] at h1;simp at h1
 | raw z =>
  rw [hg] at ho;obtain ⟨c,t,fz,h1,_⟩:=ho;rw [h] at h1;simp at h1
 | ji es =>
  rw [hg] at ho;obtain ⟨ms,ck,h1,_⟩:=ho;rw [h] at h1;simp at h1
 | loop l =>
  rw [hg] at ho;obtain ⟨l',h1,_⟩:=ho;rw [h] at h1;simp at h1
theorem RS (hH:aU C S base φ H w) (mH:fT φ H w φ' H' w') {ds:List Deferred} (h:∃ marks:List Nat,ds=marks.map IK/\marks.Nodup/\∀ r∈marks,lo<=r/\w.heap[r]?=some (.deferred (some []))) :
  ∃ marks:List Nat,ds=marks.map IK/\marks.Nodup/\∀ r∈marks,lo<=r/\w'.heap[r]?=some (.deferred (some [])):=by
 obtain ⟨marks,h1,h2,h3⟩:=h
 refine ⟨marks,h1,h2,fun r hr=>?_⟩
 obtain ⟨h4,h5⟩:=h3 r hr;have aK:r < w.heap.size:=by
  rcases Nat.lt_or_ge r w.heap.size with h|h
  .exact h
  .rw [Array.getElem?_eq_none h] at h5;simp at h5
 exact ⟨h4,(mH.same r aK (zgY hH h5)).trans h5⟩
theorem zmk {d:Option Nat} {v:Value} (hd:∀ i,d=some i->i < a.tmps.size) (t:Nat):(a.put d v).tmps.getD t undef=if d=some t then v else a.tmps.getD t undef:=by
 cases d with
 | none=>simp [Act.put]
 | some i =>
  have hi:=hd i rfl;simp only [Act.put]
  by_cases h:i=t
  .subst h;simp [hi]
  .simp [h]
theorem zmj {d:Option Nat} {v:Value}:(a.put d v).tmps.size=a.tmps.size:=by cases d<;>simp [Act.put]
theorem zhs {d:Option Nat} {v:Value}:(a.put d v).defers=a.defers:=by cases d<;>rfl
theorem R.put (h:R C S base lo nt φ H env a w) (mH:fT φ H w φ' H' w') (hH:aU C S base φ' H' w') {d:Option Nat} {av:AV} {v:Value} (hd:∀ i,d=some i->i < nt) (hv:aL (aY S base φ' H' w') φ' w' av v) :
  R C S base lo nt φ' H' (oZ env d av) (a.put d v) w':=by
 refine ⟨hH,fun t=>?_,by rw [zmj];exact h.size,Nat.le_trans h.wU mH.size,?_⟩
 .rw [zmk (by rw [h.size];exact hd)]
  by_cases ht:d=some t
  .subst ht;simp [oZ,upd];exact hv
  .rw [if_neg ht];have e:oZ env d av t=env t:=by
    cases d with
    | none=>rfl
    | some i=>simp only [oZ,upd];rw [if_neg (fun e=>ht (by rw [e]))]
   rw [e];exact mH.yn (h.env t)
 .rw [zhs];exact RS h.heap mH h.defs
theorem R.after (h:R C S base lo nt φ H env a w) {d:Option Nat} {v:Value} (hd:∀ i,d=some i->i < nt) (hp:Iu C S base φ H w e v w') :
  ∃ φ',fT φ H w φ' (apply H e).2 w'/\R C S base lo nt φ' (apply H e).2 (oZ env d (apply H e).1) (a.put d v) w':=by
 cases e with
 | val av =>
  obtain ⟨h1,h2⟩:=hp;exact ⟨φ,fT.of_below h1,h.put (fT.of_below h1) (h.heap.below h1) hd h2⟩
 | new ob f =>
  obtain ⟨b,m,h1,h2,h3,h4,h5⟩:=hp;have:=h.heap.new (H':=H.alloc ob) (id:=H.nx) h1 (zgW h.heap) O3 (fun i hi _=>Nr hi) (Nat.lt_succ_self _) (Nat.le_succ _) h2 h3 h4;exact ⟨_,this.1,h.put this.1 this.2 hd (h5 _ _ _ (Dp _ _))⟩
 | upd av H1 =>
  obtain ⟨φ',h1,h2,h3⟩:=hp;exact ⟨φ',h1,h.put h1 h2 hd h3⟩
theorem Uz {I:Bool->Nat->Prop}:aL I φ w (.aQ []) undef:=.aQ [] #[] rfl fun i p v h=>by simp at h
theorem NJ {I:Bool->Nat->Prop} (hE:bz I φ w env a) {ops:Array Oper} {g:Option (Nat×Bool)} {g':Option (Option Nat×Bool)} (hg:XF ops g=some g') {b:Bool} (hw:wanted env g'=some b) (uR:o.guard=g) :
  Region.wanted o (yielded ops a.tmps)=b:=by
 unfold XF at hg
 split at hg
 .simp at hg;subst hg;simp [wanted] at hw;subst hw;simp [Region.wanted,uR]
 .rename_i j want
  split at hg
  .rename_i oj hj
   split at hg
   .rename_i d hd;simp at hg;subst hg;simp only [wanted] at hw;have hv:=hE d;simp only [Region.wanted,uR,yielded,hj,Option.bind_some,hd]
    split at hw
    .rename_i x e1;rw [e1] at hv;simp at hw;subst hw;have:=hv.iF;have aK:d < a.tmps.size:=by
      rcases Nat.lt_or_ge d a.tmps.size with h|h
      .exact h
      .simp [Array.getElem?_eq_none h,undef] at this
     have:a.tmps[d]?=some (.bool x):=by simpa [aK] using this
     rw [this];rfl
    .rename_i e1;rw [e1] at hv;simp at hw;subst hw;obtain ⟨vs,e2,e3,_⟩:=hv.uO;have Dv:vs=#[]:=Array.eq_empty_of_size_eq_zero (by simpa using e3.symm);subst Dv;rcases Nat.lt_or_ge d a.tmps.size with h|h
     .have:a.tmps[d]?=some (.tuple #[]):=by simpa [h] using e2
      rw [this];rfl
     .simp [Array.getElem?_eq_none h]
    .simp at hw
   .simp at hg
  .simp at hg
theorem zcy {ops:Array Oper} {v:au} (h:XG P Z nt ops o=some v):v.op=GV Z o.dst ((zN P Z o).getD .stuck)/\XF ops o.guard=some v.guard/\v.dst=o.dst/\∀ i,o.dst=some i->i < nt:=by
 unfold XG at h
 split at h
 .rename_i g' h2
  split at h
  .rename_i d hd
   split at h
   .rename_i aK;simp at h;subst h;exact ⟨by rw [hd],h2,hd.symm,fun i hi=>by rw [hd] at hi;simp at hi;rw [<- hi];exact aK⟩
   .simp at h
  .rename_i hd;simp at h;subst h;exact ⟨by rw [hd],h2,hd.symm,fun i hi=>by rw [hd] at hi;simp at hi⟩
 .simp at h
theorem zoa {cl:Callee} (bW:bN C P cl) {ops:Array Oper}:∀ (l:List Oper) (vs:List au) (k:Nat) (env:Env) (H:Heap) (φ:jI) (a:Act) (w:World) (env':Env) (H':Heap),
  (∀ j,l[j]?=ops[k+j]?)->Dr P Z nt ops l=some vs->lY cl 0 vs env H=some (env',H')->R C S base lo nt φ H env a w ->
  (∀ φ' a' w',fT φ H w φ' H' w'->R C S base lo nt φ' H' env' a' w'->Q .normal a' w')->wpOpsIn (Fw ro) n P ops Q (List.range' k l.length) a w:=by
 intro l
 induction l with
 | nil =>
  intro vs k env H φ a w env' H' hl hc hr hR hQ;simp [Dr] at hc;subst hc;simp [lY] at hr;obtain ⟨rfl,rfl⟩:=hr;simp only [List.length_nil,List.range'_zero,wpOpsIn];exact hQ φ a w fT.refl hR
 | cons o l ih =>
  intro vs k env H φ a w env' H' hl hc hr hR hQ;unfold Dr at hc
  split at hc
  .simp at hc
  .rename_i v hv
   split at hc
   .simp at hc
   .rename_i vs' p9;simp at hc;subst hc;obtain ⟨p1,p2,p3,p4⟩:=zcy hv;have h0:ops[k]?=some o:=by simpa using (hl 0).symm
    have NK:∀ j,l[j]?=ops[k+1+j]?:=fun j=>by have:=hl (j+1);simpa [Nat.add_assoc,Nat.add_comm 1 j] using this
    unfold lY at hr
    split at hr
    .simp at hr
    .rename_i hw;have qV:=NJ hR.env p2 hw rfl;simp only [List.length_cons,List.range'_succ,wpOpsIn,h0,qV,Bool.false_eq_true,if_false]
     refine ⟨fun _ _=>trivial,?_⟩
     have tu:=hR.put fT.refl hR.heap (d:=o.dst) p4 (Uz (φ:=φ) (w:=w));rw [p3] at hr;exact ih _ _ _ _ _ _ _ _ _ NK p9 hr tu hQ
    .rename_i hw;have qV:=NJ hR.env p2 hw rfl;simp only [List.length_cons,List.range'_succ,wpOpsIn,h0,qV,if_true]
     split at hr
     .simp at hr
     .rename_i e he
      split at hr
      .rename_i hc;exact absurd rfl hc.1
      .refine XZ bW hR.heap hR.env p1 he fun v w' hp=>?_
       obtain ⟨φ',h1,h2⟩:=hR.after (d:=o.dst) p4 hp;rw [p3] at hr;exact ih _ _ _ _ _ _ _ _ _ NK p9 hr h2 fun φ'' a' w'' h3 h4=>hQ φ'' a' w'' (h1.trans h3) h4
structure Sol (cl:Callee) (vs:List au) (pre:Nat) (env:Env) (H:Heap) (aW:Env) (Hp:Heap) (ids:Nat->Nat):Prop where
 ext:nX H Hp
 nx:H.nx<=Hp.nx
 keep:∀ id,id < H.nx->Hp.get id=H.get id
 old:∀ t,(∀ (i:Nat) (v:au),i < pre->vs[i]?=some v->v.dst≠some t)->aW t=env t
 K7:∀ i,i < pre->H.nx<=ids i
 IL:∀ i j,i < pre->j < pre->(∃ v o f,vs[i]?=some v/\step cl aW Hp v.op=some (.new o f)/\wanted aW v.guard=some true)->(∃ v o f,vs[j]?=some v/\step cl aW Hp v.op=some (.new o f)/\wanted aW v.guard=some true)->ids i=ids j->i=j
 each:∀ (i:Nat) (v:au),i < pre->vs[i]?=some v->(wanted aW v.guard=some false/\(∀ d,v.dst=some d->aW d=.aQ [])) \/
  (wanted aW v.guard=some true/\∃ e,step cl aW Hp v.op=some e/\tN e=false /\
   (match e with
    | .val av=>∀ d,v.dst=some d->aW d=av
    | .new o f=>ids i < Hp.nx/\Hp.get (ids i)=o/\∀ d,v.dst=some d->aW d=f (ids i)
    | .upd _ _=>False))
theorem zjN:nX H H:=fun _ _ _=>rfl
theorem znL {H1 H2 H3:Heap} (h:nX H1 H2) (k:nX H2 H3):nX H1 H3:=fun id aB hr=>(k id (by rw [h id aB hr];exact aB) (by rw [h id aB hr];exact hr)).trans (h id aB hr)
theorem znT (o:aP):nX H (H.alloc o):=fun id aB _=>Nr (fun e=>by
 subst e;exact absurd (TQ aB) (Nat.lt_irrefl _))
theorem zfv (cl:Callee) (pre:Nat) (v:au) (vs:List au) (env:Env) (H:Heap):lY cl pre (v::vs) env H=match wanted env v.guard with
  | none=>none
  | some false=>lY cl (pre - 1) vs (oZ env v.dst (.aQ [])) H
  | some true=>match step cl env H v.op with
   | none=>none
   | some e=>if pre≠0/\tN e then none else lY cl (pre - 1) vs (oZ env v.dst (apply H e).1) (apply H e).2:=rfl
theorem zeX (cl:Callee):∀ (pre:Nat) (vs:List au) (env:Env) (H:Heap) (r:Env×Heap),pre<=vs.length->lY cl pre vs env H=some r ->
  ∃ aW Hp,lY cl pre (vs.take pre) env H=some (aW,Hp)/\lY cl 0 (vs.drop pre) aW Hp=some r
 | 0,vs,env,H,r,hl,h=>⟨env,H,by simp [lY],by simpa using h⟩
 | pre+1,[],env,H,r,hl,h=>by simp at hl
 | pre+1,v::vs,env,H,r,hl,h=>by
  simp only [List.take_succ_cons,List.drop_succ_cons,zfv] at h ⊢
  split at h
  .simp at h
  .exact zeX cl pre vs _ _ r (by simpa using hl) h
  .split at h
   .simp at h
   .split at h
    .simp at h
    .rename_i hc;rw [if_neg hc];exact zeX cl pre vs _ _ r (by simpa using hl) h
def Once (vs:List au):Prop:=∀ (i j:Nat) (a b:au),vs[i]?=some a->vs[j]?=some b->∀ d,b.dst=some d->(i≠j->a.dst≠some d)/\(d∈a.reads->j < i)
theorem Once.tail {v:au} {vs:List au} (h:Once (v::vs)):Once vs:=fun i j a b ha hb d hd=>by
 have:=h (i+1) (j+1) a b (by simpa using ha) (by simpa using hb) d hd;exact ⟨fun FZ=>this.1 (fun e=>FZ (Nat.succ.inj e)),fun hm=>by have:=this.2 hm;omega⟩
theorem RU {v:au} {env env':Env} (h:∀ t∈v.reads,env t=env' t):wanted env v.guard=wanted env' v.guard:=by
 obtain ⟨dst,op,g⟩:=v
 cases g with
 | none=>rfl
 | some g =>
  obtain ⟨d,want⟩:=g
  cases d with
  | none=>rfl
  | some d =>
   simp only [wanted];rw [h d (by simp [au.reads])]
theorem zf9 (cl:Callee):∀ (vs:List au) (env:Env) (H:Heap) (aW:Env) (Hp:Heap) (pre:Nat),vs.length<=pre->Once vs->lY cl pre vs env H=some (aW,Hp)->∃ ids,Sol cl vs vs.length env H aW Hp ids
 | [],env,H,aW,Hp,pre,hl,ho,h=>by
  simp [lY] at h;obtain ⟨rfl,rfl⟩:=h;exact ⟨fun _=>H.nx,⟨zjN,Nat.le_refl _,fun _ _=>rfl,fun _ _=>rfl,fun i hi=>by simp at hi,fun i j hi=>by simp at hi,fun i v hi=>by simp at hi⟩⟩
 | v::vs,env,H,aW,Hp,pre,hl,ho,h=>by
  simp only [List.length_cons] at hl;have vG:pre≠0:=by omega
  -- slots: what this one reads and writes is not written any more
  have NL:∀ t∈v.reads,∀ (j:Nat) b,vs[j]?=some b->b.dst≠some t:=fun t ht j b hb hd=>by
   have:=(ho 0 (j+1) v b rfl (by simpa using hb) t hd).2 ht;omega
  have K8:∀ d,v.dst=some d->∀ (j:Nat) b,vs[j]?=some b->b.dst≠some d:=fun d hd j b hb qm=>by
   have:=(ho 0 (j+1) v b rfl (by simpa using hb) d qm).1 (by omega);exact this hd
  have ET:∀ d,v.dst=some d->d ∉ v.reads:=fun d hd hm=>by
   have:=(ho 0 0 v v rfl rfl d hd).2 hm;omega
  rw [zfv] at h
  split at h
  .simp at h
  .rename_i hw;obtain ⟨ids,hs⟩:=zf9 cl vs _ _ _ _ (pre - 1) (by omega) ho.tail h;have hold:∀ t∈v.reads,aW t=env t:=fun t ht=>by
    rw [hs.old t fun i b hi hb=>NL t ht i b hb]
    cases hd:v.dst with
    | none=>rfl
    | some d=>simp only [oZ,upd];rw [if_neg (fun (e:t=d)=>ET d hd (e ▸ ht))]
   have qV:wanted aW v.guard=some false:=by rw [RU hold];exact hw
   refine ⟨fun i=>match i with|0=>H.nx|i+1=>ids i,⟨hs.ext,hs.nx,hs.keep,fun t ht=>?_,fun i hi=>?_,fun i j hi hj lQ Av FZ=>?_,fun i b hi hb=>?_⟩⟩
   .rw [hs.old t fun i b hi hb=>ht (i+1) b (by simp;omega) (by simpa using hb)];have:=ht 0 v (by simp) rfl
    cases hd:v.dst with
    | none=>rfl
    | some d=>simp only [oZ,upd];rw [if_neg (fun e=>this (by rw [hd,e]))]
   .cases i with
    | zero=>exact Nat.le_refl _
    | succ i=>exact hs.K7 i (by simpa using hi)
   .cases i with
    | zero=>obtain ⟨b,o,f,e1,_,e3⟩:=lQ;simp at e1;subst e1;rw [qV] at e3;simp at e3
    | succ i =>
     cases j with
     | zero=>obtain ⟨b,o,f,e1,_,e3⟩:=Av;simp at e1;subst e1;rw [qV] at e3;simp at e3
     | succ j=>rw [hs.IL i j (by simpa using hi) (by simpa using hj) (by simpa using lQ) (by simpa using Av) FZ]
   .cases i with
    | zero =>
     simp at hb;subst hb
     refine .inl ⟨qV,fun d hd=>?_⟩
     rw [hs.old d fun i b hi hb=>K8 d hd i b hb,hd];simp [oZ,upd]
    | succ i =>
     simp only [List.length_cons] at hi;exact hs.each i b (by omega) (by simpa using hb)
  .rename_i hw
   split at h
   .simp at h
   .rename_i e he
    split at h
    .simp at h
    .rename_i aM;have Px:tN e=false:=by
      cases hb:tN e with
      | false=>rfl
      | true=>exact absurd ⟨vG,hb⟩ aM
     obtain ⟨ids,hs⟩:=zf9 cl vs _ _ _ _ (pre - 1) (by omega) ho.tail h;have hold:∀ t∈v.reads,aW t=env t:=fun t ht=>by
      rw [hs.old t fun i b hi hb=>NL t ht i b hb]
      cases hd:v.dst with
      | none=>rfl
      | some d=>simp only [oZ,upd];rw [if_neg (fun (e:t=d)=>ET d hd (e ▸ ht))]
     have qV:wanted aW v.guard=some true:=by rw [RU hold];exact hw
     have Bg:nX H (apply H e).2/\H.nx<=(apply H e).2.nx:=by
      cases e with
      | val av=>exact ⟨zjN,Nat.le_refl _⟩
      | new o f=>exact ⟨znT o,Nat.le_succ _⟩
      | upd av H'=>simp [tN] at Px
     have NM:=znL Bg.1 hs.ext;have xO:∀ id,id < H.nx->(apply H e).2.get id=H.get id:=fun id aB=>by
      cases e with
      | val av=>rfl
      | new o f=>exact Nr (by omega)
      | upd av H'=>simp [tN] at Px
     have F3:step cl aW Hp v.op=some e:=by
      refine zj9 NM Px ?_
      rw [Uy (env':=env) fun t ht=>hold t (by simp [au.reads,ht])];exact he
     have lS:∀ d,v.dst=some d->aW d=(apply H e).1:=fun d hd=>by
      rw [hs.old d fun i b hi hb=>K8 d hd i b hb,hd];simp [oZ,upd]
     refine ⟨fun i=>match i with|0=>H.nx|i+1=>ids i,⟨NM,Nat.le_trans Bg.2 hs.nx,fun id aB=>(hs.keep id (Nat.lt_of_lt_of_le aB Bg.2)).trans (xO id aB),fun t ht=>?_,fun i hi=>?_,fun i j hi hj lQ Av FZ=>?_,fun i b hi hb=>?_⟩⟩
     .rw [hs.old t fun i b hi hb=>ht (i+1) b (by simp;omega) (by simpa using hb)];have:=ht 0 v (by simp) rfl
      cases hd:v.dst with
      | none=>rfl
      | some d=>simp only [oZ,upd];rw [if_neg (fun e=>this (by rw [hd,e]))]
     .cases i with
      | zero=>exact Nat.le_refl _
      | succ i=>exact Nat.le_trans Bg.2 (hs.K7 i (by simpa using hi))
     ·-- a fresh name is not given again
      have first:∀ j,j < vs.length->(∃ b o f,(v::vs)[0]?=some b/\step cl aW Hp b.op=some (.new o f)/\wanted aW b.guard=some true)->H.nx≠ids j:=by
       rintro j hj ⟨b,o,f,e1,e2,_⟩;simp at e1;subst e1;rw [F3] at e2;simp at e2;subst e2;have h1:=hs.K7 j hj;have h2:(apply H (.new o f)).2.nx=H.nx+1:=rfl;omega
      cases i with
      | zero =>
       cases j with
       | zero=>rfl
       | succ j=>exact absurd FZ (first j (by simpa using hj) lQ)
      | succ i =>
       cases j with
       | zero=>exact absurd FZ.symm (first i (by simpa using hi) Av)
       | succ j=>rw [hs.IL i j (by simpa using hi) (by simpa using hj) (by simpa using lQ) (by simpa using Av) FZ]
     .cases i with
      | zero =>
       simp at hb;subst hb
       refine .inr ⟨qV,e,F3,Px,?_⟩
       cases e with
       | val av=>exact lS
       | new o f =>
        refine ⟨Nat.lt_of_lt_of_le (Nat.lt_succ_self _) hs.nx,?_,lS⟩
        have h1:(H.alloc o).get H.nx=o:=O3;have h2:=hs.keep H.nx (Nat.lt_succ_self _);exact h2.trans h1
       | upd av H'=>simp [tN] at Px
      | succ i =>
       simp only [List.length_cons] at hi;exact hs.each i b (by omega) (by simpa using hb)
end
theorem zh6 {p q:Nat->Bool} {i:Nat} (hi:p i=true) (hq:∀ j,q j=if j=i then false else p j):∀ n,i < n->(List.range n).countP p=(List.range n).countP q+1
 | 0,h=>by omega
 | n+1,h=>by
  rw [List.range_succ,List.countP_append,List.countP_append]
  by_cases hn:n=i
  .subst hn;have:(List.range n).countP p=(List.range n).countP q:=by
    apply List.countP_congr;intro j hj;have:j≠n:=by have:=List.mem_range.1 hj;omega
    rw [hq,if_neg this]
   rw [this];simp [hi,hq]
  .rw [zh6 hi hq n (by omega)];have:q n=p n:=by rw [hq,if_neg hn]
   simp only [List.countP_cons,List.countP_nil,this];omega
section
variable {C:jC} {P:Program} {Z:List Nat} {S:Bool->Nat->Prop} {base lo nt:Nat} {φ φ' φ0:jI} {H H':Heap} {w w' w0:World} {env env' aW:Env} {a:Act} {e:Eff} {o:Oper} {Hp:Heap}
variable {ro:Option Nat} {n:Nat} {K:Act->World->Prop} {Q:Exit->Act->World->Prop}
theorem UA {ops:Array Oper}:∀ {l:List Oper} {vs:List au},Dr P Z nt ops l=some vs->vs.length=l.length/\∀ (i:Nat) v,vs[i]?=some v->∃ o,l[i]?=some o/\XG P Z nt ops o=some v
 | [],vs,h=>by simp [Dr] at h;subst h;exact ⟨rfl,fun i v h=>by simp at h⟩
 | o::l,vs,h=>by
  unfold Dr at h
  split at h
  .simp at h
  .rename_i v hv
   split at h
   .simp at h
   .rename_i vs' p9;simp at h;subst h;have ih:=UA p9
    refine ⟨by simp [ih.1],fun i u hu=>?_⟩
    cases i with
    | zero=>simp at hu;subst hu;exact ⟨o,rfl,hv⟩
    | succ i=>simp at hu;simpa using ih.2 i u hu
inductive lC (ops:Array Oper):Nat->Nat->Prop
 | edge (i:Nat) (o:Oper) (e:Edge) (h:ops[i]?=some o) (he:e∈o.after) (hb:Region.binds .any e=true):lC ops i e.on
 | trans (i j:Nat) (o:Oper) (e:Edge) (h:ops[i]?=some o) (he:e∈o.after) (hb:Region.binds .any e=true) (ht:lC ops e.on j):lC ops i j
theorem lC.done {ops:Array Oper} {L:Array Bool} (hc:∀ i o,ops[i]?=some o->L.getD i true=true->∀ e∈o.after,Region.binds .any e=true->L.getD e.on true=true)
  {i j:Nat} (h:lC ops i j):(∀ o,ops[i]?=some o->∀ e∈o.after,Region.binds .any e=true->L.getD e.on true=true)->L.getD j true=true:=by
 induction h with
 | edge i o e h he hb=>intro hd;exact hd o h e he hb
 | trans i j o e h he hb ht ih=>intro hd;exact ih fun o' E9=>hc _ o' E9 (hd o h e he hb)
theorem zmD {ops:Array Oper} {ms:List Nat} (CV:∀ i j,(ms.getD i 0).testBit j=true->lC ops i j) {i:Nat} {o:Oper} (ho:ops[i]?=some o) {j:Nat} (h:(zr3 ms o).testBit j=true):lC ops i j:=by
 have main:∀ (l:List Edge) (m:Nat),(∀ e∈l,e∈o.after)->(m.testBit j=true->lC ops i j) ->
   (l.foldl (fun m e=>if Region.binds .any e then m ||| (2 ^ e.on) ||| ms.getD e.on 0 else m) m).testBit j=true->lC ops i j:=by
  intro l
  induction l with
  | nil=>intro m _ hm h;exact hm h
  | cons e l ih =>
   intro m hl hm h
   refine ih _ (fun e' F3=>hl e' (List.mem_cons_of_mem _ F3)) (fun hb=>?_) h
   simp only at hb
   split at hb
   .rename_i hbi;rw [Nat.testBit_or,Nat.testBit_or,Bool.or_eq_true,Bool.or_eq_true] at hb;rcases hb with (hb|hb)|hb
    .exact hm hb
    .rw [Nat.testBit_two_pow] at hb;simp at hb;subst hb;exact .edge i o e ho (hl e (List.mem_cons_self ..)) hbi
    .exact .trans i j o e ho (hl e (List.mem_cons_self ..)) hbi (CV _ _ hb)
   .exact hm hb
 exact main o.after.toList 0 (fun e he=>by simpa using he) (fun h=>by simp at h) h
theorem UB {ops:Array Oper}:∀ (os:List Oper) (ms:List Nat),(∀ k,os[k]?=ops[ms.length+k]?)->(∀ i j,(ms.getD i 0).testBit j=true->lC ops i j) ->
  ∀ i j,((masks os ms).getD i 0).testBit j=true->lC ops i j
 | [],ms,_,CV=>CV
 | o::os,ms,ho,CV=>by
  unfold masks
  refine UB os _ (fun k=>?_) fun i j h=>?_
  .have:=ho (k+1);simp only [List.getElem?_cons_succ] at this;rw [this];simp only [List.length_append,List.length_cons,List.length_nil]
   congr 1
   omega
  .have h0:=ho 0;simp only [List.getElem?_cons_zero,Nat.add_zero] at h0;rcases Nat.lt_trichotomy i ms.length with aK|heq|hgt
   .refine CV i j ?_
    simpa [List.getD_eq_getElem?_getD,List.getElem?_append_left aK] using h
   .subst heq
    refine zmD CV h0.symm ?_
    simpa [List.getD_eq_getElem?_getD] using h
   .rw [List.getD_eq_getElem?_getD,List.getElem?_eq_none (by simp;omega)] at h;simp at h
structure DL (ops:Array Oper) (vs:List au) (pre:Nat):Prop where
 back:∀ i o,ops[i]?=some o->∀ e∈o.after,Region.binds .any e=true->e.on < i
 wait:∀ i o,ops[i]?=some o->pre+inits vs pre<=i->∀ j,j < i->EU vs j=false->lC ops i j
 X3:∀ i,pre<=i->i < pre+inits vs pre->i < ops.size/\∃ s a x,vs[i]?=some ⟨none,.bB s (.tmp a) x,none⟩ /\
  ∀ o,ops[i]?=some o->∀ (j:Nat) (y:au) d,j < pre->vs[j]?=some y->y.dst=some d->d∈au.reads ⟨none,.bB s (.tmp a) x,none⟩->∃ e∈o.after,Region.binds .any e=true/\e.on=j
 idle:∀ (i:Nat) v,vs[i]?=some v->wS v=true->i < pre/\v.guard=none/\∃ d,v.dst=some d/\∀ (j:Nat) b,pre<=j->vs[j]?=some b->b.dst≠some d/\(∀ t∈v.op.reads,b.dst≠some t)/\(d∈b.plain.reads->lC ops j i)
 mem:∀ (i j:Nat) (v b:au) (x:ag),vs[i]?=some v->Nz v=some x->pre<=j->vs[j]?=some b->TZ b=true\/XI b x=true\/lC ops j i
 once:∀ (i j:Nat) (x y:au) o,i < pre->j < pre->vs[i]?=some x->vs[j]?=some y->ops[i]?=some o->∀ d,y.dst=some d->(i≠j->x.dst≠some d)/\(d∈x.reads->j < i/\∃ e∈o.after,Region.binds .any e=true/\e.on=j)
theorem zgG {α:Type} {p:α->Bool}:∀ {l:List α} {i:Nat},i < (l.takeWhile p).length->∃ a,l[i]?=some a/\p a=true
 | [],i,h=>by simp at h
 | b::l,i,h=>by
  rw [List.takeWhile_cons] at h
  split at h
  .rename_i hb
   cases i with
   | zero=>exact ⟨b,rfl,hb⟩
   | succ i=>simpa using zgG (l:=l) (i:=i) (by simpa using h)
  .simp at h
theorem zmJ {ops:Array Oper} {vs:List au} {pre:Nat} (vD:vs.length=ops.size) (h:J3 ops vs pre=true):DL ops vs pre:=by
 unfold J3 at h;simp only [Bool.and_eq_true,List.all_eq_true,List.mem_range] at h;obtain ⟨⟨⟨⟨⟨⟨h1,h2⟩,h6⟩,h8⟩,h7⟩,h4⟩,h3⟩:=h;have bq:∀ i o,ops[i]?=some o->i < ops.size/\ops.getD i default=o:=fun i o ho=>by
  have aK:=(Array.getElem?_eq_some_iff.1 ho).1
  refine ⟨aK,?_⟩
  have:=(Array.getElem?_eq_some_iff.1 ho).2;simp [aK,this]
 have hmf:∀ (o:Oper) j,XH o j=true->∃ e∈o.after,Region.binds .any e=true/\e.on=j:=fun o j hm=>by
  unfold XH at hm;rw [Array.any_eq_true'] at hm;obtain ⟨e,he,hb⟩:=hm;simp at hb;exact ⟨e,he,hb.2,hb.1⟩
 refine ⟨fun i o ho e he hb=>?_,fun i o ho hpi j hj l5=>?_,fun i hpi hpi2=>?_,fun i v hv l5=>?_,fun i j v b x hv hm hj hb=>?_,fun i j x y o hi hj hx hy ho d hd=>?_⟩
 .obtain ⟨aK,hg⟩:=bq i o ho;have:=h1 i aK;rw [hg,Array.all_eq_true'] at this;have:=this e he;simp [hb] at this;exact this
 .obtain ⟨aK,hg⟩:=bq i o ho;have:=h2 i aK;simp only [Bool.or_eq_true,decide_eq_true_eq] at this;rcases this with h|h
  .omega
  .refine UB (ops:=ops) ops.toList [] (fun k=>by simp) (fun i j h=>by simp at h) i j ?_
   unfold ZV at h;have:=List.all_eq_true.1 h j (List.mem_range.2 hj);rw [l5,Bool.or_false] at this;exact this
 .have hx:i - pre < ((vs.drop pre).takeWhile RA).length:=by unfold inits at hpi2;omega
  obtain ⟨v,hv,iZ⟩:=zgG hx;rw [List.getElem?_drop,show pre+(i - pre)=i by omega] at hv;unfold RA at iZ
  split at iZ
  .rename_i s a x;have iG:i < ops.size:=by
    rcases Nat.lt_or_ge i ops.size with h|h
    .exact h
    .exfalso;have:=vD;have:=(List.getElem?_eq_some_iff.1 hv).1;omega
   refine ⟨iG,s,a,x,hv,?_⟩
   have:=h6 i iG;simp only [Bool.or_eq_true,decide_eq_true_eq] at this;rcases this with (h|h)|h
   .omega
   .omega
   .unfold zrZ at h;rw [hv] at h;simp only [List.all_eq_true,List.mem_range] at h;have h9:=h
    refine fun o ho j y d hj hy hd hm=>?_
    have:=h9 j hj;rw [hy] at this;simp only [hd] at this;rw [(bq i o ho).2] at this;simp only [Bool.or_eq_true,Bool.not_eq_true',List.contains_eq_mem,decide_eq_false_iff_not] at this;rcases this with h|h
    .exact absurd hm h
    .exact hmf o j h
  .simp at iZ
 .have aK:i < vs.length:=(List.getElem?_eq_some_iff.1 hv).1;have:=h4 i aK;rw [hv] at this;simp only [l5,Bool.not_true,Bool.false_or,Bool.and_eq_true,decide_eq_true_eq] at this
  refine ⟨this.1,?_⟩
  have h5:=this.2;unfold zrU at h5
  split at h5
  .rename_i d hd NN
   refine ⟨NN,d,hd,fun j b hj hb=>?_⟩
   have iX:j < vs.length:=(List.getElem?_eq_some_iff.1 hb).1;have:=List.all_eq_true.1 h5 j (List.mem_range.2 iX);rw [hb] at this;simp only [Bool.or_eq_true,decide_eq_true_eq,Bool.and_eq_true,bne_iff_ne,ne_eq,List.all_eq_true,Bool.not_eq_true',List.contains_eq_mem,decide_eq_false_iff_not] at this;rcases this with h|h
   .omega
   .refine ⟨h.1.1,h.1.2,fun hm=>?_⟩
    rcases h.2 with h6|h6
    .exact absurd hm h6
    .exact UB (ops:=ops) ops.toList [] (fun k=>by simp) (fun i j h=>by simp at h) j i h6
  .simp at h5
 .have aT:i < vs.length:=(List.getElem?_eq_some_iff.1 hv).1;have iX:j < vs.length:=(List.getElem?_eq_some_iff.1 hb).1;have h9:=h8 i aT;rw [hv] at h9;simp only [hm,List.all_eq_true,List.mem_range] at h9;have h10:=h9 j iX;rw [hb] at h10;simp only [Bool.or_eq_true,decide_eq_true_eq] at h10;rcases h10 with h|(h|h)|h
  .omega
  .exact .inl h
  .exact .inr (.inl h)
  .exact .inr (.inr (UB (ops:=ops) ops.toList [] (fun k=>by simp) (fun i j h=>by simp at h) j i h))
 .obtain ⟨aK,hg⟩:=bq i o ho;have:=h3 i hi j hj;rw [hx,hy] at this;simp only [hd] at this;rw [hg] at this;simp at this
  refine ⟨fun FZ=>?_,fun hm=>?_⟩
  .rcases this.1 with h|h
   .exact absurd h FZ
   .exact h
  .rcases this.2 with h|h
   .exact absurd hm h
   .exact ⟨h.1,hmf o j h.2⟩
theorem zhe {ops:Array Oper} {vs:List au} {pre:Nat} (h:J3 ops vs pre=true):pre<=ops.size:=by
 unfold J3 at h;simp only [Bool.and_eq_true,decide_eq_true_eq] at h;exact h.1.1.2
theorem aU.ext' (h:aU C S base φ H w) (hk:∀ id,id < H.nx->Hp.get id=H.get id) (bU:H.nx<=Hp.nx):fT φ H w φ Hp w/\aU C S base φ Hp w:=by
 have bq:∀ id x,φ id=some x->Hp.get id=H.get id:=fun id x hx=>hk id (h.nx _ _ hx);have mH:fT φ H w φ Hp w:=⟨fun _ _ h=>h,rfl,rfl,rfl,Nat.le_refl _,fun _ _ _=>rfl,fun b _ ⟨id,m,aB,hl⟩=>⟨id,m,aB,by rw [<- bq _ _ aB];exact hl⟩,bU⟩
 refine ⟨mH,h.sz,h.out,fun id x hx=>Nat.lt_of_lt_of_le (h.nx _ _ hx) bU,h.lt,fun id b m aB=>?_,fun i j b m m' hi hj di dj=>h.inj _ _ _ _ _ hi hj (by rw [<- bq _ _ hi];exact di) (by rw [<- bq _ _ hj];exact dj)⟩
 rw [bq _ _ aB];exact (h.obj _ _ _ aB).mono (fun _ b hb=>mH.EP hb) (fun _ _ h=>h) rfl
def X4 (cl:Callee) (vs:List au) (aW:Env) (Hp:Heap) (i:Nat):Prop:=∃ v o f,vs[i]?=some v/\step cl aW Hp v.op=some (.new o f)/\wanted aW v.guard=some true
structure Py (ops:Array Oper) (C:jC) (S:Bool->Nat->Prop) (base lo nt:Nat) (cl:Callee) (vs:List au) (pre:Nat) (aW:Env) (Hp:Heap) (hc:Array Bool->Heap) (ids:Nat->Nat) (φ0:jI) (H:Heap) (w0:World) (L:Array Bool) (φ:jI) (a:Act) (w:World):Prop where
 heap:aU C S base φ (hc L) w
 env:∀ t,(∀ (i:Nat) v,i < pre->L.getD i true=false->vs[i]?=some v->v.dst≠some t)->aL (aY S base φ (hc L) w) φ w (aW t) (a.tmps.getD t undef)
 size:a.tmps.size=nt
 wU:lo<=w.heap.size
 defs:∃ marks:List Nat,a.defers=marks.map IK/\marks.Nodup/\∀ r∈marks,lo<=r/\w.heap[r]?=some (.deferred (some []))
 phi:∀ i,i < pre->L.getD i true=false->X4 cl vs aW Hp i->φ (ids i)=none
 closed:∀ i o,ops[i]?=some o->L.getD i true=true->∀ e∈o.after,Region.binds .any e=true->L.getD e.on true=true
 evo:fT φ0 H w0 φ (hc L) w
theorem zeN {L:Array Bool} {i j:Nat} (d:Bool):(L.setIfInBounds i true).getD j d=if i=j/\j < L.size then true else L.getD j d:=by
 by_cases h:i=j
 .subst h
  by_cases hl:i < L.size
  .simp [hl]
  .simp [hl]
 .simp [h]
structure xP (cl:Callee) (vs:List au) (pre k:Nat) (aW:Env) (Hp:Heap) (tgt:Nat->Nat) (obj:Nat->aP):Prop where
 each:∀ i,pre<=i->i < pre+k->∀ s a x,vs[i]?=some ⟨none,.bB s (.tmp a) x,none⟩->∃ off z,aW a=.box (tgt i) off/\Hp.get (tgt i)=.raw z/\∀ Hq,Hq.get (tgt i)=.raw z->step cl aW Hq (.bB s (.tmp a) x)=some (.upd (.aQ []) (Hq.set (tgt i) (obj i)))
 inj:∀ i j,pre<=i->i < pre+k->pre<=j->j < pre+k->tgt i=tgt j->i=j
 cells:∀ i,pre<=i->i < pre+k->(∃ cs,obj i=.cells true cs)/\∃ z,Hp.get (tgt i)=.raw z
theorem znU {cl:Callee} {s:Nat} {x y:ag} (h:step cl env H (.bB s x y)=some e):∃ id off z cs,x.eval env=.box id off/\H.get id=.raw z/\(∀ H2,H2.get id=.raw z->step cl env H2 (.bB s x y)=some (.upd (.aQ []) (H2.set id (.cells true cs))))/\e=.upd (.aQ []) (H.set id (.cells true cs)):=by
 simp only [step] at h
 split at h
 .rename_i id off h1
  split at h
  .rename_i z h2
   split at h
   .rename_i h3;simp only [Option.some.injEq] at h;exact ⟨id,off,z,_,h1,h2,fun H2 h4=>by simp only [step,h1,h4];rw [if_pos h3],h.symm⟩
   .simp at h
  .simp at h
 .simp at h
noncomputable def iL (Hp:Heap) (pre k:Nat) (tgt:Nat->Nat) (obj:Nat->aP) (L:Array Bool):Heap :=
 ⟨Hp.nx,fun id=>open Classical in if h:∃ i,pre<=i/\i < pre+k/\L.getD i true=true/\tgt i=id then obj (Classical.choose h) else Hp.arr id⟩
section
variable {cl:Callee} {vs:List au} {pre k:Nat} {tgt:Nat->Nat} {obj:Nat->aP} {L:Array Bool}
theorem zhd {id:Nat} (h:∀ i,pre<=i->i < pre+k->L.getD i true=true->tgt i≠id):(iL Hp pre k tgt obj L).get id=Hp.get id:=by
 unfold Heap.get iL;simp only;rw [dif_neg (by rintro ⟨i,h1,h2,h3,h4⟩;exact h i h1 h2 h3 h4)]
theorem RV (hi:xP cl vs pre k aW Hp tgt obj) {i:Nat} (h1:pre<=i) (h2:i < pre+k) (h3:L.getD i true=true):(iL Hp pre k tgt obj L).arr (tgt i)=obj i:=by
 unfold iL;simp only;have h:∃ j,pre<=j/\j < pre+k/\L.getD j true=true/\tgt j=tgt i:=⟨i,h1,h2,h3,rfl⟩
 rw [dif_pos h];obtain ⟨q1,q2,q3,q4⟩:=Classical.choose_spec h;rw [hi.inj _ _ q1 q2 h1 h2 q4]
theorem RX {id:Nat} (h:∀ i,pre<=i->i < pre+k->L.getD i true=true->tgt i≠id):(iL Hp pre k tgt obj L).arr id=Hp.arr id:=by
 unfold iL;simp only;rw [dif_neg (by rintro ⟨i,h1,h2,h3,h4⟩;exact h i h1 h2 h3 h4)]
theorem zn2 {L':Array Bool} (hi:xP cl vs pre k aW Hp tgt obj) (h:∀ i,pre<=i->i < pre+k->L'.getD i true=L.getD i true):iL Hp pre k tgt obj L'=iL Hp pre k tgt obj L:=by
 refine Heap.ext' rfl fun id=>?_
 by_cases hx:∃ i,pre<=i/\i < pre+k/\L.getD i true=true/\tgt i=id
 .obtain ⟨i,h1,h2,h3,rfl⟩:=hx;rw [RV hi h1 h2 h3,RV hi h1 h2 (by rw [h i h1 h2];exact h3)]
 .rw [RX (fun i h1 h2 h3 h4=>hx ⟨i,h1,h2,h3,h4⟩),RX (fun i h1 h2 h3 h4=>hx ⟨i,h1,h2,by rw [<- h i h1 h2];exact h3,h4⟩)]
theorem zqG (hi:xP cl vs pre k aW Hp tgt obj) {i:Nat} (h1:pre<=i) (h2:i < pre+k) (hL:i < L.size):(iL Hp pre k tgt obj L).set (tgt i) (obj i)=iL Hp pre k tgt obj (L.setIfInBounds i true):=by
 refine Heap.ext' rfl fun id=>?_
 show upd _ _ _ id=_;simp only [upd]
 split
 .rename_i he;subst he;rw [RV hi h1 h2 (by rw [zeN,if_pos ⟨rfl,hL⟩])]
 .rename_i bC
  by_cases hx:∃ j,pre<=j/\j < pre+k/\L.getD j true=true/\tgt j=id
  .obtain ⟨j,q1,q2,q3,rfl⟩:=hx;have q5:(L.setIfInBounds i true).getD j true=true:=by
    rw [zeN]
    split
    .rfl
    .exact q3
   rw [RV hi q1 q2 q3,RV hi q1 q2 q5]
  .rw [RX (fun j q1 q2 q3 q4=>hx ⟨j,q1,q2,q3,q4⟩),RX (fun j q1 q2 q3 q4=>?_)];rw [zeN] at q3
   split at q3
   .rename_i hh;obtain ⟨rfl,_⟩:=hh;exact bC q4.symm
   .exact hx ⟨j,q1,q2,q3,q4⟩
theorem zmM (hi:xP cl vs pre k aW Hp tgt obj):nX Hp (iL Hp pre k tgt obj L):=fun id _ hr=>zhd fun i h1 h2 _ he=>by
 obtain ⟨_,z,hz⟩:=hi.cells i h1 h2;rw [he] at hz;exact hr z hz
theorem zkU (vD:∀ i,pre<=i->i < pre+k->∃ s a x,vs[i]?=some ⟨none,.bB s (.tmp a) x,none⟩) {r:Env×Heap} (hr:lY cl 0 (vs.drop pre) aW Hp=some r) :
  ∃ tgt obj HI,xP cl vs pre k aW Hp tgt obj/\HI.nx=Hp.nx/\(∀ id,(∀ i,pre<=i->i < pre+k->tgt i≠id)->HI.arr id=Hp.arr id)/\(∀ i,pre<=i->i < pre+k->HI.arr (tgt i)=obj i)/\lY cl 0 (vs.drop (pre+k)) aW HI=some r:=by
 induction k with
 | zero=>exact ⟨fun _=>0,fun _=>.dead,Hp,⟨fun i h1 h2=>by omega,fun i j h1 h2=>by omega,fun i h1 h2=>by omega⟩,rfl,fun _ _=>rfl,fun i h1 h2=>by omega,hr⟩
 | succ k ih =>
  obtain ⟨tgt,obj,HI,hi,hn,ha,hb,bO⟩:=ih fun i h1 h2=>vD i h1 (by omega);obtain ⟨s,a,x,hv⟩:=vD (pre+k) (by omega) (by omega);have hd:vs.drop (pre+k)=⟨none,.bB s (.tmp a) x,none⟩::vs.drop (pre+(k+1)):=by
   have aK:=(List.getElem?_eq_some_iff.1 hv)
   rw [List.drop_eq_getElem_cons aK.1,aK.2];rfl
  rw [hd] at bO;simp only [lY,wanted,oZ] at bO
  split at bO
  .simp at bO
  .rename_i ee hs;obtain ⟨id,off,z,cs,q1,q2,q3,rfl⟩:=znU hs;simp only [tN,apply] at bO;rw [if_neg (by simp)] at bO;have aK:id < HI.nx:=TQ (by rw [q2];simp);have mQ:HI.arr id=.raw z:=by unfold Heap.get at q2;rw [if_pos aK] at q2;exact q2
   have yL:∀ i,pre<=i->i < pre+k->tgt i≠id:=fun i h1 h2 he=>by
    have:=hb i h1 h2;rw [he,mQ] at this;obtain ⟨⟨cs',vB⟩,_⟩:=hi.cells i h1 h2;rw [vB] at this;simp at this
   have hHp:Hp.get id=.raw z:=by
    unfold Heap.get;rw [if_pos (by omega),<- ha id yL];exact mQ
   have t1:∀ i,i < pre+k->upd tgt (pre+k) id i=tgt i:=fun i h=>by simp only [upd];rw [if_neg (by omega)]
   have t2:upd tgt (pre+k) id (pre+k)=id:=by simp [upd]
   have o1:∀ i,i < pre+k->upd obj (pre+k) (.cells true cs) i=obj i:=fun i h=>by simp only [upd];rw [if_neg (by omega)]
   have o2:upd obj (pre+k) (.cells true cs) (pre+k)=.cells true cs:=by simp [upd]
   refine ⟨upd tgt (pre+k) id,upd obj (pre+k) (.cells true cs),HI.set id (.cells true cs),⟨fun i h1 h2 s' a' x' qQ=>?_,fun i j h1 h2 h3 h4 he=>?_,fun i h1 h2=>?_⟩,hn,fun id2 h=>?_,fun i h1 h2=>?_,bO⟩
   .rcases Nat.lt_or_ge i (pre+k) with h|h
    .rw [t1 i h,o1 i h];exact hi.each i h1 h s' a' x' qQ
    .have:i=pre+k:=by omega
     subst this;rw [hv] at qQ;simp only [Option.some.injEq,au.mk.injEq,mG.bB.injEq,ag.tmp.injEq,true_and,and_true] at qQ;obtain ⟨rfl,rfl,rfl⟩:=qQ;rw [t2,o2];exact ⟨off,z,q1,hHp,q3⟩
   .rcases Nat.lt_or_ge i (pre+k) with h|h<;>rcases Nat.lt_or_ge j (pre+k) with h'|h'
    .rw [t1 i h,t1 j h'] at he;exact hi.inj i j h1 h h3 h' he
    .rw [t1 i h,show j=pre+k by omega,t2] at he;exact absurd he (yL i h1 h)
    .rw [t1 j h',show i=pre+k by omega,t2] at he;exact absurd he.symm (yL j h3 h')
    .omega
   .rcases Nat.lt_or_ge i (pre+k) with h|h
    .rw [t1 i h,o1 i h];exact hi.cells i h1 h
    .rw [show i=pre+k by omega,t2,o2];exact ⟨⟨cs,rfl⟩,z,hHp⟩
   .have bC:=h (pre+k) (by omega) (by omega);rw [t2] at bC;show upd _ _ _ id2=_;simp only [upd];rw [if_neg (fun e=>bC e.symm)];exact ha id2 fun i h1 h2=>by have:=h i h1 (by omega);rwa [t1 i h2] at this
   .show upd _ _ _ _=_;rcases Nat.lt_or_ge i (pre+k) with h|h
    .rw [t1 i h,o1 i h];simp only [upd];rw [if_neg (yL i h1 h)];exact hb i h1 h
    .rw [show i=pre+k by omega,t2,o2];simp [upd]
theorem zjy {P:Program} {Z:List Nat} {o:Oper} {s:Nat} {x y:ag} (h:mG.bB s x y=GV Z none ((zN P Z o).getD .stuck)):.store s x y=(zN P Z o).getD .stuck:=by
 unfold GV at h;simp only at h
 split at h
 .rename_i s' t x' hx
  split at h
  .simp only [mG.bB.injEq] at h;obtain ⟨rfl,rfl,rfl⟩:=h;exact hx.symm
  .split at h<;>simp at h
 .exfalso
  cases hc:zN P Z o with
  | none=>rw [hc] at h;simp at h
  | some v =>
   rw [hc] at h;simp only [Option.getD_some] at h;subst h;unfold zN at hc
   revert hc
   (repeat' split)<;>simp
end
theorem zV {L:Array Bool} {i j:Nat} (d:Bool):(L.setIfInBounds i true).getD j d=if i=j/\j < L.size then true else L.getD j d:=by
 by_cases h:i=j
 .subst h
  by_cases hl:i < L.size
  .simp [hl]
  .simp [hl]
 .simp [h]
theorem zix {ops:Array Oper} {L:Array Bool} (hL:L.size=ops.size) (IM:∀ i o,ops[i]?=some o->∀ e∈o.after,Region.binds .any e=true->e.on < i)
  (hex:∃ i,i < ops.size/\L.getD i true=false):Region.ready .any ops L≠[]:=by
 have key:∀ k,(∃ i,i < k/\L.getD i true=false/\i < ops.size)->∃ i,L.getD i true=false/\i < ops.size/\∀ j,j < i->L.getD j true=true:=by
  intro k
  induction k with
  | zero=>rintro ⟨i,hi,_⟩;omega
  | succ k ihk =>
   rintro ⟨i,hi,hl,hs⟩
   by_cases IP:∃ i,i < k/\L.getD i true=false/\i < ops.size
   .exact ihk IP
   .refine ⟨i,hl,hs,fun j hj=>?_⟩
    cases iX:L.getD j true with
    | true=>rfl
    | false=>exact absurd ⟨j,by omega,iX,by omega⟩ IP
 obtain ⟨i0,NP,GY⟩:=hex;obtain ⟨i,hl,hs,hmin⟩:=key (i0+1) ⟨i0,by omega,GY,by omega⟩;intro IG;have hg:ops[i]?=some ops[i]:=Array.getElem?_eq_getElem hs;have:i∈Region.ready .any ops L:=mem_ready.2 ⟨hl,_,hg,fun e he hb=>by
  have aK:=IM i _ hg e he hb;have:=hmin e.on aK;simp [hL,show e.on < ops.size by omega] at this ⊢;exact this⟩
 rw [IG] at this
 cases this
abbrev Closed (ops:Array Oper) (L:Array Bool):Prop:=∀ i o,ops[i]?=some o->L.getD i true=true->∀ e∈o.after,Region.binds .any e=true->L.getD e.on true=true
theorem RY {ops:Array Oper} {L:Array Bool} (hL:L.size=ops.size) (IM:∀ i o,ops[i]?=some o->∀ e∈o.after,Region.binds .any e=true->e.on < i) {i:Nat} (hi:i∈Region.ready .any ops L) :
  L.getD i true=false/\i < ops.size/\∀ o,ops[i]?=some o->∀ e∈o.after,Region.binds .any e=true->L.getD e.on true=true:=by
 obtain ⟨hu,oi,ho,fe⟩:=mem_ready.1 hi;have bV:i < ops.size:=(Array.getElem?_eq_some_iff.1 ho).1
 refine ⟨hu,bV,fun o E9 e he hb=>?_⟩
 rw [ho] at E9;simp only [Option.some.injEq] at E9;subst E9;have tQ:=IM i _ ho e he hb;have:=fe e he hb;simp [hL,show e.on < ops.size by omega] at this ⊢;exact this
theorem zf4 {ops:Array Oper} {L:Array Bool} (hL:L.size=ops.size) (hc:Closed ops L) {i:Nat} (hi:∀ o,ops[i]?=some o->∀ e∈o.after,Region.binds .any e=true->L.getD e.on true=true):Closed ops (L.setIfInBounds i true):=by
 intro i1 o1 hq hd e he hb;rw [zV]
 split
 .rfl
 .by_cases rO:i1=i
  .subst rO;exact hi o1 hq e he hb
  .rw [zV,if_neg (fun h=>rO h.1.symm)] at hd;exact hc i1 o1 hq hd e he hb
theorem zgT {ops:Array Oper} {L:Array Bool} (hL:L.size=ops.size) {i m:Nat} (hi:i < ops.size) (hu:L.getD i true=false) (hm:m+1=(List.range ops.size).countP (fun i=>!L.getD i true)) :
  m=(List.range ops.size).countP (fun j=>!(L.setIfInBounds i true).getD j true):=by
 have:=zh6 (p:=fun j=>!L.getD j true) (q:=fun j=>!(L.setIfInBounds i true).getD j true) (i:=i) (by simp only [hu];rfl) (fun j=>by
  simp only [zV]
  by_cases hj:j=i
  .subst hj;simp [hL,hi]
  .rw [if_neg hj,if_neg (fun h=>hj h.1.symm)]) ops.size hi
 omega
def j4 (H H2:Heap):Prop:=∀ id own cs,H.get id=.cells own cs->H2.get id=.cells own cs
theorem nX.same {H2:Heap} (h:nX H H2):j4 H H2:=fun _ _ _ hg=>h.cells hg
theorem zqD {cl:Callee} {v:au} (hv:TZ v=true) (h:step cl env H v.op=some e):j4 H (apply H e).2:=by
 obtain ⟨dst,op,guard⟩:=v
 cases op<;>simp only [TZ] at hv<;>first|contradiction|skip
 simp only [step] at h
 split at h
 .rename_i id key x e1 e2 e3
  split at h
  .rename_i es hg
   split at h
   .simp only [Option.some.injEq] at h;subst h;intro i own cs hi;have bC:i≠id:=fun he=>by subst he;rw [hg] at hi;simp at hi
    show Heap.get (Heap.set _ _ _) _=_;unfold Heap.get Heap.set at *;simp only [upd];rw [if_neg bC];exact hi
   .simp at h
  .simp at h
 .simp at h
theorem zjq {H2:Heap} (h:j4 H H2) {s:Nat} {v:AV} {cs:List AV} (hl:qX H s v=some cs):qX H2 s v=some cs:=by
 unfold qX at hl ⊢
 split at hl
 .exact hl
 .split at hl
  .rename_i hg;rw [h _ _ _ hg];exact hl
  .simp at hl
 .simp at hl
def RZ (v:au) (env:Env) (H H2:Heap):Prop:=∀ x,Nz v=some x->∀ s cs,qX H s (x.eval env)=some cs->qX H2 s (x.eval env)=some cs
theorem zh0 {v:au}:RZ v env H H:=fun _ _ _ _ h=>h
theorem j4.reads {v:au} {H2:Heap} (h:j4 H H2):RZ v env H H2:=fun _ _ _ _ hl=>zjq h hl
theorem ziC:∀ {p q:PV},p.jl q=true->p=q
 | .int k a,.int k' b,h=>by simp [PV.jl] at h;rw [h.1,h.2]
 | .bool a,.bool b,h=>by simp [PV.jl] at h;rw [h]
 | .str _,_,h|.agg _,_,h|.aQ _,_,h|.nils,_,h|.slice _ _ _,_,h|.l8,_,h|.ptr _ _ _,_,h|.func _ _,_,h|.l9,_,h|.lN _ _,_,h=>by simp [PV.jl] at h
 | .int _ _,.bool _,h|.int _ _,.str _,h|.int _ _,.agg _,h|.int _ _,.aQ _,h|.int _ _,.nils,h|.int _ _,.slice _ _ _,h|.int _ _,.l8,h|.int _ _,.ptr _ _ _,h|.int _ _,.func _ _,h|.int _ _,.l9,h|.int _ _,.lN _ _,h=>by simp [PV.jl] at h
 | .bool _,.int _ _,h|.bool _,.str _,h|.bool _,.agg _,h|.bool _,.aQ _,h|.bool _,.nils,h|.bool _,.slice _ _ _,h|.bool _,.l8,h|.bool _,.ptr _ _ _,h|.bool _,.func _ _,h|.bool _,.l9,h|.bool _,.lN _ _,h=>by simp [PV.jl] at h
theorem UC {α:Type} {f:α->α->Bool} (hf:∀ a b,f a b=true->a=b):∀ {l m:List α},all2 f l m=true->l=m
 | [],[],_=>rfl
 | a::l,[],h=>by simp [all2] at h
 | [],b::m,h=>by simp [all2] at h
 | a::l,b::m,h=>by
  simp only [all2,Bool.and_eq_true] at h;rw [hf a b h.1,UC hf h.2]
theorem zi8:∀ (n:Nat) (p q:PV),PV.jm n p q=true->p=q
 | 0,_,_,h=>by simp [PV.jm] at h
 | n+1,p,q,h=>by
  unfold PV.jm at h
  split at h
  .split at h
   .simp only [Bool.and_eq_true,beq_iff_eq] at h;rw [h.1.1,h.1.2,UC (fun _ _ h=>UC (zi8 n) h) h.2]
   .simp at h
  .split at h
   .simp only [Bool.and_eq_true,beq_iff_eq] at h;rw [h.1.1,h.1.2,UC (zi8 n) h.2]
   .simp at h
  .split at h
   .rfl
   .simp at h
  .exact ziC h
theorem zos (a b:AV) (h:AV.lX a b=true):a=b:=by
 unfold AV.lX at h
 split at h
 .rw [zi8 _ _ _ h]
 .simp only [Bool.and_eq_true,beq_iff_eq] at h;rw [h.1,h.2]
 .simp at h
theorem zeG:∀ {l m:List AV},FR l m=true->l=m
 | [],[],_=>rfl
 | a::l,[],h=>by cases a<;>simp [FR] at h
 | [],b::m,h=>by simp [FR] at h
 | a::l,b::m,h=>by
  cases a<;>cases b<;>first|(simp [FR] at h;done)|skip
  .simp only [FR,Bool.and_eq_true] at h;rw [ziC h.1,zeG h.2]
  .simp only [FR,Bool.and_eq_true,beq_iff_eq] at h;rw [h.1.1,UC zos h.1.2,zeG h.2]
theorem zm3 {cl:Callee} {b v:au} (hb:∀ x,Nz v=some x->XI b x=true) (h:step cl env H b.op=some e):RZ v env H (apply H e).2:=by
 intro x hx s cs hl;have h1:=hb x hx;obtain ⟨dst,op,guard⟩:=b;unfold XI at h1;simp only at h1 h
 split at h1
 .rename_i sz a y ls;rw [List.any_eq_true] at h1;obtain ⟨l,K9,h2⟩:=h1;have CU:l=x:=by
   unfold ZU at h2
   split at h2
   .simp only [beq_iff_eq] at h2;rw [h2]
   .simp at h2
  subst CU;simp only [step] at h
  split at h
  .rename_i id off ha
   split at h
   .rename_i fe
    split at h
    .rename_i cs0 hg
     split at h
     .simp only [Option.some.injEq] at h;subst h;have hbe:=List.all_eq_true.1 fe l K9;unfold qX at hl ⊢
      split at hl
      .exact hl
      .rename_i i2 o2 hv;rw [hv] at hbe;simp only [beside,bne_iff_ne,ne_eq] at hbe;have e:(Heap.set H id (.cells true (cs0.take off++(y.eval env).cells++cs0.drop (off+sz)))).get i2=H.get i2:=by
        unfold Heap.get Heap.set;simp only [upd];rw [if_neg hbe]
       simp only [apply];rw [e];exact hl
      .simp at hl
     .simp at h
    .simp at h
   .simp at h
  .simp at h
 .rename_i f xs ls;rw [List.any_eq_true] at h1;obtain ⟨l,K9,h2⟩:=h1;have CU:l=x:=by
   unfold ZU at h2
   split at h2
   .simp only [beq_iff_eq] at h2;rw [h2]
   .simp at h2
  subst CU;simp only [step] at h
  split at h
  .rename_i v H2 hd
   split at h
   .rename_i fe;simp only [Option.some.injEq] at h;subst h;have hk:=List.all_eq_true.1 fe l K9;show qX H2 s (l.eval env)=some cs;unfold keeps at hk
    split at hk
    .rename_i id off hv
     split at hk
     .rename_i o c1 o2 c2 g1 g2;simp only [Bool.and_eq_true,beq_iff_eq] at hk;have hc:=zeG hk.2;subst hc;rw [hv] at hl ⊢;simp only [qX] at hl ⊢;rw [g1] at hl;rw [g2];exact hl
     .simp at hk
    .simp at hk
   .simp at h
  .simp at h
 .simp only [step] at h
  split at h
  .simp only [Option.some.injEq] at h;subst h;exact hl
  .simp only [Option.some.injEq] at h;subst h;exact hl
  .simp at h
 .simp at h1
theorem X5 {cl:Callee} {v:au} (hv:wS v=true) {e:Eff} (h:step cl env H v.op=some e):∃ av,e=.val av/\∀ iB H2,RZ v env H H2->(∀ t∈v.op.reads,iB t=env t)->step cl iB H2 v.op=some (.val av):=by
 obtain ⟨dst,op,guard⟩:=v;have bX:∃ av,e=.val av:=by
  cases op<;>simp only [wS] at hv<;>first|contradiction|skip
  all_goals
   simp only [step] at h
   revert h
   (repeat' split)<;>(intro h;simp at h)<;>first|exact ⟨_,h.symm⟩|exact ⟨_,h.2.symm⟩|exact ⟨_,h.choose_spec.2.symm⟩
 obtain ⟨av,rfl⟩:=bX
 refine ⟨av,rfl,fun iB H2 hm h3=>?_⟩
 rw [Uy h3]
 cases wH:Nz ⟨dst,op,guard⟩ with
 | none =>
  have hH:step cl env H2 op=step cl env H op:=by
   cases op<;>first|rfl|(exfalso;simp [Nz] at wH;done)|(exfalso;simp [wS] at hv;done)
  simp only at h ⊢;rw [hH,h]
 | some x =>
  have hs:=hm x wH
  cases op<;>simp only [Nz] at wH<;>first|contradiction|skip
  simp only [Option.some.injEq] at wH;subst wH;simp only [step] at h ⊢
  split at h
  .rename_i cs hl;rw [hs _ _ hl];exact h
  .simp at h
noncomputable def mask (vs:List au) (L:Array Bool) (env:Env):Env:=fun t =>
 open Classical in if ∃ (i:Nat) (v:au),vs[i]?=some v/\wS v=true/\L.getD i true=false/\v.dst=some t then .undef else env t
theorem UD {vs:List au} {L:Array Bool} {t:Nat} (h:∀ (i:Nat) (v:au),vs[i]?=some v->wS v=true->v.dst=some t->L.getD i true=true):mask vs L env t=env t:=by
 unfold mask;rw [if_neg];rintro ⟨i,v,h1,h2,h3,h4⟩;rw [h i v h1 h2 h4] at h3;simp at h3
theorem zjk {vs:List au} {L L':Array Bool} {env':Env} {t:Nat} (h:∀ (i:Nat) (v:au),vs[i]?=some v->wS v=true->v.dst=some t->L'.getD i true=L.getD i true) (he:env' t=env t):mask vs L' env' t=mask vs L env t:=by
 have UE:(∃ (i:Nat) (v:au),vs[i]?=some v/\wS v=true/\L'.getD i true=false/\v.dst=some t)↔(∃ (i:Nat) (v:au),vs[i]?=some v/\wS v=true/\L.getD i true=false/\v.dst=some t):=by
  constructor
  .rintro ⟨i,v,h1,h2,h3,h4⟩;exact ⟨i,v,h1,h2,by rw [<- h i v h1 h2 h4];exact h3,h4⟩
  .rintro ⟨i,v,h1,h2,h3,h4⟩;exact ⟨i,v,h1,h2,by rw [h i v h1 h2 h4];exact h3,h4⟩
 unfold mask
 by_cases hx:∃ (i:Nat) (v:au),vs[i]?=some v/\wS v=true/\L.getD i true=false/\v.dst=some t
 .rw [if_pos (UE.2 hx),if_pos hx]
 .rw [if_neg (fun h=>hx (UE.1 h)),if_neg hx];exact he
theorem zpS {cl:Callee} (bW:bN C P cl) {ops:Array Oper} {vs:List au} {pre:Nat} (bQ:DL ops vs pre) (jg:Dr P Z nt ops ops.toList=some vs):∀ (m:Nat) (k:Nat) (L:Array Bool) (env:Env) (H:Heap) (φ:jI) (a:Act) (w:World) (env':Env) (H':Heap),
  m=(List.range ops.size).countP (fun i=>!L.getD i true)->pre+inits vs pre<=k->k<=ops.size->L.size=ops.size->(∀ i,i < k->EU vs i=false->L.getD i true=true)->(∀ i,k<=i->i < ops.size->L.getD i true=false)->Closed ops L ->
  (∀ (i:Nat) v,vs[i]?=some v->wS v=true->L.getD i true=false->∀ d,v.dst=some d->step cl env H v.op=some (.val (env d))) ->
  lY cl 0 (vs.drop k) env H=some (env',H')->R C S base lo nt φ H (mask vs L env) a w ->
  (∀ φ' a' w',fT φ H w φ' H' w'->R C S base lo nt φ' H' env' a' w'->Q .normal a' w')->wpAnyIn (Fw ro) n P .any ops Q m L a w:=by
 have bq:=UA jg;have UF:vs.length=ops.size:=by simpa using bq.1
 intro m
 induction m with
 | zero =>
  intro k L env H φ a w env' H' hm CW hks hL h1 h2 IQ aB hr hR hQ;have fe:∀ i,i < ops.size->L.getD i true=true:=fun i hi=>by
   have:=List.countP_eq_zero.1 hm.symm i (List.mem_range.2 hi)
   simpa using this
  have hk:k=ops.size:=by
   rcases Nat.lt_or_ge k ops.size with h|h
   .have h3:=h2 k (Nat.le_refl _) h;rw [fe k h] at h3;simp at h3
   .omega
  have hdv:vs.drop k=[]:=by rw [List.drop_eq_nil_iff];omega
  rw [hdv] at hr;simp [lY] at hr;obtain ⟨rfl,rfl⟩:=hr;have UG:mask vs L env=env:=funext fun t=>UD fun i v hv _ _=>fe i (by have:=(List.getElem?_eq_some_iff.1 hv).1;omega);rw [UG] at hR
  refine ⟨?_,hQ _ _ _ fT.refl hR⟩
  rw [List.eq_nil_iff_forall_not_mem];intro i hi;obtain ⟨hu,aK,_⟩:=RY hL bQ.back hi;rw [fe i aK] at hu;simp at hu
 | succ m ih =>
  intro k L env H φ a w env' H' hm CW hks hL h1 h2 IQ aB hr hR hQ;have hex:∃ i,i < ops.size/\L.getD i true=false:=by
   have:0 < (List.range ops.size).countP (fun i=>!L.getD i true):=by omega
   obtain ⟨i,hi,hp⟩:=List.countP_pos_iff.1 this;exact ⟨i,List.mem_range.1 hi,by simpa using hp⟩
  refine ⟨fun h=>absurd h (zix hL bQ.back hex),fun i hi=>?_⟩
  obtain ⟨hu,aK,l6⟩:=RY hL bQ.back hi;have Fa:(L.setIfInBounds i true).size=ops.size:=by simpa using hL
  have EO:=zgT hL aK hu hm;have IU:=zf4 hL IQ l6;have IV:ops[i]?=some ops[i]:=Array.getElem?_eq_getElem aK;have lQ:vs[i]?=some vs[i]:=List.getElem?_eq_getElem (by omega);obtain ⟨o',E9,NQ⟩:=bq.2 i _ lQ;rw [Array.getElem?_toList,IV] at E9;simp only [Option.some.injEq] at E9;subst E9;obtain ⟨p1,p2,p3,p4⟩:=zcy NQ;have Pz:∀ j,(L.setIfInBounds i true).getD j true=false->L.getD j true=false:=fun j hj=>by
   rw [zV] at hj
   split at hj
   .simp at hj
   .exact hj
  cases l5:wS vs[i] with
  | true =>
   obtain ⟨Bh,G7,d,hd,xQ⟩:=bQ.idle i _ lQ l5;have hst0:=aB i _ lQ l5 hu d hd;obtain ⟨av,UH,qd⟩:=X5 l5 hst0;simp only [Eff.val.injEq] at UH;subst UH;have bu:step cl (mask vs L env) H vs[i].op=some (.val (env d)):=qd _ _ zh0 fun t ht=>UD fun i' v' qQ yG qm=>by
    obtain ⟨PD,_⟩:=bQ.idle i' v' qQ yG;obtain ⟨_,h3⟩:=bQ.once i i' _ v' _ Bh PD lQ qQ IV t qm;obtain ⟨_,e,he,hb,G8⟩:=h3 (by simp [au.reads,ht]);have:=l6 _ IV e he hb;rw [G8] at this;exact this
   have qV:=NJ hR.env p2 (b:=true) (by rw [G7];rfl) rfl;unfold wpOpIn;simp only [IV];rw [qV];simp only [if_true]
   refine XZ bW hR.heap hR.env p1 bu fun u w' hp=>?_
   obtain ⟨φ',g1,g2⟩:=hR.after (d:=ops[i].dst) p4 hp;have henv:oZ (mask vs L env) ops[i].dst (apply H (.val (env d))).1=mask vs (L.setIfInBounds i true) env:=by
    rw [<- p3,hd]
    funext t
    simp only [oZ,upd,apply]
    split
    .rename_i ht;subst ht
     refine (UD fun i' v' qQ yG qm=>?_).symm
     obtain ⟨PD,_⟩:=bQ.idle i' v' qQ yG;have rO:i=i':=by
      rcases Decidable.em (i=i') with h|h
      .exact h
      .exact absurd hd ((bQ.once i i' _ v' _ Bh PD lQ qQ IV t qm).1 h)
     rw [zV,if_pos ⟨rO,by omega⟩]
    .rename_i ht
     refine (zjk (fun i' v' qQ yG qm=>?_) rfl).symm
     rw [zV,if_neg];rintro ⟨rfl,_⟩;rw [lQ] at qQ;simp only [Option.some.injEq] at qQ;subst qQ;rw [hd] at qm;simp only [Option.some.injEq] at qm;exact ht qm.symm
   rw [henv] at g2
   refine ih k _ env H φ' _ w' env' H' EO CW hks Fa (fun j hj Aw=>?_) (fun j hj uS=>?_) IU (fun j v hv hi hl=>aB j v hv hi (Pz j hl)) hr g2 fun φ'' a' w'' h3 h4=>hQ φ'' a' w'' (g1.trans h3) h4
   .rw [zV]
    split
    .rfl
    .exact h1 j hj Aw
   .rw [zV,if_neg (by omega)];exact h2 j hj uS
  | false =>
   have J4:i=k:=by
    rcases Nat.lt_trichotomy i k with h|h|h
    .have:=h1 i h (by unfold EU;rw [lQ];exact l5);rw [hu] at this;simp at this
    .exact h
    .exfalso;have hki:EU vs k=false:=by
      unfold EU;have X6:vs[k]?=some vs[k]:=List.getElem?_eq_getElem (by omega);rw [X6]
      cases hq:wS vs[k] with
      | false=>exact hq
      | true=>have:=(bQ.idle k _ X6 hq).1;omega
     have:=(bQ.wait i _ IV (by omega) k h hki).done IQ l6;rw [h2 k (Nat.le_refl _) (by omega)] at this;simp at this
   subst J4;have uP:∀ j,j < i+1->EU vs j=false->(L.setIfInBounds i true).getD j true=true:=fun j hj Aw=>by
    rw [zV]
    split
    .rfl
    .rename_i bC;exact h1 j (by rw [hL] at bC;omega) Aw
   have IW:∀ j,i+1<=j->j < ops.size->(L.setIfInBounds i true).getD j true=false:=fun j hj uS=>by
    rw [zV,if_neg (by omega)];exact h2 j (by omega) uS
   have yG:∀ (H2:Heap) (av:AV),(∀ (j:Nat) v,vs[j]?=some v->(L.setIfInBounds i true).getD j true=false->RZ v env H H2)->∀ (j:Nat) v,vs[j]?=some v->wS v=true->(L.setIfInBounds i true).getD j true=false->∀ d,v.dst=some d->step cl (oZ env vs[i].dst av) H2 v.op=some (.val (oZ env vs[i].dst av d)):=by
    intro H2 av ah j v hv PE X7 d hd;obtain ⟨_,_,d',qm,xQ⟩:=bQ.idle j _ hv PE;have UI:d=d':=by rw [hd] at qm;simpa using qm
    subst UI;have bu:=aB j _ hv PE (Pz j X7) d hd;have bC:=xQ i _ (by omega) lQ;have lS:∀ t,vs[i].dst≠some t->oZ env vs[i].dst av t=env t:=fun t ht=>by
     cases hd:vs[i].dst with
     | none=>rfl
     | some y=>simp only [oZ,upd];rw [if_neg (fun e=>ht (by rw [hd,e]))]
    rw [lS d bC.1];obtain ⟨av',UH,qd⟩:=X5 PE bu;simp only [Eff.val.injEq] at UH;subst UH;exact qd _ _ (ah j v hv X7) fun t ht=>lS t (bC.2.1 t ht)
   have hmr:∀ t∈vs[i].plain.reads,mask vs L env t=env t:=fun t ht=>UD fun i' v' qQ jD qm=>by
    obtain ⟨_,_,d',K4,xQ⟩:=bQ.idle i' _ qQ jD;have UI:t=d':=by rw [qm] at K4;simpa using K4
    subst UI;exact ((xQ i _ (by omega) lQ).2.2 ht).done IQ l6
   have NR:∀ av,oZ (mask vs L env) ops[i].dst av=mask vs (L.setIfInBounds i true) (oZ env vs[i].dst av):=by
    intro av;rw [<- p3]
    funext t
    have NS:∀ iB:Env,iB t=env t->mask vs (L.setIfInBounds i true) iB t=mask vs L env t:=fun iB he=>zjk (fun i' v' qQ jD qm=>by
     rw [zV,if_neg];rintro ⟨rfl,_⟩;rw [lQ] at qQ;simp only [Option.some.injEq] at qQ;subst qQ;rw [l5] at jD;simp at jD) he
    cases R3:vs[i].dst with
    | none=>exact (NS env rfl).symm
    | some y =>
     simp only [oZ,upd]
     split
     .rename_i ht;subst ht;have:mask vs (L.setIfInBounds i true) (upd env t av) t=upd env t av t:=UD fun i' v' qQ jD qm=>by
       obtain ⟨_,_,d',K4,xQ⟩:=bQ.idle i' _ qQ jD;have UI:t=d':=by rw [qm] at K4;simpa using K4
       subst UI;exact absurd R3 (xQ i _ (by omega) lQ).1
      simpa [upd] using this.symm
     .rename_i ht;exact (NS _ (by simp only [upd];rw [if_neg ht])).symm
   have PG:vs.drop i=vs[i]::vs.drop (i+1):=List.drop_eq_getElem_cons (by omega);rw [PG,zfv] at hr;unfold wpOpIn;simp only [IV]
   split at hr
   .simp at hr
   .rename_i hw;have qV:=NJ hR.env p2 (b:=false) (by rw [show wanted (mask vs L env) vs[i].guard=wanted env vs[i].guard from RU (v:=vs[i].plain) hmr];exact hw) rfl;rw [qV];simp only [Bool.false_eq_true,if_false]
    refine ⟨fun _ _=>trivial,?_⟩
    have tu:=hR.put fT.refl hR.heap (d:=ops[i].dst) p4 (Uz (φ:=φ) (w:=w));rw [NR] at tu;exact ih (i+1) _ _ _ _ _ _ _ _ EO (by omega) (by omega) Fa uP IW IU (yG _ _ fun _ _ _ _=>zh0) hr tu hQ
   .rename_i hw;have qV:=NJ hR.env p2 (b:=true) (by rw [show wanted (mask vs L env) vs[i].guard=wanted env vs[i].guard from RU (v:=vs[i].plain) hmr];exact hw) rfl;rw [qV];simp only [if_true]
    split at hr
    .simp at hr
    .rename_i e he
     split at hr
     .rename_i wF;exact absurd rfl wF.1
     .have F3:step cl (mask vs L env) H vs[i].op.plain=some e:=by
       rw [Uy (env':=env) fun t ht=>hmr t (by simp [au.reads,au.plain,ht])];exact zfU he
      have Au:∀ (j:Nat) v,vs[j]?=some v->(L.setIfInBounds i true).getD j true=false->RZ v env H (apply H e).2:=fun j v hv X7=>by
       cases hma:Nz v with
       | none=>exact fun x hx=>by rw [hma] at hx;simp at hx
       | some x =>
        rcases bQ.mem j i v _ x hv hma (by omega) lQ with h|h|h
        .exact (zqD h he).reads
        .exact zm3 (fun y hy=>by rw [hma] at hy;simp only [Option.some.injEq] at hy;rw [<- hy];exact h) he
        .have:=h.done IQ l6;rw [Pz j X7] at this;simp at this
      refine zut bW hR.heap hR.env p1 F3 fun u w' hp=>?_
      obtain ⟨φ',g1,g2⟩:=hR.after (d:=ops[i].dst) p4 hp;rw [NR] at g2;exact ih (i+1) _ _ _ _ _ _ _ _ EO (by omega) (by omega) Fa uP IW IU (yG _ _ Au) hr g2 fun φ'' a' w'' h3 h4=>hQ φ'' a' w'' (g1.trans h3) h4
theorem zr8 {cl:Callee} (bW:bN C P cl) {ops:Array Oper} {vs:List au} {pre:Nat} (bQ:DL ops vs pre) (vG:pre<=ops.size) (jg:Dr P Z nt ops ops.toList=some vs) {aW:Env} {Hp HI:Heap} {ids:Nat->Nat} {w0:World} {tgt:Nat->Nat} {obj:Nat->aP}
  (wV:Sol cl (vs.take pre) pre env H aW Hp ids) (wW:xP cl vs pre (inits vs pre) aW Hp tgt obj) (J4:pre+inits vs pre<=ops.size)
  (hHI:∀ L:Array Bool,(∀ i,pre<=i->i < pre+inits vs pre->L.getD i true=true)->iL Hp pre (inits vs pre) tgt obj L=HI) (UJ:lY cl 0 (vs.drop (pre+inits vs pre)) aW HI=some (env',H'))
  (hQ:∀ φ' a' w',fT φ0 H w0 φ' H' w'->R C S base lo nt φ' H' env' a' w'->Q .normal a' w'):∀ (m:Nat) (L:Array Bool) (φ:jI) (a:Act) (w:World),
  m=(List.range ops.size).countP (fun i=>!L.getD i true)->L.size=ops.size->(∀ i,pre+inits vs pre<=i->i < ops.size->L.getD i true=false) ->
  Py ops C S base lo nt cl vs pre aW Hp (iL Hp pre (inits vs pre) tgt obj) ids φ0 H w0 L φ a w->wpAnyIn (Fw ro) n P .any ops Q m L a w:=by
 have bq:=UA jg;have UF:vs.length=ops.size:=by simpa using bq.1
 have hidp:∀ (i:Nat) v,vs[i]?=some v->wS v=true->∀ d,v.dst=some d->step cl aW Hp v.op=some (.val (aW d)):=by
  intro i v hv l5 d hd;obtain ⟨Bh,G7,_⟩:=bQ.idle i v hv l5;have hvt:(vs.take pre)[i]?=some v:=by rw [List.getElem?_take_of_lt Bh];exact hv
  rcases wV.each i v Bh hvt with ⟨hw,_⟩|⟨_,e,he,_,bD⟩
  .rw [G7] at hw;simp [wanted] at hw
  .obtain ⟨av,rfl,_⟩:=X5 l5 he;rw [he,bD d hd]
 have IX:∀ (m:Nat) (L:Array Bool) (φ:jI) (a:Act) (w:World),m=(List.range ops.size).countP (fun i=>!L.getD i true)->L.size=ops.size->(∀ i,pre+inits vs pre<=i->i < ops.size->L.getD i true=false) ->
   Py ops C S base lo nt cl vs pre aW Hp (iL Hp pre (inits vs pre) tgt obj) ids φ0 H w0 L φ a w->(∀ i,i < pre+inits vs pre->EU vs i=false->L.getD i true=true)->wpAnyIn (Fw ro) n P .any ops Q m L a w:=by
  intro m L φ a w hm hL h2 hD fe;have hnoi:∀ i,pre<=i->i < pre+inits vs pre->EU vs i=false:=fun i h1 h2=>by
   obtain ⟨_,s,b,x,hv,_⟩:=bQ.X3 i h1 h2;unfold EU;rw [hv];rfl
  have La:iL Hp pre (inits vs pre) tgt obj L=HI:=hHI L fun i h1 h2=>fe i h2 (hnoi i h1 h2);have hR:R C S base lo nt φ HI (mask vs L aW) a w:=⟨by rw [<- La];exact hD.heap,fun t=>by
   rw [<- La]
   by_cases ht:∃ (i:Nat) (v:au),vs[i]?=some v/\wS v=true/\L.getD i true=false/\v.dst=some t
   .have:mask vs L aW t=.undef:=by unfold mask;rw [if_pos ht]
    rw [this];exact .undef _
   .have:mask vs L aW t=aW t:=by unfold mask;rw [if_neg ht]
    rw [this]
    refine hD.env t fun i v hi hl hv hd=>ht ⟨i,v,hv,?_,hl,hd⟩
    cases hq:wS v with
    | true=>rfl
    | false =>
     have:=fe i (by omega) (by unfold EU;rw [hv];exact hq);rw [hl] at this;simp at this,hD.size,hD.wU,hD.defs⟩
  have mH:=hD.evo;rw [La] at mH;exact zpS bW bQ jg m (pre+inits vs pre) L aW HI φ a w env' H' hm (Nat.le_refl _) J4 hL fe h2 hD.closed (fun i v hv aB _ d hd=>by
   have h:=hidp i v hv aB d hd;obtain ⟨av,h5,h6⟩:=X5 aB h;rw [h6 aW HI (j4.reads (by rw [<- La];exact (zmM wW).same)) (fun _ _=>rfl),h5]) UJ hR fun φ' a' w' h3 h4=>hQ φ' a' w' (mH.trans h3) h4
 intro m
 induction m with
 | zero =>
  intro L φ a w hm hL h2 hD
  refine IX 0 L φ a w hm hL h2 hD fun i hi _=>?_
  have:=List.countP_eq_zero.1 hm.symm i (List.mem_range.2 (by omega))
  simpa using this
 | succ m ih =>
  intro L φ a w hm hL h2 hD
  by_cases NT:∀ i,i < pre+inits vs pre->EU vs i=false->L.getD i true=true
  .exact IX (m+1) L φ a w hm hL h2 hD NT
  have hex:∃ i,i < pre+inits vs pre/\EU vs i=false/\L.getD i true=false:=by
   rcases Classical.em (∃ i,i < pre+inits vs pre/\EU vs i=false/\L.getD i true=false) with h|h
   .exact h
   .refine absurd (fun i hi l5=>?_) NT
    cases hq:L.getD i true with
    | true=>rfl
    | false=>exact absurd ⟨i,hi,l5,hq⟩ h
  have vH:∀ i∈Region.ready .any ops L,i < pre+inits vs pre:=fun i hi=>by
   obtain ⟨hu,aK,l6⟩:=RY hL bQ.back hi;rcases Nat.lt_or_ge i (pre+inits vs pre) with h|h
   .exact h
   .exfalso;obtain ⟨j,hj,UK,iX⟩:=hex;have:=(bQ.wait i _ (Array.getElem?_eq_getElem aK) h j (by omega) UK).done hD.closed l6;rw [iX] at this;simp at this
  have vI:Region.ready .any ops L≠[]:=by
   obtain ⟨j,hj,UK,iX⟩:=hex;exact zix hL bQ.back ⟨j,by omega,iX⟩
  refine ⟨fun h=>absurd h vI,fun i hi=>?_⟩
  have Lc:=vH i hi;obtain ⟨hu,o,ho,fe⟩:=mem_ready.1 hi;have aT:i < vs.length:=by omega
  have lQ:vs[i]?=some vs[i]:=List.getElem?_eq_getElem aT;obtain ⟨o',E9,NQ⟩:=bq.2 i _ lQ;have IY:o'=o:=by
   rw [Array.getElem?_toList] at E9;rw [E9] at ho
   simpa using ho
  subst IY;obtain ⟨p1,p2,p3,p4⟩:=zcy NQ;have sG:=zgT hL (show i < ops.size by omega) hu hm;have Fa:(L.setIfInBounds i true).size=ops.size:=by simpa using hL
  have IW:∀ j,pre+inits vs pre<=j->j < ops.size->(L.setIfInBounds i true).getD j true=false:=fun j hj uS=>by
   rw [zV,if_neg (by omega)];exact h2 j hj uS
  have Ld:∀ j,(L.setIfInBounds i true).getD j true=false->j≠i/\L.getD j true=false:=fun j hj=>by
   rw [zV] at hj
   split at hj
   .simp at hj
   .rename_i bC
    refine ⟨fun e=>bC ⟨e.symm,by rw [e,hL];omega⟩,hj⟩
  have Fb:=zf4 hL hD.closed (RY hL bQ.back hi).2.2;have NU:∀ e∈o'.after,Region.binds .any e=true->L.getD e.on true=true:=fun e he hb=>(RY hL bQ.back hi).2.2 o' ho e he hb;rcases Nat.lt_or_ge i pre with Bh|Bh
  .have hvt:(vs.take pre)[i]?=some vs[i]:=by rw [List.getElem?_take_of_lt Bh];exact lQ
   -- what it reads is there
   have DN:∀ t∈vs[i].reads,aL (aY S base φ (iL Hp pre (inits vs pre) tgt obj L) w) φ w (aW t) (a.tmps.getD t undef):=fun t ht=>by
    refine hD.env t fun j v hj iX Av hd=>?_
    obtain ⟨_,h3⟩:=bQ.once i j _ v o' Bh hj lQ Av ho t hd;obtain ⟨_,e,he,hb,G8⟩:=h3 ht;have:=NU e he hb;rw [G8,iX] at this;simp at this
   let yU:Env:=fun t=>if t∈vs[i].reads then aW t else .undef
   have hE:bz (aY S base φ (iL Hp pre (inits vs pre) tgt obj L) w) φ w yU a:=fun t=>by
    show aL _ _ _ (if t∈vs[i].reads then aW t else .undef) _
    split
    .rename_i h;exact DN t h
    .exact .undef _
   have Bi:∀ t∈vs[i].reads,yU t=aW t:=fun t ht=>if_pos ht;have ah:iL Hp pre (inits vs pre) tgt obj (L.setIfInBounds i true)=iL Hp pre (inits vs pre) tgt obj L:=zn2 wW fun j h3 h4=>by
    rw [zV,if_neg (by omega)]
   have wQ:∀ (φ':jI) (v:Value) (w':World),fT φ (iL Hp pre (inits vs pre) tgt obj L) w φ' (iL Hp pre (inits vs pre) tgt obj L) w'->aU C S base φ' (iL Hp pre (inits vs pre) tgt obj L) w'->(∀ d,vs[i].dst=some d->aL (aY S base φ' (iL Hp pre (inits vs pre) tgt obj L) w') φ' w' (aW d) v)->(∀ j,j < pre->(L.setIfInBounds i true).getD j true=false->X4 cl vs aW Hp j->φ' (ids j)=none) ->
     Py ops C S base lo nt cl vs pre aW Hp (iL Hp pre (inits vs pre) tgt obj) ids φ0 H w0 (L.setIfInBounds i true) φ' (a.put o'.dst v) w':=by
    intro φ' v w' mH hH' K8 hphi
    refine ⟨by rw [ah];exact hH',fun t ht=>?_,by rw [zmj];exact hD.size,Nat.le_trans hD.wU mH.size,by rw [zhs];exact RS hD.heap mH hD.defs,hphi,Fb,by rw [ah];exact hD.evo.trans mH⟩
    rw [ah,zmk (by rw [hD.size];exact p4)]
    by_cases Le:o'.dst=some t
    .rw [if_pos Le];exact K8 t (by rw [p3];exact Le)
    .rw [if_neg Le]
     refine mH.yn (hD.env t fun j v' hj iX Av=>?_)
     by_cases Aw:j=i
     .subst Aw;rw [lQ] at Av;simp at Av;subst Av;rw [p3];exact Le
     .refine ht j v' hj ?_ Av
      rw [zV,if_neg (fun h=>Aw h.1.symm)];exact iX
   have aux:∀ k,k < pre->X4 cl vs aW Hp k->∃ v o f,(vs.take pre)[k]?=some v/\step cl aW Hp v.op=some (.new o f)/\wanted aW v.guard=some true:=fun k hk ⟨v,o,f,h1,h2,h3⟩=>⟨v,o,f,by rw [List.getElem?_take_of_lt hk];exact h1,h2,h3⟩
   unfold wpOpIn;rw [ho];simp only;rcases wV.each i _ Bh hvt with ⟨hw,hd⟩|⟨hw,e,he,Px,bD⟩
   .have qV:wanted yU vs[i].guard=some false:=by rw [RU Bi];exact hw
    rw [NJ hE p2 qV rfl];simp only [Bool.false_eq_true,if_false]
    refine ⟨fun _ _=>trivial,ih _ φ _ w sG Fa IW (wQ φ undef w fT.refl hD.heap (fun d qm=>by rw [hd d qm];exact Uz) fun j hj iX hn=>hD.phi j hj (Ld j iX).2 hn)⟩
   .have qV:wanted yU vs[i].guard=some true:=by rw [RU Bi];exact hw
    rw [NJ hE p2 qV rfl];simp only [if_true];have F3:step cl yU (iL Hp pre (inits vs pre) tgt obj L) vs[i].op=some e:=by
     rw [Uy (env':=aW) fun t ht=>Bi t (by simp [au.reads,ht])];exact zj9 (zmM wW) Px he
    refine XZ bW hD.heap hE p1 F3 fun v w' hp=>?_
    cases e with
    | val av =>
     obtain ⟨g1,g2⟩:=hp;exact ih _ φ _ w' sG Fa IW (wQ φ v w' (fT.of_below g1) (hD.heap.below g1) (fun d qm=>by rw [bD d qm];exact g2) fun j hj iX hn=>hD.phi j hj (Ld j iX).2 hn)
    | new ob f =>
     obtain ⟨b,mm,g1,g2,g3,g4,g5⟩:=hp;obtain ⟨r1,r2,r3⟩:=bD;have aS:X4 cl vs aW Hp i:=⟨_,ob,f,lQ,he,hw⟩
     have NV:=hD.phi i Bh hu aS
     -- nothing was written there yet
     have r2':(iL Hp pre (inits vs pre) tgt obj L).get (ids i)=ob:=by
      rw [zhd fun j Uh DF X8 hje=>?_]
      .exact r2
      .obtain ⟨uS,s,b',x,Av,l6⟩:=bQ.X3 j Uh DF;obtain ⟨off,z',hb',_⟩:=wW.each j Uh DF s b' x Av;have hgj:ops[j]?=some ops[j]:=Array.getElem?_eq_getElem uS;have R4:=hD.env b' fun i' v bV hil' hvi' hdv=>by
        obtain ⟨e2,rQ,vF,G8⟩:=l6 _ hgj i' _ b' bV hvi' hdv (by simp [au.reads,mG.reads,qY]);have:=hD.closed j _ hgj X8 e2 rQ vF;rw [G8,hil'] at this;simp at this
       rw [hb'] at R4;obtain ⟨b2,n2,jD,_⟩:=R4.lZ;rw [hje,NV] at jD;simp at jD
     have hn:=hD.heap.new (H':=iL Hp pre (inits vs pre) tgt obj L) (id:=ids i) g1 NV r2' (fun _ _ _=>rfl) r1 (Nat.le_refl _) g2 g3 g4
     refine ih _ _ _ w' sG Fa IW (wQ _ v w' hn.1 hn.2 (fun d qm=>by rw [r3 d qm];exact g5 _ _ _ (Dp _ _)) fun j hj iX hnj=>?_)
     obtain ⟨Aw,hjl'⟩:=Ld j iX;rw [Ar _ fun e=>Aw (wV.IL j i hj Bh (aux j hj hnj) (aux i Bh aS) e)];exact hD.phi j hj hjl' hnj
    | upd av H1=>exact bD.elim
  ·-- a first write
   obtain ⟨nk,s,b,x,hvb,l6⟩:=bQ.X3 i Bh Lc;obtain ⟨off,z,hb,hz,bu⟩:=wW.each i Bh Lc s b x hvb;have hveq:vs[i]=⟨none,.bB s (.tmp b) x,none⟩:=by rw [lQ] at hvb;simpa using hvb
   rw [hveq] at p1 p2 p3;simp only at p1 p2 p3;have DN:∀ t∈au.reads ⟨none,.bB s (.tmp b) x,none⟩,aL (aY S base φ (iL Hp pre (inits vs pre) tgt obj L) w) φ w (aW t) (a.tmps.getD t undef):=fun t ht=>by
    refine hD.env t fun j v hj iX Av hd=>?_
    obtain ⟨e,he,R5,G8⟩:=l6 o' ho j v t hj Av hd ht;have:=NU e he R5;rw [G8,iX] at this;simp at this
   let yU:Env:=fun t=>if t∈au.reads ⟨none,.bB s (.tmp b) x,none⟩ then aW t else .undef
   have hE:bz (aY S base φ (iL Hp pre (inits vs pre) tgt obj L) w) φ w yU a:=fun t=>by
    show aL _ _ _ (if t∈au.reads ⟨none,.bB s (.tmp b) x,none⟩ then aW t else .undef) _
    split
    .rename_i h;exact DN t h
    .exact .undef _
   have Bi:∀ t∈au.reads ⟨none,.bB s (.tmp b) x,none⟩,yU t=aW t:=fun t ht=>if_pos ht;have hraw:(iL Hp pre (inits vs pre) tgt obj L).get (tgt i)=.raw z:=by
    rw [zhd fun j Uh DF X8 hje=>?_]
    .exact hz
    .have:=wW.inj j i Uh DF Bh Lc hje;subst this;rw [hu] at X8;simp at X8
   have NW:step cl yU (iL Hp pre (inits vs pre) tgt obj L) (.bB s (.tmp b) x)=some (.upd (.aQ []) ((iL Hp pre (inits vs pre) tgt obj L).set (tgt i) (obj i))):=by
    rw [Uy (env':=aW) fun t ht=>Bi t (by simp [au.reads,ht])];exact bu _ hraw
   rw [zqG wW Bh Lc (by omega)] at NW;unfold wpOpIn;rw [ho];simp only;rw [NJ hE p2 (b:=true) rfl rfl];simp only [if_true];rw [<- p3] at p1;obtain ⟨H2,DR,hw⟩:=zjZ (ro:=ro) (n:=n) (Q:=Q) (K:=fun a' w'=>wpAnyIn (Fw ro) n P .any ops Q m (L.setIfInBounds i true) a' w') hD.heap hE (zjy p1) NW;simp only [Eff.upd.injEq,true_and] at DR;subst DR
   refine hw fun w' mH hH'=>?_
   rw [<- p3]
   refine ih _ φ _ w' sG Fa IW ⟨hH',fun t ht=>?_,hD.size,Nat.le_trans hD.wU mH.size,RS hD.heap mH hD.defs,fun j hj iX hn=>hD.phi j hj (Ld j iX).2 hn,Fb,hD.evo.trans mH⟩
   refine mH.yn (hD.env t fun j v' hj iX Av=>ht j v' hj ?_ Av)
   rw [zV,if_neg (by omega)];exact iX
theorem zg8 {cl:Callee} (bW:bN C P cl) {ops:Array Oper} {vs:List au} {pre:Nat} (bQ:J3 ops vs pre=true) (vG:pre<=ops.size) (jg:Dr P Z nt ops ops.toList=some vs)
  (hr:lY cl pre vs env H=some (env',H')) (hR:R C S base lo nt φ H env a w) (hQ:∀ φ' a' w',fT φ H w φ' H' w'->R C S base lo nt φ' H' env' a' w'->Q .normal a' w') :
  wpAnyIn (Fw ro) n P .any ops Q ops.size (Array.replicate ops.size false) a w:=by
 have hlen:vs.length=ops.size:=by have:=(UA jg).1;simpa using this
 have hD:=zmJ hlen bQ;obtain ⟨aW,Hp,h1,h2⟩:=zeX cl pre vs env H _ (by omega) hr;have bq:=UA jg;have UL:Once (vs.take pre):=fun i j x y hx hy d hd=>by
  have hi:i < pre:=by have:=(List.getElem?_eq_some_iff.1 hx).1;simp at this;omega
  have hj:j < pre:=by have:=(List.getElem?_eq_some_iff.1 hy).1;simp at this;omega
  rw [List.getElem?_take_of_lt hi] at hx;rw [List.getElem?_take_of_lt hj] at hy;obtain ⟨o,ho,_⟩:=bq.2 i _ hx;rw [Array.getElem?_toList] at ho;have:=hD.once i j x y o hi hj hx hy ho d hd;exact ⟨this.1,fun hm=>(this.2 hm).1⟩
 obtain ⟨ids,wV⟩:=zf9 cl (vs.take pre) env H aW Hp pre (by simp;omega) UL h1;have hl:(vs.take pre).length=pre:=by rw [List.length_take];omega
 rw [hl] at wV;have Dz:Below w.heap.size w w:=Below.refl _ w;have tu:R C S base lo nt φ H env a w:=hR;have Bg:=tu.heap.ext' wV.keep wV.nx;obtain ⟨tgt,obj,HI,wW,bU,ha,hb,bO⟩:=zkU (k:=inits vs pre) (fun i h3 h4=>by obtain ⟨_,s,b,x,hv,_⟩:=hD.X3 i h3 h4;exact ⟨s,b,x,hv⟩) h2;have J4:pre+inits vs pre<=ops.size:=by
  unfold inits;have:=(List.takeWhile_sublist RA (l:=vs.drop pre)).length_le;simp only [List.length_drop] at this;omega
 have PH:iL Hp pre (inits vs pre) tgt obj (Array.replicate ops.size false)=Hp:=Heap.ext' rfl fun id=>RX fun i h3 h4 h5=>by
  simp [show i < ops.size by omega] at h5
 have hHI:∀ L:Array Bool,(∀ i,pre<=i->i < pre+inits vs pre->L.getD i true=true)->iL Hp pre (inits vs pre) tgt obj L=HI:=fun L hL=>by
  refine Heap.ext' bU.symm fun id=>?_
  by_cases hx:∃ i,pre<=i/\i < pre+inits vs pre/\tgt i=id
  .obtain ⟨i,h3,h4,rfl⟩:=hx;rw [RV wW h3 h4 (hL i h3 h4),hb i h3 h4]
  .rw [RX (fun i h3 h4 _ h5=>hx ⟨i,h3,h4,h5⟩),ha id fun i h3 h4 h5=>hx ⟨i,h3,h4,h5⟩]
 have sG:(List.range ops.size).countP (fun i=>!(Array.replicate ops.size false).getD i true)=ops.size:=by
  have:(List.range ops.size).countP (fun i=>!(Array.replicate ops.size false).getD i true)=(List.range ops.size).length:=List.countP_eq_length.2 fun i hi=>by
   have:=List.mem_range.1 hi;simp [this]
  simpa using this
 have:=zr8 (ro:=ro) (n:=n) (Q:=Q) bW hD vG jg wV wW J4 hHI bO (φ0:=φ) (w0:=w) (fun φ' a' w' h3 h4=>hQ φ' a' w' h3 h4) ops.size (Array.replicate ops.size false) φ a w sG.symm (by simp) (fun i _ hi=>by simp [hi]) ⟨by rw [PH];exact Bg.2,fun t ht=>?_,tu.size,tu.wU,tu.defs,fun i hi _ _=>?_,fun i o ho hd=>?_,by rw [PH];exact (fT.of_below Dz).trans Bg.1⟩
 .exact this
 .rw [PH];have hold:aW t=env t:=wV.old t fun i v hi hv=>by
   rw [List.getElem?_take_of_lt hi] at hv;exact ht i v hi (by simp [show i < ops.size by omega]) hv
  rw [hold];exact Bg.1.yn (tu.env t)
 .cases hc:φ (ids i) with
  | none=>rfl
  | some x =>
   have h3:=hR.heap.nx _ _ hc;have h4:=wV.K7 i hi;omega
 .have bV:i < ops.size:=(Array.getElem?_eq_some_iff.1 ho).1;simp [bV] at hd
theorem Bj:fT φ H w φ H w.drew:=fT.of_below ((Below.refl _ w).drew)
theorem znx (hR:R C S base lo nt φ H env a w):R C S base lo nt φ H env a w.drew :=
 ⟨hR.heap.below ((Below.refl _ w).drew),fun t=>(fT.of_below ((Below.refl _ w).drew)).yn (hR.env t),hR.size,hR.wU,RS hR.heap (fT.of_below ((Below.refl _ w).drew)) hR.defs⟩
theorem zq0 {cl:Callee} (bW:bN C P cl) {ops:Array Oper} {vs:List au} {pre:Nat} (bQ:J3 ops vs pre=true) (vG:pre<=ops.size) (jg:Dr P Z nt ops ops.toList=some vs)
  (hr:lY cl pre vs env H=some (env',H')) (hR:R C S base lo nt φ H env a w) (hQ:∀ φ' a' w',fT φ H w φ' H' w'->R C S base lo nt φ' H' env' a' w'->Q .normal a' w') :
  wpAnyIn (Fw ro) n P .any ops Q ops.size (Array.replicate ops.size false) a w.drew :=
 zg8 bW bQ vG jg hr (znx hR) fun φ' a' w' he tu=>hQ φ' a' w' ((fT.of_below ((Below.refl _ w).drew)).trans he) tu
theorem ztp {cl:Callee} (bW:bN C P cl) (sj:P.follows .mixedOrders=true) {id:Nat} {ops:Array Oper} {vs:List au} {pre:Nat} (bQ:J3 ops vs pre=true) (vG:pre<=ops.size) (jg:Dr P Z nt ops ops.toList=some vs)
  (hr:lY cl pre vs env H=some (env',H')) (hR:R C S base lo nt φ H env a w) (hQ:∀ φ' a' w',fT φ H w φ' H' w'->R C S base lo nt φ' H' env' a' w'->Q .normal a' w') :
  (Code.region id ops true).wpIn (Fw ro) n P Q a w:=by
 refine wpIn_region_any sj ?_
 exact zq0 bW bQ vG jg hr hR hQ
end
open Go
structure Perm (pos inv:Nat->Nat) (n:Nat):Prop where
 lt:∀ i,i < n->pos i < n
 out:∀ i,n<=i->pos i=i
 li:∀ i,inv (pos i)=i
 ri:∀ i,pos (inv i)=i
section
variable {pos inv:Nat->Nat} {ops ops':Array Oper} {F:Fence} {n:Nat} {P:Program} {Q:Exit->Act->World->Prop}
theorem Perm.PI (h:Perm pos inv n) {i:Nat} (hi:i < n):inv i < n:=by
 rcases Nat.lt_or_ge (inv i) n with h1|h1
 .exact h1
 .have:=h.out _ h1;rw [h.ri] at this;omega
theorem zqS {L L':Array Bool} (hp:Perm pos inv ops.size) (hL:L.size=ops.size) (Fa:L'.size=ops.size) (h:∀ i d,L'.getD (pos i) d=L.getD i d) {i:Nat} (hi:i < ops.size) :
  ∀ j d,(L'.setIfInBounds (pos i) true).getD (pos j) d=(L.setIfInBounds i true).getD j d:=by
 intro j d;rw [zV,zV,h j d]
 by_cases e:i=j
 .subst e;rw [if_pos ⟨rfl,by rw [Fa];exact hp.lt i hi⟩,if_pos ⟨rfl,by rw [hL];exact hi⟩]
 .rw [if_neg (fun h1=>e (by have:=congrArg inv h1.1;rwa [hp.li,hp.li] at this)),if_neg (fun h1=>e h1.1)]
theorem jJ {L:Array Bool} {i:Nat}:i∈Region.ready .any ops L↔i < ops.size/\L.getD i true=false/\∃ o,ops[i]?=some o/\∀ e∈o.after,Region.binds .any e=true->L.getD e.on false=true:=by
 unfold Region.ready;simp only [List.mem_filter,List.mem_range,Bool.and_eq_true,Bool.not_eq_true']
 constructor
 .rintro ⟨h1,h2,h3⟩
  refine ⟨h1,h2,ops[i],Array.getElem?_eq_getElem h1,?_⟩
  rw [Array.getElem?_eq_getElem h1] at h3;simp only [Option.map_some,Option.getD_some,Array.all_eq_true_iff_forall_mem] at h3;intro e he hb;have:=h3 e he
  simpa [hb] using this
 .rintro ⟨h1,h2,o,h3,h4⟩
  refine ⟨h1,h2,?_⟩
  rw [h3];simp only [Option.map_some,Option.getD_some,Array.all_eq_true_iff_forall_mem];intro e he
  cases hb:Region.binds .any e with
  | false=>rfl
  | true=>simp [h4 e he hb]
theorem zgb {L L':Array Bool} (hp:Perm pos inv ops.size) (hs:ops'.size=ops.size) (aA:∀ i o,ops[i]?=some o->ops'[pos i]?=some (Iq pos o)) (h:∀ i d,L'.getD (pos i) d=L.getD i d) {i:Nat} :
  i∈Region.ready .any ops L↔pos i∈Region.ready .any ops' L':=by
 rw [jJ,jJ,hs]
 constructor
 .rintro ⟨h1,h2,o,h3,h4⟩
  refine ⟨hp.lt i h1,by rw [h];exact h2,_,aA i o h3,?_⟩
  intro e he hb;simp only [Iq,Array.mem_map] at he;obtain ⟨e0,he0,rfl⟩:=he;have:=h4 e0 he0 hb;simp only [ZW];rw [h];exact this
 .rintro ⟨h1,h2,o,h3,h4⟩;have hi:i < ops.size:=by
   have:=hp.PI h1;rwa [hp.li] at this
  refine ⟨hi,by rw [<- h i];exact h2,ops[i],Array.getElem?_eq_getElem hi,?_⟩
  have h5:=aA i _ (Array.getElem?_eq_getElem hi);rw [h3] at h5;obtain rfl:=Option.some.inj h5;intro e he hb;have:=h4 (ZW pos e) (by simp only [Iq,Array.mem_map];exact ⟨e,he,rfl⟩) hb;rw [<- h e.on];exact this
theorem zk3 {tmps:Array Value} (hp:Perm pos inv ops.size) (hs:ops'.size=ops.size) (aA:∀ i o,ops[i]?=some o->ops'[pos i]?=some (Iq pos o)) (j:Nat):yielded ops' tmps (pos j)=yielded ops tmps j:=by
 unfold yielded
 by_cases hj:j < ops.size
 .rw [Array.getElem?_eq_getElem hj,aA j _ (Array.getElem?_eq_getElem hj)];rfl
 .rw [hp.out j (by omega),Array.getElem?_eq_none (by omega),Array.getElem?_eq_none (by omega)]
theorem zmg {tmps:Array Value} (hp:Perm pos inv ops.size) (hs:ops'.size=ops.size) (aA:∀ i o,ops[i]?=some o->ops'[pos i]?=some (Iq pos o)) (o:Oper):Region.wanted (Iq pos o) (yielded ops' tmps)=Region.wanted o (yielded ops tmps):=by
 unfold Region.wanted;simp only [Iq]
 cases o.guard with
 | none=>rfl
 | some g=>simp only [Option.map_some];rw [zk3 hp hs aA]
theorem zpX {i:Nat} (hp:Perm pos inv ops.size) (hs:ops'.size=ops.size) (aA:∀ i o,ops[i]?=some o->ops'[pos i]?=some (Iq pos o)) (hi:i < ops.size) {K:Act->World->Prop} {a:Act} {w:World} (h:wpOpIn F n P ops' Q (pos i) K a w):wpOpIn F n P ops Q i K a w:=by
 unfold wpOpIn at *;have hg:=Array.getElem?_eq_getElem hi;rw [aA i _ hg] at h;rw [hg];simp only at h ⊢;rw [zmg hp hs aA] at h;exact h
theorem zoi (hp:Perm pos inv ops.size) (hs:ops'.size=ops.size) (aA:∀ i o,ops[i]?=some o->ops'[pos i]?=some (Iq pos o)):∀ (m:Nat) (L L':Array Bool) (a:Act) (w:World),L.size=ops.size->L'.size=ops.size->(∀ i d,L'.getD (pos i) d=L.getD i d) ->
  wpAnyIn F n P .any ops' Q m L' a w->wpAnyIn F n P .any ops Q m L a w:=by
 intro m
 induction m with
 | zero =>
  intro L L' a w hL Fa h hw
  refine ⟨?_,hw.2⟩
  rw [List.eq_nil_iff_forall_not_mem];intro i hi;have:=(zgb hp hs aA h).1 hi;rw [hw.1] at this;simp at this
 | succ m ih =>
  intro L L' a w hL Fa h hw
  refine ⟨fun hr=>hw.1 ?_,fun i hi=>?_⟩
  .rw [List.eq_nil_iff_forall_not_mem];intro p tC;have h1:pos (inv p)∈Region.ready .any ops' L':=by rw [hp.ri];exact tC
   have:=(zgb hp hs aA h).2 h1;rw [hr] at this;simp at this
  .have bV:=(jJ.1 hi).1;have h1:=zpX hp hs aA bV (hw.2 _ ((zgb hp hs aA h).1 hi))
   refine wpOpIn_mono (fun a' w' hk=>?_) h1
   exact ih _ _ _ _ (by simpa using hL) (by simpa using Fa) (zqS hp hL Fa h bV) hk
end
theorem zmi {n:Nat} {order pos:List Nat} (h:ZX n order pos=true):Perm (Ba pos) (Ba order) n/\order.length=n:=by
 unfold ZX at h;simp only [Bool.and_eq_true,beq_iff_eq,List.all_eq_true,List.mem_range,decide_eq_true_eq] at h;obtain ⟨⟨h1,h2⟩,h3⟩:=h;have mg:∀ i,i < n->Ba pos i=pos.getD i 0:=fun i hi=>by unfold Ba;rw [if_pos (by omega)]
 have UM:∀ i,i < n->Ba order i=order.getD i 0:=fun i hi=>by unfold Ba;rw [if_pos (by omega)]
 have fU:∀ i,n<=i->Ba pos i=i:=fun i hi=>by unfold Ba;rw [if_neg (by omega)]
 have NY:∀ i,n<=i->Ba order i=i:=fun i hi=>by unfold Ba;rw [if_neg (by omega)]
 refine ⟨⟨fun i hi=>by rw [mg i hi];exact (h3 i hi).1.1.1,fU,fun i=>?_,fun i=>?_⟩,h1⟩
 .rcases Nat.lt_or_ge i n with hi|hi
  .rw [mg i hi,UM _ (h3 i hi).1.1.1];exact (h3 i hi).1.2
  .rw [fU i hi,NY i hi]
 .rcases Nat.lt_or_ge i n with hi|hi
  .rw [UM i hi,mg _ (h3 i hi).1.1.2];exact (h3 i hi).2
  .rw [NY i hi,fU i hi]
section
variable {C:jC} {P:Program} {Z:List Nat} {S:Bool->Nat->Prop} {base lo nt:Nat} {φ:jI} {H H':Heap} {w:World} {env env':Env} {a:Act}
variable {ro:Option Nat} {n:Nat} {Q:Exit->Act->World->Prop}
theorem zj2 {cl:Callee} (bW:bN C P cl) {ops:Array Oper} {vs:List au} {c:aX} (hc:RB P Z nt ops vs=some c) :
  ∃ pre vs',c=.region (some pre) vs'/\∀ (env:Env) (H:Heap) (env':Env) (H':Heap) (φ:jI) (a:Act) (w:World) (Q:Exit->Act->World->Prop),lY cl pre vs' env H=some (env',H')->R C S base lo nt φ H env a w->(∀ φ' a' w',fT φ H w φ' H' w'->R C S base lo nt φ' H' env' a' w'->Q .normal a' w') ->
  wpAnyIn (Fw ro) n P .any ops Q ops.size (Array.replicate ops.size false) a w:=by
 unfold RB at hc
 split at hc
 .simp at hc
 .rename_i order pos Z' _;simp only at hc
  split at hc
  .simp at hc
  .rename_i vs' p9
   split at hc
   .rename_i bQ;simp only [Option.some.injEq] at hc;subst hc;simp only [Bool.and_eq_true] at bQ;obtain ⟨hp,hl⟩:=zmi bQ.1
    refine ⟨_,_,rfl,fun env H env' H' φ a w Q hr hR hQ=>?_⟩
    have fF:(reorder ops order pos).size=ops.size:=by simp [reorder,hl]
    have aA:∀ i o,ops[i]?=some o->(reorder ops order pos)[Ba pos i]?=some (Iq (Ba pos) o):=fun i o ho=>by
     have hi:i < ops.size:=(Array.getElem?_eq_some_iff.1 ho).1;have h1:Ba order (Ba pos i)=i:=hp.li i;have h2:=hp.lt i hi;generalize Ba pos i=k at h1 h2 ⊢;unfold Ba at h1;rw [if_pos (by rw [hl];exact h2)] at h1;have h3:order[k]?=some i:=by
      rw [List.getD_eq_getElem?_getD] at h1;have h4:order[k]?=some order[k]:=List.getElem?_eq_getElem (by rw [hl];exact h2);rw [h4] at h1 ⊢
      simpa using h1
     simp only [reorder,List.getElem?_toArray,List.getElem?_map,h3,Option.map_some];rw [Array.getD_eq_getD_getElem?,ho];rfl
    have:=zg8 (ro:=ro) (n:=n) (Q:=Q) bW bQ.2 (zhe bQ.2) p9 hr hR hQ;rw [fF] at this
    refine zoi hp fF aA ops.size _ _ a _ (by simp) (by simp) (fun i d=>?_) this
    by_cases hi:i < ops.size
    .simp [hi,hp.lt i hi]
    .rw [hp.out i (by omega)]
   .simp at hc
theorem zrC {cl:Callee} (bW:bN C P cl) (sj:P.follows .mixedOrders=true) {id:Nat} {ops:Array Oper} {vs:List au} {c:aX} (hc:RB P Z nt ops vs=some c) :
  ∃ pre vs',c=.region (some pre) vs'/\(lY cl pre vs' env H=some (env',H')->R C S base lo nt φ H env a w->(∀ φ' a' w',fT φ H w φ' H' w'->R C S base lo nt φ' H' env' a' w'->Q .normal a' w') ->
  (Code.region id ops true).wpIn (Fw ro) n P Q a w):=by
 obtain ⟨pre,vs',h1,h2⟩:=zj2 (S:=S) (base:=base) (lo:=lo) (ro:=ro) (n:=n) bW hc;exact ⟨pre,vs',h1,fun hr hR hQ=>wpIn_region_any sj (h2 _ _ _ _ _ _ _ _ hr (znx hR) fun φ' a' w' he tu=>hQ φ' a' w' (Bj.trans he) tu)⟩
end
section
variable {ops:Array Oper} {F:Fence} {n s:Nat} {P:Program} {Q:Exit->Act->World->Prop}
theorem zjb (ops:Array Oper) (s i:Nat):(yo ops s)[i]?=(ops[s+i]?).map (O5 s):=by
 simp [yo]
theorem ziD (ops:Array Oper) {s i:Nat} (h:i < s):(Dt ops s)[i]?=ops[i]?:=by
 simp [Dt,List.getElem?_take_of_lt h]
theorem zkn (ops:Array Oper) (s:Nat):(yo ops s).size=ops.size - s:=by simp [yo]
theorem R6 {ops:Array Oper} {s:Nat} (h:s<=ops.size):(Dt ops s).size=s:=by simp [Dt,h]
structure xR (ops:Array Oper) (s:Nat):Prop where
 le:s<=ops.size
 back:∀ i o,ops[i]?=some o->∀ e∈o.after,Region.binds .any e=true->e.on < i
 gh:∀ i o g,ops[i]?=some o->o.guard=some g->i < s->g.1 < s
 gt:∀ i o g,ops[i]?=some o->o.guard=some g->s<=i->s<=g.1
 wait:∀ i,s<=i->i < ops.size->∀ j,j < s->lC ops i j
theorem znw (h:ZY ops s=true):xR ops s:=by
 unfold ZY at h;simp only [Bool.and_eq_true,decide_eq_true_eq,List.all_eq_true,List.mem_range] at h;obtain ⟨h1,h2⟩:=h;have bq:∀ i o,ops[i]?=some o->i < ops.size/\ops.getD i default=o:=fun i o ho=>by
  have aK:=(Array.getElem?_eq_some_iff.1 ho).1
  refine ⟨aK,?_⟩
  have:=(Array.getElem?_eq_some_iff.1 ho).2;simp [aK,this]
 refine ⟨h1,fun i o ho e he hb=>?_,fun i o g ho hg hi=>?_,fun i o g ho hg hi=>?_,fun i hi hn j hj=>?_⟩
 .obtain ⟨a,b⟩:=bq i o ho;have:=(h2 i a).1;rw [b,Array.all_eq_true_iff_forall_mem] at this;have:=this e he;rw [hb] at this
  simpa using this
 .obtain ⟨a,b⟩:=bq i o ho;have:=(h2 i a).2;rw [b,if_pos hi,hg] at this
  simpa using this
 .obtain ⟨a,b⟩:=bq i o ho;have:=(h2 i a).2;rw [b,if_neg (by omega),hg] at this;simp only [Bool.and_eq_true,decide_eq_true_eq] at this;exact this.1
 .have:=(h2 i hn).2;rw [if_neg (by omega)] at this;simp only [Bool.and_eq_true,List.all_eq_true,List.mem_range] at this;exact UB ops.toList [] (fun k=>by simp) (fun a b h=>by simp at h) i j (this.2 j hj)
theorem zkS {tmps:Array Value} {j:Nat} (h:s<=j):yielded (yo ops s) tmps (j - s)=yielded ops tmps j:=by
 unfold yielded;rw [zjb,show s+(j - s)=j by omega]
 cases ops[j]?<;>rfl
theorem zln {tmps:Array Value} {j:Nat} (h:j < s):yielded (Dt ops s) tmps j=yielded ops tmps j:=by
 unfold yielded;rw [ziD ops h]
theorem zpG (hc:xR ops s) {i:Nat} (hi:s<=i) (hn:i < ops.size) {K:Act->World->Prop} {a:Act} {w:World} (h:wpOpIn F n P (yo ops s) Q (i - s) K a w):wpOpIn F n P ops Q i K a w:=by
 unfold wpOpIn at *;have hg:=Array.getElem?_eq_getElem hn;rw [zjb,show s+(i - s)=i by omega,hg] at h;rw [hg];simp only [Option.map_some] at h ⊢;have hw:Region.wanted (O5 s ops[i]) (yielded (yo ops s) a.tmps)=Region.wanted ops[i] (yielded ops a.tmps):=by
  unfold Region.wanted O5
  cases R7:ops[i].guard with
  | none=>rfl
  | some g =>
   simp only [Option.map_some];rw [zkS (hc.gt i _ g hg R7 hi)]
 rw [hw] at h;exact h
theorem zpu {o:Oper} {a:Act} {w:World} {K K1:Act->World->Prop} (h:o.wpIn F n P a w K (Exit.then K1 Q)):o.wpIn F n P a w K Q:=by
 unfold Oper.wpIn at *
 refine ⟨h.1,?_⟩
 have hh:=h.2;generalize (o.semAt F.round a.eval).run P w=r at *;have hl:LetsOut (Exit.then K1 Q)->LetsOut Q:=fun ⟨a,w,h⟩=>⟨a,w,h⟩
 cases r with
 | ok x w' =>
  cases x<;>simp only [Oper.uponIn] at hh ⊢ <;>
   first
    | exact hh
    | exact ⟨hh.1,CallsIn.mono hh.2 (fun e w'' he=>by cases e<;>first|exact hl he|exact he)⟩
    | exact ⟨hh.1,RoundIn.mono hh.2 (fun e w'' he=>by cases e<;>first|exact hl he|exact he)⟩
 | halt x w'=>cases x<;>simp only [Oper.uponIn] at hh ⊢<;>exact hh
theorem zpK (hc:xR ops s) {i:Nat} (hi:i < s) {K K1:Act->World->Prop} {a:Act} {w:World} (h:wpOpIn F n P (Dt ops s) (Exit.then K1 Q) i K a w):wpOpIn F n P ops Q i K a w:=by
 unfold wpOpIn at *;have hn:i < ops.size:=by have:=hc.le;omega
 have hg:=Array.getElem?_eq_getElem hn;rw [ziD ops hi,hg] at h;rw [hg];simp only at h ⊢;have hw:Region.wanted ops[i] (yielded (Dt ops s) a.tmps)=Region.wanted ops[i] (yielded ops a.tmps):=by
  unfold Region.wanted
  cases R7:ops[i].guard with
  | none=>rfl
  | some g =>
   simp only;rw [zln (hc.gh i _ g hg R7 hi)]
 rw [hw] at h
 split
 .rename_i hx;rw [if_pos hx] at h;exact zpu h
 .rename_i hx;rw [if_neg hx] at h;exact h
theorem zrt (hc:xR ops s):∀ (m:Nat) (L L2:Array Bool) (a:Act) (w:World),L.size=ops.size->L2.size=ops.size - s->(∀ j,j < s->L.getD j true=true/\L.getD j false=true)->(∀ j d,L2.getD j d=L.getD (s+j) d) ->
  wpAnyIn F n P .any (yo ops s) Q m L2 a w->wpAnyIn F n P .any ops Q m L a w:=by
 have vI:∀ (L L2:Array Bool),(∀ j,j < s->L.getD j true=true/\L.getD j false=true)->(∀ j d,L2.getD j d=L.getD (s+j) d)->∀ i,i∈Region.ready .any ops L↔s<=i/\i - s∈Region.ready .any (yo ops s) L2:=fun L L2 hd h i=>by
  rw [jJ,jJ,zkn,zjb]
  constructor
  .rintro ⟨h1,h2,o,h3,h4⟩;have hi:s<=i:=by
    rcases Nat.lt_or_ge i s with aK|UN
    .have:=(hd i aK).1;rw [this] at h2;simp at h2
    .exact UN
   refine ⟨hi,by omega,by rw [h,show s+(i - s)=i by omega];exact h2,O5 s o,by rw [show s+(i - s)=i by omega,h3];rfl,?_⟩
   intro e he hb;simp only [O5,Array.mem_map,Array.mem_filter,decide_eq_true_eq] at he;obtain ⟨e0,⟨he0,nU⟩,rfl⟩:=he;have:=h4 e0 he0 hb;rw [h];simp only;rw [show s+(e0.on - s)=e0.on by omega];exact this
  .rintro ⟨hi,h1,h2,o,h3,h4⟩;have e1:s+(i - s)=i:=by omega
   rw [h,e1] at h2;rw [e1] at h3;have hn:i < ops.size:=by omega
   rw [Array.getElem?_eq_getElem hn] at h3;simp only [Option.map_some,Option.some.injEq] at h3
   refine ⟨hn,h2,ops[i],Array.getElem?_eq_getElem hn,fun e he hb=>?_⟩
   rcases Nat.lt_or_ge e.on s with aK|UN
   .exact (hd _ aK).2
   .have:=h4 { e with on:=e.on - s } (by rw [<- h3];simp only [O5,Array.mem_map,Array.mem_filter,decide_eq_true_eq];exact ⟨e,⟨he,UN⟩,rfl⟩) hb;rw [h] at this;simp only at this;rwa [show s+(e.on - s)=e.on by omega] at this
 intro m
 induction m with
 | zero =>
  intro L L2 a w hL hL2 hd h hw
  refine ⟨?_,hw.2⟩
  rw [List.eq_nil_iff_forall_not_mem];intro i hi;have:=((vI L L2 hd h i).1 hi).2;rw [hw.1] at this;simp at this
 | succ m ih =>
  intro L L2 a w hL hL2 hd h hw
  refine ⟨fun hr=>hw.1 ?_,fun i hi=>?_⟩
  .rw [List.eq_nil_iff_forall_not_mem];intro p hp;have:=(vI L L2 hd h (s+p)).2 ⟨by omega,by rw [show s+p - s=p by omega];exact hp⟩;rw [hr] at this;simp at this
  .obtain ⟨h1,h2⟩:=(vI L L2 hd h i).1 hi;have hn:=(jJ.1 hi).1
   refine wpOpIn_mono (fun a' w' hk=>?_) (zpG hc h1 hn (hw.2 _ h2))
   refine ih _ _ _ _ (by simpa using hL) (by simpa using hL2) (fun j hj=>?_) (fun j d=>?_) hk
   .rw [zV,zV,if_neg (by omega),if_neg (by omega)];exact hd j hj
   .rw [zV,zV,h j d]
    by_cases e:i - s=j
    .rw [if_pos ⟨e,by omega⟩,if_pos ⟨by omega,by omega⟩]
    .rw [if_neg (fun h=>e h.1),if_neg (fun h=>e (by omega))]
theorem zrn (hc:xR ops s):∀ (m:Nat) (L LA:Array Bool) (a:Act) (w:World),L.size=ops.size->LA.size=s->(∀ j,j < s->∀ d,LA.getD j d=L.getD j d)->(∀ j,s<=j->j < ops.size->L.getD j true=false)->Closed ops L ->
  m=(List.range s).countP (fun i=>!LA.getD i true) ->
  wpAnyIn F n P .any (Dt ops s) (Exit.then (fun a' w'=>wpAnyIn F n P .any (yo ops s) Q (ops.size - s) (Array.replicate (ops.size - s) false) a' w') Q) m LA a w->wpAnyIn F n P .any ops Q (m+(ops.size - s)) L a w:=by
 intro m
 induction m with
 | zero =>
  intro L LA a w hL hLA h ht bW hm hw;have fe:∀ j,j < s->LA.getD j true=true:=fun j hj=>by
   have h0:(List.range s).countP (fun i=>!LA.getD i true)=0:=hm.symm;rw [List.countP_eq_zero] at h0;have:=h0 j (List.mem_range.2 hj)
   simpa using this
  have Lh:wpAnyIn F n P .any (yo ops s) Q (ops.size - s) (Array.replicate (ops.size - s) false) a w:=hw.2;rw [Nat.zero_add]
  refine zrt hc _ L _ a w hL (by simp) (fun j hj=>?_) (fun j d=>?_) Lh
  .have h1:=fe j hj;have h2:=h j hj;have Lj:j < L.size:=by have:=hc.le;omega
   rw [h2] at h1
   refine ⟨h1,?_⟩
   simpa [Lj] using h1
  .by_cases hj:s+j < ops.size
   .have:=ht (s+j) (by omega) hj;have Lj:s+j < L.size:=by omega
    simp only [Array.getD_eq_getD_getElem?,Lj,Array.getElem?_eq_getElem,Option.getD_some] at this ⊢;rw [this];simp [show j < ops.size - s by omega]
   .simp [Array.getD_eq_getD_getElem?,show ¬ j < ops.size - s by omega,show L.size<=s+j by omega]
 | succ m ih =>
  intro L LA a w hL hLA h ht bW hm hw;have hex:∃ j,j < s/\L.getD j true=false:=Classical.byContradiction fun vB=>by
   have h0:(List.range s).countP (fun i=>!LA.getD i true)=0:=by
    rw [List.countP_eq_zero];intro j hj;have hj:=List.mem_range.1 hj
    cases hx:L.getD j true with
    | true=>rw [h j hj,hx];simp
    | false=>exact absurd ⟨j,hj,hx⟩ vB
   omega
  obtain ⟨j0,R8,hu0⟩:=hex;have DT:=hc.le;rw [show m+1+(ops.size - s)=m+(ops.size - s)+1 by omega]
  refine ⟨fun hr=>absurd hr (zix hL hc.back ⟨j0,by omega,hu0⟩),fun i hi=>?_⟩
  obtain ⟨hu,hn,l6⟩:=RY hL hc.back hi;have bV:i < s:=by
   rcases Nat.lt_or_ge i s with aK|UN
   .exact aK
   .have:=(hc.wait i UN hn j0 R8).done bW l6;rw [hu0] at this;simp at this
  have hiA:i∈Region.ready .any (Dt ops s) LA:=by
   rw [jJ];obtain ⟨a1,a2,o,a3,a4⟩:=jJ.1 hi
   refine ⟨by rw [R6 DT];exact bV,by rw [h i bV];exact a2,o,by rw [ziD ops bV];exact a3,fun e he hb=>?_⟩
   have:=hc.back i o a3 e he hb;rw [h _ (by omega)];exact a4 e he hb
  refine wpOpIn_mono (fun a' w' hk=>?_) (zpK hc bV (hw.2 i hiA))
  refine ih _ _ _ _ (by simpa using hL) (by simpa using hLA) (fun j hj d=>?_) (fun j h1 h2=>?_) (zf4 hL bW l6) ?_ hk
  .rw [zV,zV,h j hj d]
   by_cases e:i=j
   .rw [if_pos ⟨e,by omega⟩,if_pos ⟨e,by omega⟩]
   .rw [if_neg (fun x=>e x.1),if_neg (fun x=>e x.1)]
  .rw [zV,if_neg (by omega)];exact ht j h1 h2
  .have hAs:LA.size=(Dt ops s).size:=by rw [R6 DT];exact hLA
   have:=zgT (ops:=Dt ops s) (L:=LA) hAs (i:=i) (m:=m) (by rw [R6 DT];exact bV) (by rw [h i bV];exact hu) (by rw [R6 DT];exact hm);rwa [R6 DT] at this
theorem ztt (hc:xR ops s) {a:Act} {w:World} (h:wpAnyIn F n P .any (Dt ops s) (Exit.then (fun a' w'=>wpAnyIn F n P .any (yo ops s) Q (yo ops s).size (Array.replicate (yo ops s).size false) a' w') Q) (Dt ops s).size (Array.replicate (Dt ops s).size false) a w) :
  wpAnyIn F n P .any ops Q ops.size (Array.replicate ops.size false) a w:=by
 have hle:=hc.le;rw [R6 hle,zkn] at h;have hcnt:s=(List.range s).countP (fun i=>!(Array.replicate s false).getD i true):=by
  have:(List.range s).countP (fun i=>!(Array.replicate s false).getD i true)=(List.range s).length:=List.countP_eq_length.2 fun i hi=>by
   have:=List.mem_range.1 hi;simp [this]
  rw [this,List.length_range]
 have:=zrn (Q:=Q) hc s (Array.replicate ops.size false) (Array.replicate s false) a w (by simp) (by simp) (fun j hj d=>by simp [hj,show j < ops.size by omega]) (fun j h1 h2=>by simp [h2]) (fun i o ho hd=>by
  have bV:i < ops.size:=(Array.getElem?_eq_some_iff.1 ho).1;simp [bV] at hd) hcnt h
 rwa [show s+(ops.size - s)=ops.size by omega] at this
end
section
variable {C:jC} {P:Program} {Z:List Nat} {S:Bool->Nat->Prop} {base lo nt:Nat} {φ:jI} {H H':Heap} {w:World} {env env':Env} {a:Act}
variable {ro:Option Nat} {n:Nat} {Q:Exit->Act->World->Prop}
theorem zhj {cl:Callee} (bW:bN C P cl) {ops:Array Oper} {c:aX} (hc:RF P Z nt ops=some c) :
  ∃ pre vs',c=.region (some pre) vs'/\∀ (env:Env) (H:Heap) (env':Env) (H':Heap) (φ:jI) (a:Act) (w:World) (Q:Exit->Act->World->Prop),lY cl pre vs' env H=some (env',H')->R C S base lo nt φ H env a w->(∀ φ' a' w',fT φ H w φ' H' w'->R C S base lo nt φ' H' env' a' w'->Q .normal a' w') ->
  wpAnyIn (Fw ro) n P .any ops Q ops.size (Array.replicate ops.size false) a w:=by
 unfold RF at hc
 split at hc
 .simp at hc
 .rename_i vs p9
  split at hc
  .rename_i c' Fe;simp at hc;subst hc;exact zj2 bW Fe
  .split at hc
   .rename_i bQ;simp at hc;subst hc;exact ⟨_,_,rfl,fun env H env' H' φ a w Q hr hR hQ=>zg8 bW bQ (zhe bQ) p9 hr hR hQ⟩
   .simp at hc
theorem zhm {ops:Array Oper} {c:aX} (hc:RF P Z nt ops=some c):∃ pre vs',c=.region (some pre) vs':=by
 unfold RF at hc
 split at hc
 .simp at hc
 .split at hc
  .rename_i c' Fe;simp at hc;subst hc;unfold RB at Fe
   split at Fe
   .simp at Fe
   .simp only at Fe
    split at Fe
    .simp at Fe
    .split at Fe
     .simp at Fe;exact ⟨_,_,Fe.symm⟩
     .simp at Fe
  .split at hc
   .simp at hc;exact ⟨_,_,hc.symm⟩
   .simp at hc
theorem zi3 {cl:Callee}:∀ (ss:List Nat) (ops:Array Oper) (c:aX),RG P Z nt ss ops=some c->∀ {env:Env} {H:Heap} {x:fO} {env':Env} {H':Heap},exec cl c env H=some (x,env',H')->x=.normal
 | [],ops,c,hc,env,H,x,env',H',hx=>by
  obtain ⟨pre,vs',rfl⟩:=zhm hc;simp only [exec] at hx
  split at hx
  .simp at hx;exact hx.1.symm
  .simp at hx
 | s::ss,ops,c,hc,env,H,x,env',H',hx=>by
  unfold RG at hc
  split at hc
  .split at hc
   .rename_i c1 c2 h1 h2;simp at hc;subst hc;obtain ⟨pre,vs',rfl⟩:=zhm h1;simp only [exec] at hx
    cases hr:lY cl ((some pre).getD 0) vs' env H with
    | none=>rw [hr] at hx;simp at hx
    | some r =>
     obtain ⟨e1,H1⟩:=r;rw [hr] at hx;exact zi3 ss _ _ h2 hx
   .simp at hc
  .simp at hc
theorem zkB {cl:Callee} (bW:bN C P cl):∀ (ss:List Nat) (ops:Array Oper) (c:aX),RG P Z nt ss ops=some c->∀ (env:Env) (H:Heap) (x:fO) (env':Env) (H':Heap) (φ:jI) (a:Act) (w:World) (Q:Exit->Act->World->Prop),exec cl c env H=some (x,env',H')->R C S base lo nt φ H env a w->(∀ φ' a' w',fT φ H w φ' H' w'->R C S base lo nt φ' H' env' a' w'->Q .normal a' w') ->
  x=.normal/\wpAnyIn (Fw ro) n P .any ops Q ops.size (Array.replicate ops.size false) a w
 | [],ops,c,hc,env,H,x,env',H',φ,a,w,Q,hx,hR,hQ=>by
  obtain ⟨pre,vs',rfl,hw⟩:=zhj (S:=S) (base:=base) (lo:=lo) (ro:=ro) (n:=n) bW hc;simp only [exec,Option.getD_some] at hx
  split at hx
  .rename_i e1 H1 hr;simp at hx;obtain ⟨rfl,rfl,rfl⟩:=hx;exact ⟨rfl,hw _ _ _ _ _ _ _ _ hr hR hQ⟩
  .simp at hx
 | s::ss,ops,c,hc,env,H,x,env',H',φ,a,w,Q,hx,hR,hQ=>by
  unfold RG at hc
  split at hc
  .rename_i bQ
   split at hc
   .rename_i c1 c2 h1 h2;simp at hc;subst hc;obtain ⟨pre,vs',rfl,hw⟩:=zhj (S:=S) (base:=base) (lo:=lo) (ro:=ro) (n:=n) bW h1;simp only [exec,Option.getD_some] at hx
    cases hr:lY cl pre vs' env H with
    | none=>rw [hr] at hx;simp at hx
    | some r =>
     obtain ⟨e1,H1⟩:=r;rw [hr] at hx;simp only at hx;have main:∀ φ1 a1 w1,fT φ H w φ1 H1 w1->R C S base lo nt φ1 H1 e1 a1 w1->x=.normal/\wpAnyIn (Fw ro) n P .any (yo ops s) Q (yo ops s).size (Array.replicate (yo ops s).size false) a1 w1:=fun φ1 a1 w1 he nu =>
      zkB bW ss (yo ops s) c2 h2 e1 H1 x env' H' φ1 a1 w1 Q hx nu fun φ' a' w' F3 tu=>hQ φ' a' w' (he.trans F3) tu
     have hxn:x=.normal:=by
      exact zi3 ss _ _ h2 hx
     exact ⟨hxn,ztt (znw bQ) (hw _ _ _ _ _ _ _ _ hr hR fun φ1 a1 w1 he nu=>(main φ1 a1 w1 he nu).2)⟩
   .simp at hc
  .simp at hc
end
def CC (P:Program):jC:=fun nt c v=>∃ Z,zR P Z nt c=some v/\v.fE=true
section rules
variable {F:Fence} {n:Nat} {P:Program} {Q:Exit->Act->World->Prop} {a:Act} {w:World}
theorem R9 {b:Frame} {k:List Item} {cs:List Frame} {c:Code}:Go.step P (lone (b.atR a (.code (.scope c)::k)) cs w)=.next (lone (b.atR a (.code c::.inScope c::k)) cs w) :=
 step_lone_go (by simp [stepG,stepG.exec,Frame.atR])
theorem zjB {b:Frame} {k:List Item} {cs:List Frame} {c:Code}:Go.step P (lone (b.atR a (.inScope c::k)) cs w)=.next (lone (b.atR a k) cs w) :=
 step_lone_go (by simp [stepG,stepG.exec,Frame.atR])
theorem zoj {c:Code} (h:c.wpIn F n P (fun e a w=>Q e a w/\∀ l,e≠.goto l) a w):(Code.scope c).wpIn F n P Q a w:=by
 intro b k cs uT hb hr;have h0:(lone (b.atR a (.code (.scope c)::k)) cs w).fenced P F:=fenced_calm hb hr rfl;obtain ⟨e,a₁,w₁,⟨hq,X9⟩,mQ⟩:=h b (.inScope c::k) cs uT hb hr
 cases e with
 | normal=>exact ⟨.normal,a₁,w₁,hq,.head h0 R9 (StepsIn.trans mQ (.one (fenced_calm hb hr rfl) zjB))⟩
 | exit id =>
  have hx:exitTo id (.inScope c::k)=exitTo id k:=by simp [exitTo]
  exact ⟨.exit id,a₁,w₁,hq,fun k' hk=>.head h0 R9 (mQ.1 k' (by rw [hx];exact hk)),
   fun Ff hk=>let ⟨k₁,h1,h2⟩:=mQ.2 Ff (by rw [hx];exact hk);⟨k₁,h1,.head h0 R9 h2⟩⟩
 | goto l=>exact absurd rfl (X9 l)
 | ret=>exact ⟨_,a₁,w₁,hq,.of_steps (.one h0 R9) mQ⟩
 | panic ch=>exact ⟨_,a₁,w₁,hq,.of_steps (.one h0 R9) mQ⟩
 | outgrown=>exact ⟨_,a₁,w₁,hq,.of_steps (.one h0 R9) mQ⟩
theorem zmm {c:Code} (I:Nat->Act->World->Prop) (m:Nat) (h₀:I m a w)
  (round:∀ m a w,I m a w->∃ k,m=k+1/\c.wpIn F n P (Exit.then (fun a' w'=>I k a' w') Q) a w):(Code.loop c).wpIn F n P Q a w:=by
 intro b k cs uT hb hr;have key:∀ j a w,I j a w ->
   ∃ e a' w',Q e a' w'/\ArrivesIn (Machine.fenced P F) P (lone (b.atR a (.code c::.inLoop c::k)) cs w) b k cs e a' w':=by
  intro j
  induction j with
  | zero=>intro a w hI;obtain ⟨k,h,_⟩:=round 0 a w hI;omega
  | succ j ih =>
   intro a w hI;obtain ⟨k',xI,DJ⟩:=round _ a w hI;have hk'':k'=j:=by omega
   subst hk'';obtain ⟨e,a₁,w₁,hq,mQ⟩:=DJ b (.inLoop c::k) cs uT hb hr
   cases e with
   | normal =>
    obtain ⟨e₂,a₂,w₂,hq₂,harr₂⟩:=ih a₁ w₁ hq;exact ⟨e₂,a₂,w₂,hq₂,.of_steps (StepsIn.trans mQ (.one (fenced_calm hb hr rfl) stepR_inLoop)) harr₂⟩
   | exit id=>exact ⟨_,a₁,w₁,hq,.pass (x:=.inLoop c) rfl (fun _ _=>.inl (by simp)) mQ⟩
   | goto l=>exact ⟨_,a₁,w₁,hq,.pass (x:=.inLoop c) rfl (fun _ _=>.inl (by simp)) mQ⟩
   | ret=>exact ⟨_,a₁,w₁,hq,.pass (x:=.inLoop c) rfl (fun _ _=>.inl (by simp)) mQ⟩
   | panic ch=>exact ⟨_,a₁,w₁,hq,.pass (x:=.inLoop c) rfl (fun _ _=>.inl (by simp)) mQ⟩
   | outgrown=>exact ⟨_,a₁,w₁,hq,.pass (x:=.inLoop c) rfl (fun _ _=>.inl (by simp)) mQ⟩
 obtain ⟨e,a',w',hq,mQ⟩:=key _ a w h₀;exact ⟨e,a',w',hq,.of_steps (.one (fenced_calm hb hr rfl) stepR_loop) mQ⟩
end rules
theorem zhD {P:Program} {w:World} {b:Nat} {l:Loop} (h:w.heap[b]?=some (.loop l)):(getObj b).run P w=.ok (.loop l) w:=by simp [getObj,Sem.run,h]
theorem zfd {P:Program} {w:World} {b:Nat} {l:Loop} (h:w.heap[b]?=some (.loop l)):(Instr.getLoop b).run P w=.ok l w:=by
 simp only [Instr.getLoop,Sem.run_bind,zhD h,Result.andThen_ok,Sem.run_pure]
def laid (w:World) (b:Nat) (o:Obj):World:={ w with heap:=w.heap.setIfInBounds b o }
theorem zda {P:Program} {w:World} {b:Nat} {l:Loop} (h:w.heap[b]?=some (.loop l)) (o:Obj):(setObj b o).run P w=.ok () (laid w b o):=by simp [setObj,Sem.run,h,laid]
theorem F4 {w:World} {b c:Nat} {o:Obj} (h:c≠b):(laid w b o).heap[c]?=w.heap[c]?:=by
 simp only [laid,Array.getElem?_setIfInBounds];rw [if_neg (fun e=>h e.symm)]
theorem zjJ {w:World} {b:Nat} {o:Obj} (h:b < w.heap.size):(laid w b o).heap[b]?=some o:=by
 simp [laid,h]
theorem UO {w:World} {b:Nat} {o:Obj} (h:w.heap[b]?=some o):b < w.heap.size:=by
 rcases Nat.lt_or_ge b w.heap.size with hb|hb
 .exact hb
 .rw [Array.getElem?_eq_none hb] at h;simp at h
theorem Sd (w:World) (o:Obj):(w.alloc o).heap.size=w.heap.size+1:=Array.size_push _
theorem zmo (w:World) (o:Obj):(w.alloc o).heap[w.heap.size]?=some o:=Array.getElem?_push_size
theorem zr2 {P:Program} {w:World} (o:Obj):(newObj o).run P w=.ok w.heap.size (w.alloc o):=rfl
theorem zjx {P:Program} {w:World} (fn:FuncId) (tmps:Array Value) (ps:Array Tmp) (assign body:Code) :
  (Instr.enterLoop fn tmps ps assign body none).run P w=.ok (w.heap.size+1,[IK w.heap.size]) ((w.alloc (.deferred (some []))).alloc (.loop { state:=.ready,pending:=none,fn:=fn,tmps:=tmps,params:=ps,assign:=assign,body:=body,defers:=w.heap.size })):=by
 simp only [Instr.enterLoop,Sem.run_bind,Result.andThen_ok,Sem.run_pure,zr2,Sd]
theorem ziu (x:fO) (l:Nat):ZQ x≠.goto l:=by cases x<;>simp [ZQ]
section
variable {P:Program} {Z:List Nat} {S:Bool->Nat->Prop} {base lo nt:Nat} {n:Nat}
theorem zqd (f:Env->Heap->Out) (m:Nat) (env:Env) (H:Heap):iter f (m+1) env H=match f env H with
  | some (.normal,env',H')=>iter f m env' H'
  | r=>r:=rfl
theorem zfQ {cl:Callee} (bW:bN (CC P) P cl) (sj:P.follows .mixedOrders=true) {ro:Option Nat}:∀ (c:Code) (vc:aX) (env:Env) (H:Heap) (x:fO) (env':Env) (H':Heap) (φ:jI) (a:Act) (w:World) (Q:Exit->Act->World->Prop),
  (ro=none\/vc.fE=true)->zR P Z nt c=some vc->exec cl vc env H=some (x,env',H')->R (CC P) S base lo nt φ H env a w ->
  (∀ φ' a' w',fT φ H w φ' H' w'->R (CC P) S base lo nt φ' H' env' a' w'->Q (ZQ x) a' w')->c.wpIn (Fw ro) n P Q a w:=by
 intro c
 induction c with
 | skip =>
  intro vc env H x env' H' φ a w Q uT hc hx hR hQ;simp [zR] at hc;subst hc;simp [exec] at hx;obtain ⟨rfl,rfl,rfl⟩:=hx;exact wpIn_skip (hQ φ a w fT.refl hR)
 | label l =>
  intro vc env H x env' H' φ a w Q uT hc hx hR hQ;simp [zR] at hc;subst hc;simp [exec] at hx;obtain ⟨rfl,rfl,rfl⟩:=hx;exact wpIn_label (hQ φ a w fT.refl hR)
 | region id ops draw =>
  intro vc env H x env' H' φ a w Q uT hc hx hR hQ;simp only [zR] at hc
  split at hc
  .rename_i s ss _
   split at hc
   .rename_i hd;subst hd;have qm:fT φ H w φ H w.drew:=Bj;have hxn:=zi3 (s::ss) ops vc hc hx;subst hxn;exact wpIn_region_any sj (zkB (S:=S) (base:=base) (lo:=lo) (ro:=ro) (n:=n) bW (s::ss) ops vc hc env H .normal env' H' φ a w.drew Q hx (znx hR) fun φ' a' w' he tu=>hQ φ' a' w' (qm.trans he) tu).2
   .simp at hc
  split at hc
  .simp at hc
  .rename_i vs p9
   split at hc
   .rename_i hd;subst hd
    split at hc
    .rename_i c' Fe;simp at hc;subst hc;obtain ⟨pre,vs',rfl,hw⟩:=zrC (ro:=ro) (n:=n) (Q:=Q) (id:=id) (env:=env) (H:=H) (env':=env') (H':=H') (φ:=φ) (a:=a) (w:=w) bW sj Fe;simp only [exec,Option.getD_some] at hx
     split at hx
     .rename_i e1 H1 hr;simp at hx;obtain ⟨rfl,rfl,rfl⟩:=hx;exact hw hr hR hQ
     .simp at hx
    split at hc
    .rename_i bQ;simp at hc;subst hc;simp only [exec,Option.getD_some] at hx
     split at hx
     .rename_i e1 H1 hr;simp at hx;obtain ⟨rfl,rfl,rfl⟩:=hx;exact ztp bW sj bQ (zhe bQ) p9 hr hR hQ
     .simp at hx
    .simp at hc
   .rename_i hd;simp at hc;subst hc;have qm:draw=false:=by simpa using hd
    subst qm;simp only [exec,Option.getD_none] at hx
    split at hx
    .rename_i e1 H1 hr;simp at hx;obtain ⟨rfl,rfl,rfl⟩:=hx
     refine wpIn_region ?_
     rw [List.range_eq_range'];exact zoa bW ops.toList vs 0 env H φ a w _ _ (fun j=>by simp) p9 hr hR hQ
    .simp at hx
 | seq c1 c2 ih1 ih2 =>
  intro vc env H x env' H' φ a w Q uT hc hx hR hQ;simp only [zR] at hc
  split at hc
  .rename_i v1 v2 h1 h2;simp at hc;subst hc;have PK:ro=none\/v1.fE=true:=uT.imp id fun h=>by simp [aX.fE] at h;exact h.1
   have PL:ro=none\/v2.fE=true:=uT.imp id fun h=>by simp [aX.fE] at h;exact h.2
   refine wpIn_seq ?_
   simp only [exec] at hx
   cases wX:exec cl v1 env H with
   | none=>rw [wX] at hx;simp at hx
   | some r =>
    obtain ⟨x1,wY,H1⟩:=r;rw [wX] at hx
    refine ih1 v1 env H x1 wY H1 φ a w _ PK h1 wX hR fun φ1 a1 w1 rR nu=>?_
    cases x1 with
    | normal =>
     simp only at hx;exact ih2 v2 wY H1 x env' H' φ1 a1 w1 Q PL h2 hx nu fun φ2 a2 w2 rQ jk=>hQ φ2 a2 w2 (rR.trans rQ) jk
    | exit i =>
     simp at hx;obtain ⟨rfl,rfl,rfl⟩:=hx;exact hQ φ1 a1 w1 rR nu
    | ret =>
     simp at hx;obtain ⟨rfl,rfl,rfl⟩:=hx;exact hQ φ1 a1 w1 rR nu
  .simp at hc
 | cond cnd c1 c2 ih1 ih2 =>
  intro vc env H x env' H' φ a w Q uT hc hx hR hQ;simp only [zR] at hc
  split at hc
  .rename_i z v1 v2 hz h1 h2;simp at hc;subst hc;have PK:ro=none\/v1.fE=true:=uT.imp id fun h=>by simp [aX.fE] at h;exact h.1
   have PL:ro=none\/v2.fE=true:=uT.imp id fun h=>by simp [aX.fE] at h;exact h.2
   simp only [exec] at hx
   split at hx
   .rename_i t ht;have hv:=zJ hR.env hz;rw [ht] at hv
    refine wpIn_cond hv.iF ?_
    cases t with
    | true=>simp only [if_true] at hx ⊢;exact ih1 v1 env H x env' H' φ a w Q PK h1 hx hR hQ
    | false=>simp only [Bool.false_eq_true,if_false] at hx ⊢;exact ih2 v2 env H x env' H' φ a w Q PL h2 hx hR hQ
   .simp at hx
  .simp at hc
 | block id c ih =>
  intro vc env H x env' H' φ a w Q uT hc hx hR hQ;simp only [zR,Option.map_eq_some_iff] at hc;obtain ⟨v,hv,rfl⟩:=hc
  refine wpIn_block ?_
  simp only [exec] at hx
  cases wX:exec cl v env H with
  | none=>rw [wX] at hx;simp at hx
  | some r =>
   obtain ⟨x1,wY,H1⟩:=r;rw [wX] at hx
   refine ih v env H x1 wY H1 φ a w _ uT hv wX hR fun φ1 a1 w1 rR nu=>?_
   cases x1 with
   | normal =>
    simp at hx;obtain ⟨rfl,rfl,rfl⟩:=hx;exact hQ φ1 a1 w1 rR nu
   | exit i =>
    simp only at hx;show Exit.inBlock id Q (.exit i) a1 w1
    by_cases hi:i=id
    .simp [hi] at hx;obtain ⟨rfl,rfl,rfl⟩:=hx;simp only [Exit.inBlock,hi,if_true];exact hQ φ1 a1 w1 rR nu
    .simp [hi] at hx;obtain ⟨rfl,rfl,rfl⟩:=hx;simp only [Exit.inBlock,hi,if_false];exact hQ φ1 a1 w1 rR nu
   | ret =>
    simp at hx;obtain ⟨rfl,rfl,rfl⟩:=hx;exact hQ φ1 a1 w1 rR nu
 | loop c ih =>
  intro vc env H x env' H' φ a w Q uT hc hx hR hQ;simp only [zR,Option.map_eq_some_iff] at hc;obtain ⟨v,hv,rfl⟩:=hc;simp only [exec] at hx
  refine zmm (I:=fun m a1 w1=>∃ φ1 wY H1,fT φ H w φ1 H1 w1/\R (CC P) S base lo nt φ1 H1 wY a1 w1/\iter (exec cl v) m wY H1=some (x,env',H')) zz ⟨φ,env,H,fT.refl,hR,hx⟩ ?_
  rintro m a1 w1 ⟨φ1,wY,H1,rR,nu,hi⟩
  cases m with
  | zero=>simp [iter] at hi
  | succ m =>
   refine ⟨m,rfl,?_⟩
   rw [zqd] at hi
   cases wX:exec cl v wY H1 with
   | none=>rw [wX] at hi;simp at hi
   | some r =>
    obtain ⟨x2,iB,H2⟩:=r;rw [wX] at hi
    refine ih v wY H1 x2 iB H2 φ1 a1 w1 _ uT hv wX nu fun φ2 a2 w2 rQ jk=>?_
    cases x2 with
    | normal=>exact ⟨φ2,iB,H2,rR.trans rQ,jk,hi⟩
    | exit i =>
     simp at hi;obtain ⟨rfl,rfl,rfl⟩:=hi;exact hQ φ2 a2 w2 (rR.trans rQ) jk
    | ret =>
     simp at hi;obtain ⟨rfl,rfl,rfl⟩:=hi;exact hQ φ2 a2 w2 (rR.trans rQ) jk
 | exit id =>
  intro vc env H x env' H' φ a w Q uT hc hx hR hQ;simp [zR] at hc;subst hc;simp [exec] at hx;obtain ⟨rfl,rfl,rfl⟩:=hx;exact wpIn_exit (hQ φ a w fT.refl hR)
 | ret =>
  intro vc env H x env' H' φ a w Q uT hc hx hR hQ;simp [zR] at hc;subst hc;simp [exec] at hx;obtain ⟨rfl,rfl,rfl⟩:=hx;exact wpIn_ret (hQ φ a w fT.refl hR)
 | scope c ih =>
  intro vc env H x env' H' φ a w Q uT hc hx hR hQ;simp only [zR] at hc;exact zoj (ih vc env H x env' H' φ a w _ uT hc hx hR fun φ' a' w' he tu=>⟨hQ φ' a' w' he tu,ziu x⟩)
 | goto l =>
  intro vc env H x env' H' φ a w Q uT hc;simp [zR] at hc
 | refuse u =>
  intro vc env H x env' H' φ a w Q uT hc;simp [zR] at hc
 | rangeFunc g ps assign body ih1 ih2 =>
  intro vc env H x env' H' φ a w Q uT hc hx hR hQ;clear ih1 ih2;simp only [zR] at hc
  split at hc
  .rename_i z v1 v2 hz h1 h2
   split at hc
   .rename_i aM;simp at hc;subst hc;simp only [Bool.and_eq_true,List.all_eq_true,decide_eq_true_eq] at aM;obtain ⟨⟨sD,vJ⟩,IZ⟩:=aM;have hro':ro=none:=by
     rcases uT with h|h
     .exact h
     .simp [aX.fE] at h
    subst hro'
    refine wpIn_rangeFunc fun fn _=>?_
    -- the record is laid
    let lp:Loop:={ state:=.ready,pending:=none,fn:=fn,tmps:=a.tmps,params:=ps,assign:=assign,body:=body,defers:=w.heap.size }
    let w1:World:=(w.alloc (.deferred (some []))).alloc (.loop lp)
    have sF:Below w.heap.size w w1:=((Below.refl _ w).alloc (Nat.le_refl _) _).alloc (by rw [Sd];omega) _;have hl1:w1.heap[w.heap.size+1]?=some (.loop lp):=by have:=zmo (w.alloc (.deferred (some []))) (.loop lp);rwa [Sd] at this
    have NA:w1.heap[w.heap.size]?=some (.deferred (some [])):=(Below.heap_alloc _ _ _ (by rw [Sd];omega)).trans (zmo w _);have hsz1:w1.heap.size=w.heap.size+2:=by show ((w.alloc (.deferred (some []))).alloc (.loop lp)).heap.size=_;rw [Sd,Sd]
    have aS:=hR.heap.new (H':=H.alloc (.loop { env:=env,params:=ps.toList,assign:=v1,body:=v2,state:=.ready,pending:=.normal })) (id:=H.nx) (b:=w.heap.size+1) (n:=0) sF (zgW hR.heap) O3 (fun i hi _=>Nr hi)
     (Nat.lt_succ_self _) (Nat.le_succ _) (Nat.le_succ _) (by rw [hsz1];omega)
     ⟨lp,hl1,rfl,rfl,rfl,⟨Z,by show zR P Z a.tmps.size assign=_;rw [hR.size];exact h1,vJ⟩,⟨Z,by show zR P Z a.tmps.size body=_;rw [hR.size];exact h2,IZ⟩,
      fun t=>(hR.env t).mono (fun _ b hb=>⟨hb,sF.block b hb.2.1⟩) (fun _ _ h=>h),fun t ht=>by show t < a.tmps.size;rw [hR.size];exact sD t ht⟩
    obtain ⟨DU,Bl⟩:=aS;generalize hHe:H.alloc (.loop { env:=env,params:=ps.toList,assign:=v1,body:=v2,state:=.ready,pending:=.normal })=H1 at DU Bl;generalize hφe:ER φ H.nx (w.heap.size+1,0)=φ1 at DU Bl;have hφ1:φ1 H.nx=some (w.heap.size+1,0):=by rw [<- hφe,Dp]
    have PM:aL (aY S base φ1 H1 w1) φ1 w1 (.yield H.nx) (.func (.yield (w.heap.size+1)) #[] #[]):=.yield _ _ _ hφ1;have PN:(Instr.enterLoop fn a.tmps ps assign body (Fw none).round).run P w=.ok (w.heap.size+1,[IK w.heap.size]) w1:=by
     show (Instr.enterLoop fn a.tmps ps assign body none).run P w=_;exact zjx fn a.tmps ps assign body
    have Ya:=DU.yn (zJ hR.env hz)
    -- after the call
    have after:∀ (v:AV) (H2:Heap) (r:EL),H2.get H.nx=.loop r->(match r.state with|.busy=>none|_=>some (r.pending,env,H2.set H.nx .dead):Out)=some (x,env',H') ->
      ∀ (φ2:jI) (w3:World),fT φ1 H1 w1 φ2 H2 w3->aU (CC P) S base φ2 H2 w3 ->
      ∃ jump w₄,(Instr.endLoop (w.heap.size+1)).run P w3=.ok jump w₄ /\
       (match jump with
        | none=>Q .normal { a with defers:=[IK w.heap.size]++a.defers } w₄
        | some c=>c.wpIn (Fw none) n P Q { a with defers:=[IK w.heap.size]++a.defers } w₄):=by
     intro v H2 r hr bD φ2 w3 uf DR;have jD:=uf.phi _ _ hφ1;have ho:=DR.obj _ _ _ jD;rw [hr] at ho;obtain ⟨l2,g1,g2,g3,g4,g5,g6,g7,g8⟩:=ho;have J5:r.state≠.busy:=fun e=>by rw [e] at bD;simp at bD
     have UQ:r.pending=x/\env=env'/\H2.set H.nx .dead=H':=by
      cases hs:r.state<;>rw [hs] at bD<;>simp at bD<;>first|exact bD|exact absurd hs J5
     obtain ⟨rfl,rfl,rfl⟩:=UQ;have DV:(l2.state == LoopState.busy)=false:=by
      rw [g2]
      cases hs:r.state<;>first|rfl|exact absurd hs J5
     have DW:(Instr.endLoop (w.heap.size+1)).run P w3=.ok l2.pending (laid w3 (w.heap.size+1) (.loop { l2 with state:=.exhausted })):=by
      simp only [Instr.endLoop,Sem.run_bind,zfd g1,Result.andThen_ok,DV,Bool.false_eq_true,if_false,Sem.run_pure,zda g1]
     obtain ⟨I1,Yb⟩:=DR.write (o:=.dead) (w':=laid w3 (w.heap.size+1) (.loop { l2 with state:=.exhausted })) jD (by rw [hr];rfl) rfl rfl rfl (by simp [laid]) (fun c hc=>F4 hc) trivial;have PO:=DU.trans (uf.trans I1);have tu:R (CC P) S base lo nt φ2 (H2.set H.nx .dead) env { a with defers:=[IK w.heap.size]++a.defers } (laid w3 (w.heap.size+1) (.loop { l2 with state:=.exhausted })):=by
      refine ⟨Yb,fun t=>PO.yn (hR.env t),hR.size,Nat.le_trans hR.wU PO.size,?_⟩
      obtain ⟨marks,m1,m2,m3⟩:=hR.defs
      refine RS Bl (uf.trans I1) ⟨w.heap.size::marks,by simp [m1],List.nodup_cons.2 ⟨fun hm=>?_,m2⟩,fun r hr=>?_⟩
      .have:=UO (m3 _ hm).2;omega
      .rcases List.mem_cons.1 hr with rfl|hr
       .exact ⟨hR.wU,NA⟩
       .have:=m3 r hr;exact ⟨this.1,(sF.block r (UO this.2)).trans this.2⟩
     refine ⟨_,_,DW,?_⟩
     have hq:=hQ φ2 _ _ PO tu;generalize laid w3 (w.heap.size+1) (.loop { l2 with state:=.exhausted })=w4 at hq ⊢;rw [g3]
     cases hp:r.pending with
     | normal=>rw [hp] at hq;exact hq
     | exit i=>rw [hp] at hq;exact wpIn_exit hq
     | ret=>rw [hp] at hq;exact wpIn_ret hq
    have fin:∀ (f:Nat) (caps:List AV) (lu:Array Value),a.eval g=.func (.func f) #[] lu->aJ (aY S base φ1 H1 w1) φ1 w1 caps lu.toList ->
      (match cl.run f (.yield H.nx::caps) H1 with
       | some (_,H2)=>match H2.get H.nx with
        | .loop r=>match r.state with
         | .busy=>none
         | _=>some (r.pending,env,H2.set H.nx .dead)
        | _=>none
       | none=>none:Out)=some (x,env',H') ->
      ∃ (l:Nat) (mark:List Deferred) (w₁:World) (d:Deferred) (w₁':World) (f:FuncId) (args:Array Value) (w₂:World),
       (Instr.enterLoop fn a.tmps ps assign body (Fw none).round).run P w=.ok (l,mark) w₁ /\
       (resolve a.eval (rangeCall g l) 0).run P w₁=.ok d w₁' /\
       (∀ f',Target.leads P w₁' d.target d.args=some f'->(Fw none).fn f') /\
       (invoke d.target d.args).run P w₁'=.ok (.enter f args) w₂ /\
       ((Fw none).depth.isSome=true->1<=n) /\
       CallsIn (Fw none) (n - 1) P f args w₂ (rangePost (Fw none) n P l Q { a with defers:=mark++a.defers }):=by
     intro f caps lu hg Bf hm
     cases bO:cl.run f (.yield H.nx::caps) H1 with
     | none=>rw [bO] at hm;simp at hm
     | some res =>
      obtain ⟨v,H2⟩:=res;rw [bO] at hm;simp only at hm;obtain ⟨hf,PQ⟩:=bW.run _ _ _ _ _ bO;have E8:(Value.func (.yield (w.heap.size+1)) #[] #[]::lu.toList).toArray=#[Value.func (.yield (w.heap.size+1)) #[] #[]]++lu:=by
       apply Array.ext';simp
      refine ⟨w.heap.size+1,[IK w.heap.size],w1,{ target:=.fn (.func f) lu,args:=#[.func (.yield (w.heap.size+1)) #[] #[]] },w1,f,#[Value.func (.yield (w.heap.size+1)) #[] #[]]++lu,w1,PN,?_,fun _ _=>trivial,?_,fun h=>by simp [Fw,Fence.wide] at h,?_⟩
      .simp only [resolve,rangeCall,hg,Deferred.ofValue,Sem.run_pure];simp [Act.eval]
      .simp only [invoke];rw [zgv hf]
      .rw [<- E8]
       refine CallsIn.mono (PQ (n - 1) S base φ1 w1 _ Bl (.cons PM Bf)) ?_
       rintro e w3 ⟨u,φ2,rfl,uf,DR,_⟩
       cases hr:H2.get H.nx with
       | loop r =>
        rw [hr] at hm;exact after v H2 r hr hm φ2 w3 uf DR
       | dead=>rw [hr] at hm;simp at hm
       | cells o cs=>rw [hr] at hm;simp at hm
       | raw z=>rw [hr] at hm;simp at hm
       | ji es=>rw [hr] at hm;simp at hm
    simp only [exec] at hx;rw [hHe] at hx
    split at hx
    .rename_i f caps hf;rw [hf] at Ya;obtain ⟨vs,e1,e2,e3⟩:=Ya.aI.lq;exact fin f _ vs e1 (aJ.p8 (by simpa using e2) fun i p v hp hv=>e3 i p v hp (by simpa using hv)) hx
    .rename_i f caps hf;rw [hf] at Ya;obtain ⟨vs,e1,e2,e3⟩:=Ya.lq;exact fin f _ vs e1 (aJ.si e2 e3) hx
    .simp at hx
   .simp at hc
  .simp at hc
end
def Yc (w:World) (b:Nat):Prop:=∃ c t fz,w.heap[b]?=some (.cells c t fz)
theorem ze5 {w:World} {b k:Nat} {v:Value} (h:w.cell? ⟨b,k,none⟩=some v):Yc w b:=by
 simp only [World.cell?] at h
 split at h
 .rename_i c t fz hb;exact ⟨c,t,fz,hb⟩
 .simp at h
theorem bR.touch {I I':Bool->Nat->Prop} {w w':World} (hI:∀ k b,I k b->Yc w b->I' k b/\w'.heap[b]?=w.heap[b]?) {p:PV} {v:Value} (h:bR I w p v):bR I' w' p v:=by
 induction h with
 | int k n=>exact .int k n
 | bool b=>exact .bool b
 | str s=>exact .str s
 | agg cs vs hl _ ih=>exact .agg cs vs hl ih
 | aQ cs vs hl _ ih=>exact .aQ cs vs hl ih
 | nils=>exact .nils
 | slice k sz es b o len cap val hlen hc hz hm _ ih =>
  refine .slice k sz es b o len cap val hlen hc hz (fun i e j p he hp=>?_) ih
  obtain ⟨h1,h2⟩:=hm i e j p he hp;have h3:=hI _ _ h1 (ze5 h2);exact ⟨h3.1,(World.cell?_of_block (a:=⟨b,o+i*sz+j,none⟩) h3.2).trans h2⟩
 | l8=>exact .l8
 | ptr k cs off b o o' val ho hm _ ih =>
  refine .ptr k cs off b o o' val ho (fun j p hp=>?_) ih
  obtain ⟨h1,h2⟩:=hm j p hp;have h3:=hI _ _ h1 (ze5 h2);exact ⟨h3.1,(World.cell?_of_block (a:=⟨b,o+j,none⟩) h3.2).trans h2⟩
 | func f cs vs hl _ ih=>exact .func f cs vs hl ih
 | l9=>exact .l9
 | lN f cs vs hl _ ih=>exact .lN f cs vs hl ih
theorem aL.touch {I I':Bool->Nat->Prop} {φ:jI} {w w':World} (hI:∀ k b,I k b->Yc w b->I' k b/\w'.heap[b]?=w.heap[b]?) {a:AV} {v:Value} (h:aL I φ w a v):aL I' φ w' a v:=by
 induction h with
 | undef v=>exact .undef v
 | pure p v h=>exact .pure p v (h.touch hI)
 | box id off b n h=>exact .box id off b n h
 | row id sz off len b n o cap h ho hc hn=>exact .row id sz off len b n o cap h ho hc hn
 | agg cs vs hl _ ih=>exact .agg cs vs hl ih
 | aQ cs vs hl _ ih=>exact .aQ cs vs hl ih
 | func f cs vs hl _ ih=>exact .func f cs vs hl ih
 | yield id b n h=>exact .yield id b n h
 | void id sz b h=>exact .void id sz b h
 | j6 id b n h=>exact .j6 id b n h
section
variable {P:Program} {Z:List Nat} {C:jC} {S:Bool->Nat->Prop} {base lo nt:Nat} {n:Nat} {φ φ':jI} {H H':Heap} {w w':World} {env:Env} {a:Act}
theorem aU.touch (h:aU C S base φ H w) {r:Nat} {x:Option (List Deferred)} (hr:w.heap[r]?=some (.deferred x)) (o:Obj):aU C S base φ H (laid w r o):=by
 have fF:(laid w r o).heap.size=w.heap.size:=by simp [laid]
 have bC:∀ id b n,φ id=some (b,n)->(H.get id).fH=false->b≠r:=fun id b n aB hd e=>by
  subst e;have ho:=h.obj _ _ _ aB
  cases hg:H.get id with
  | dead=>rw [hg] at hd;simp [aP.fH] at hd
  | cells own cs=>rw [hg] at ho;obtain ⟨c,t,fz,h1,_⟩:=ho;rw [hr] at h1;simp at h1
  | raw z=>rw [hg] at ho;obtain ⟨c,t,fz,h1,_⟩:=ho;rw [hr] at h1;simp at h1
  | ji es=>rw [hg] at ho;obtain ⟨ms,ck,h1,_⟩:=ho;rw [hr] at h1;simp at h1
  | loop l=>rw [hg] at ho;obtain ⟨l',h1,_⟩:=ho;rw [hr] at h1;simp at h1
 have DK:∀ k b,aY S base φ H w k b->Yc w b->aY S base φ H (laid w r o) k b/\(laid w r o).heap[b]?=w.heap[b]?:=fun k b hb hc=>by
  refine ⟨⟨hb.1,by rw [fF];exact hb.2.1,hb.2.2⟩,F4 fun e=>?_⟩
  subst e;obtain ⟨c,t,fz,h1⟩:=hc;rw [hr] at h1;simp at h1
 refine ⟨by rw [fF];exact h.sz,h.out,h.nx,fun id b n aB=>by rw [fF];exact h.lt _ _ _ aB,fun id b n aB=>?_,h.inj⟩
 have ho:=h.obj _ _ _ aB
 cases hg:H.get id with
 | dead=>trivial
 | cells own cs =>
  rw [hg] at ho;obtain ⟨c,e,fz,h1,h2,h3,h4,h5⟩:=ho;exact ⟨c,e,fz,(F4 (bC _ _ _ aB (by rw [hg];rfl))).trans h1,h2,h3,h4,fun j a v ha hv=>(h5 j a v ha hv).touch DK⟩
 | raw z =>
  rw [hg] at ho;obtain ⟨c,e,fz,h1,h2,h3,h4,h5⟩:=ho;exact ⟨c,e,fz,(F4 (bC _ _ _ aB (by rw [hg];rfl))).trans h1,h2,h3,h4,fun j a v ha hv=>(h5 j a v ha hv).touch DK⟩
 | ji es =>
  rw [hg] at ho;obtain ⟨ms,ck,h1,h2,h3⟩:=ho;exact ⟨ms,ck,(F4 (bC _ _ _ aB (by rw [hg];rfl))).trans h1,h2,fun j k v m hk hm=>⟨(h3 j k v m hk hm).1.touch DK,(h3 j k v m hk hm).2.touch DK⟩⟩
 | loop l =>
  rw [hg] at ho;obtain ⟨l',h1,h2,h3,h4,h5,h6,h7,h8⟩:=ho;exact ⟨l',(F4 (bC _ _ _ aB (by rw [hg];rfl))).trans h1,h2,h3,h4,h5,h6,fun t=>(h7 t).touch DK,h8⟩
theorem znY {r:Nat} {x:Option (List Deferred)} (hr:w.heap[r]?=some (.deferred x)) (o:Obj) {av:AV} {v:Value} (h:aL (aY S base φ H w) φ w av v):aL (aY S base φ H (laid w r o)) φ (laid w r o) av v :=
 h.touch fun k b hb hc=>by
  refine ⟨⟨hb.1,by simpa [laid] using hb.2.1,hb.2.2⟩,F4 fun e=>?_⟩
  subst e;obtain ⟨c,t,fz,h1⟩:=hc;rw [hr] at h1;simp at h1
theorem zmr (hH:aU C S base φ H w) (hE:bz (aY S base φ H w) φ w env a) {r:ResultVar} {vr:mP} {av:AV} (hc:XJ P r=some vr) (hl:KT env H vr=some av) :
  ∃ u,((match r with|.tmp t=>pure (a.tmps.getD t undef)|.cell b t=>do loadVar t (<- asAddr (a.tmps.getD b undef)):Sem Value)).run P w=.ok u w/\aL (aY S base φ H w) φ w av u:=by
 cases r with
 | tmp t =>
  simp [XJ] at hc;subst hc;simp [KT] at hl;subst hl;exact ⟨_,rfl,hE t⟩
 | cell t ty =>
  simp only [XJ] at hc
  split at hc
  .rename_i g s hg hs
   split at hc
   .simp at hc
   .rename_i h1;simp at hc;subst hc;simp only [KT] at hl
    split at hl
    .rename_i cs tV;obtain ⟨ad,vs,e1,e2,e3,e4⟩:=zfM hH (hE t) tV;have hlen:vs.length=s:=by have:=e2.1;omega
     refine ⟨_,?_,zfh e2 hl⟩
     show (do loadVar ty (<- asAddr (a.tmps.getD t undef)):Sem Value).run P w=_;rw [e1];exact zgh hg hs (XY h1) hlen e4
    .simp at hl
  .simp at hc
theorem zhh (hH:aU C S base φ H w) (hE:bz (aY S base φ H w) φ w env a):∀ {rs:List ResultVar} {NZ:List mP} {Si:List AV},RH P rs=some NZ->EM env H NZ=some Si ->
  ∃ us,(rs.mapM fun r=>(match r with|.tmp t=>pure (a.tmps.getD t undef)|.cell b t=>do loadVar t (<- asAddr (a.tmps.getD b undef)):Sem Value)).run P w=.ok us w/\aJ (aY S base φ H w) φ w Si us
 | [],NZ,Si,hc,hl=>by
  simp [RH] at hc;subst hc;simp [EM] at hl;subst hl;exact ⟨[],rfl,.nil⟩
 | r::rs,NZ,Si,hc,hl=>by
  simp only [RH] at hc
  split at hc
  .simp at hc
  .rename_i v hv
   split at hc
   .simp at hc
   .rename_i vs p9;simp at hc;subst hc;simp only [EM] at hl
    split at hl
    .simp at hl
    .rename_i x hx
     split at hl
     .simp at hl
     .rename_i xs Bd;simp at hl;subst hl;obtain ⟨u,h1,h2⟩:=zmr hH hE hv hx;obtain ⟨us,h3,h4⟩:=zhh hH hE p9 Bd
      refine ⟨u::us,?_,.cons h2 h4⟩
      rw [List.mapM_cons];simp only [Sem.run_bind,h1,Result.andThen_ok,h3,Sem.run_pure]
theorem zmP (hH:aU C S base φ H w) (hE:bz (aY S base φ H w) φ w env a) {fn:Func} {NZ:List mP} {av:AV} (hc:RH P fn.results.toList=some NZ) (hl:Vm.results env H NZ=some av) :
  ∃ u,(Go.results fn a.tmps).run P w=.ok u w/\aL (aY S base φ H w) φ w av u:=by
 unfold Vm.results at hl
 cases hla:EM env H NZ with
 | none=>rw [hla] at hl;simp at hl
 | some Si =>
  rw [hla] at hl;obtain ⟨us,h1,h2⟩:=zhh hH hE hc hla;have h3:(fn.results.mapM fun r=>(match r with|.tmp t=>pure (a.tmps.getD t undef)|.cell b t=>do loadVar t (<- asAddr (a.tmps.getD b undef)):Sem Value)).run P w=.ok us.toArray w:=by
   rw [Array.mapM_eq_mapM_toList];simp only [Sem.run_map,h1,Result.andThen_ok]
  refine ⟨if h:us.toArray.size=1 then us.toArray[0] else .tuple us.toArray,?_,?_⟩
  .unfold Go.results;rw [Sem.run_bind]
   erw [h3]
   rfl
  .match Si,us,h2,hl with
   | [v],us,h2,hl =>
    obtain ⟨u,us',rfl,h4,h5⟩:=h2.cons_inv;have:=h5.nC;subst this;simp at hl;subst hl
    simpa using h4
   | [],us,h2,hl =>
    have:=h2.nC;subst this;simp at hl;subst hl;exact Uz
   | v1::v2::vs,us,h2,hl =>
    obtain ⟨u,us',rfl,h4,h5⟩:=h2.cons_inv;obtain ⟨u2,us2,rfl,h6,h7⟩:=h5.cons_inv;simp at hl;subst hl;rw [dif_neg (by simp)];exact .aQ _ _ (by simpa using h2.1) fun i p v hp hv=>h2.2 i p v hp (by simpa using hv)
structure GOk (P:Program) (G:Prog):Prop where
 mix:P.follows .mixedOrders=true
 func:∀ f vf,G.func f=some vf->∃ fn Z,P.funcs[f]?=some fn/\zl P Z fn=some vf
 ext:∀ f g ps r,G.ext f=some g->g ps=some r->XW P f ps r
 lh:∀ f xs H r H',G.lh f xs H=some (r,H')->Us (CC P) P f xs H r H'
theorem zlb {fn:Func} {tmps:Array Value} {Rr:Ending->World->Prop} {φ0:jI} {H0:Heap} {w0:World} (hK:∀ w',fT φ0 H0 w0 φ H w'->aU C S base φ H w'->(bz (aY S base φ H w') φ w' env a)->∃ v,(Go.results fn tmps).run P w'=.ok v w'/\Rr (.returned v) w') :
  ∀ (marks:List Nat) (w:World),marks.Nodup->(∀ r∈marks,w0.heap.size<=r/\w.heap[r]?=some (.deferred (some [])))->fT φ0 H0 w0 φ H w->aU C S base φ H w->bz (aY S base φ H w) φ w env a ->
   LeavesInM Fence.wide n P fn tmps Rr (marks.map IK) .returning w:=by
 intro marks
 induction marks with
 | nil =>
  intro w _ _ mH hH hE;exact hK w mH hH hE
 | cons r marks ih =>
  intro w tZ hm mH hH hE;have hr:=hm r (List.mem_cons_self ..);have aK:=UO hr.2
  refine ⟨by simp,.inl ⟨r,laid w r (.deferred none),rfl,?_,?_⟩⟩
  .simp only [Instr.takeDeferred,Sem.run_bind];have h1:(getObj r).run P w=.ok (.deferred (some [])) w:=by simp [getObj,Sem.run,hr.2]
   have h2:(setObj r (.deferred none)).run P w=.ok () (laid w r (.deferred none)):=by simp [setObj,Sem.run,hr.2,laid]
   simp only [h1,Result.andThen_ok,Sem.run_bind,h2,Sem.run_pure]
  .refine ih (laid w r (.deferred none)) (List.nodup_cons.1 tZ).2 (fun s hs=>?_) ?_ (hH.touch hr.2 _) fun t=>znY hr.2 _ (hE t)
   .have:=hm s (List.mem_cons_of_mem _ hs);exact ⟨this.1,(F4 (fun e=>(List.nodup_cons.1 tZ).1 (by rw [<- e];exact hs))).trans this.2⟩
   .exact ⟨mH.phi,mH.os,mH.tape,mH.output,by simp [laid];exact mH.size,fun b hb wC=>(F4 (by omega)).trans (mH.same b hb wC),mH.Il,mH.nx⟩
theorem zlB {I:Bool->Nat->Prop} {xs:List AV} {vals:List Value} {k:Nat} (h:aJ I φ w xs vals):bz I φ w (zb xs) { tmps:=vals.toArray++Array.replicate k undef,defers:=[] }:=fun t=>by
 show aL I φ w ((xs[t]?).getD (.aQ [])) ((vals.toArray++Array.replicate k undef).getD t undef);rcases Nat.lt_or_ge t xs.length with ht|ht
 .have ht':t < vals.length:=by rw [<- h.1];exact ht
  have:=h.2 t xs[t] vals[t] (List.getElem?_eq_getElem ht) (List.getElem?_eq_getElem ht');rw [List.getElem?_eq_getElem ht];have e:(vals.toArray++Array.replicate k undef).getD t undef=vals[t]:=by
   simp only [Array.getD_eq_getD_getElem?,Array.getElem?_append];simp [ht']
  rw [e];exact this
 .rw [List.getElem?_eq_none ht];have e:(vals.toArray++Array.replicate k undef).getD t undef=undef:=by
   have:=h.1;simp only [Array.getD_eq_getD_getElem?,Array.getElem?_append];rw [if_neg (by simp;omega)];simp only [Array.getElem?_replicate]
   split<;>rfl
  rw [e];exact Uz
theorem zo3 {I:Bool->Nat->Prop}:∀ {ts:List Tmp} {xs:List AV} {vals:List Value} {env:Env} {tmps:Array Value},(∀ t,aL I φ w (env t) (tmps.getD t undef))->aJ I φ w xs vals->(∀ t∈ts,t < tmps.size) ->
  (∀ t,aL I φ w (((ts.zip xs).foldl (fun e x=>upd e x.1 x.2) env) t) (((ts.zip vals).foldl (fun tm (x:Tmp×Value)=>tm.setIfInBounds x.1 x.2) tmps).getD t undef)) /\
   ((ts.zip vals).foldl (fun tm (x:Tmp×Value)=>tm.setIfInBounds x.1 x.2) tmps).size=tmps.size
 | [],xs,vals,env,tmps,hE,hx,hl=>⟨hE,rfl⟩
 | t::ts,[],vals,env,tmps,hE,hx,hl=>by rw [hx.nC];exact ⟨hE,rfl⟩
 | t::ts,x::xs,vals,env,tmps,hE,hx,hl=>by
  obtain ⟨v,vs,rfl,h1,h2⟩:=hx.cons_inv;have ht:=hl t (List.mem_cons_self ..);have:=zo3 (ts:=ts) (env:=upd env t x) (tmps:=tmps.setIfInBounds t v) (fun u=>by
   simp only [upd]
   by_cases hu:u=t
   .subst hu;simp [ht];exact h1
   .rw [if_neg hu];have e:(tmps.setIfInBounds t v).getD u undef=tmps.getD u undef:=by simp [Ne.symm hu]
    rw [e];exact hE u) h2 (fun u hu=>by simp;exact hl u (List.mem_cons_of_mem _ hu))
  simp only [List.zip_cons_cons,List.foldl_cons];exact ⟨this.1,this.2.trans (by simp)⟩
theorem zhB (ps:Array Tmp) (vals:List Value) (tmps:Array Value) :
  ((ps.zip vals.toArray).foldl (fun tmps (x:Tmp×Value)=>tmps.setIfInBounds x.1 x.2) tmps)=((ps.toList.zip vals).foldl (fun tm (x:Tmp×Value)=>tm.setIfInBounds x.1 x.2) tmps):=by
 rw [<- Array.foldl_toList];simp
theorem zng (S:Bool->Nat->Prop) (w:World) (hS:∀ k b,S k b->b < w.heap.size):aU C S w.heap.size (fun _=>none) Heap.empty w :=
 ⟨Nat.le_refl _,hS,fun id x h=>by simp at h,fun id b n h=>by simp at h,fun id b n h=>by simp at h,fun id id' b n n' h=>by simp at h⟩
theorem zhi {f:FuncId} {ps:List PV} {v:AV} {H':Heap} {r:PV} {ids:List Nat} (h:Us C P f (ps.map .pure) Heap.empty v H') (hf:Vm.freeze H' false qP v=some (r,ids)):XW P f ps r:=by
 refine ⟨h.1,fun n S' w vals hS sD=>?_⟩
 have hI:∀ k b,S' k b->aY S' w.heap.size (fun _=>none) Heap.empty w k b:=fun k b hb=>⟨.inl hb,hS k b hb,fun ⟨id,m,aB,_⟩=>by simp at aB⟩
 refine CallsIn.mono (h.2 n S' w.heap.size (fun _=>none) w vals (zng S' w hS) (aJ.p8 sD.1 fun i p v hp hv=>(sD.2 i p v hp hv).mono fun k b hb=>⟨hI k b hb,rfl⟩)) ?_
 rintro e w' ⟨u,φ',rfl,mH,hH,hv⟩
 refine ⟨u,rfl,⟨mH.os,mH.tape,mH.output,mH.size,fun b hb=>mH.same b hb fun ⟨id,m,aB,_⟩=>by simp at aB⟩,?_⟩
 refine zim hH (J:=fun k b=>(S' k b\/w.heap.size<=b)/\b < w'.heap.size) (fun k b hb=>⟨hb.1,hb.2.1⟩) qP v r ids u hf hv fun id _ b m aB=>?_
 have:=hH.lt _ _ _ aB;exact ⟨.inr this.1,this.2⟩
theorem zpD (G:Prog) (n:Nat) (tg:Target) (args:List AV) (H:Heap):Vm.call G (n+1) tg args H =
  (let cl:Callee:={
   pure:=fun f ps=>match G.ext f with
    | some g=>g ps
    | none=>match Vm.call G n (.fn f) (ps.map .pure) Heap.empty with
     | some (v,H')=>(Vm.freeze H' false qP v).map (·.1)
     | none=>none
   shared:=G.shared
   run:=fun f xs H=>Vm.call G n (.fn f) xs H
   yield:=fun id xs H=>Vm.call G n (.yield id) xs H }
  match tg with
  | .fn f=>match G.lh f args H with
   | some r=>some r
   | none=>match G.func f with
    | none=>none
    | some fn =>
     if args.length=fn.xE then
      match exec cl fn.body (zb args) H with
      | some (.normal,env,H')|some (.ret,env,H')=>match Vm.results env H' fn.results with
       | some v=>some (v,H')
       | none=>none
      | _=>none
     else none
  | .yield id=>match H.get id with
   | .loop r =>
    if args.length=r.params.length then
     match exec cl r.assign ((r.params.zip args).foldl (fun e x=>upd e x.1 x.2) r.env) H with
     | some (.normal,iB,H2)=>match H2.get id with
      | .loop r2=>match r2.state with
       | .ready=>match exec cl r.body iB (H2.set id (.loop { r2 with state:=.busy })) with
        | some (x,_,H3)=>match H3.get id with
         | .loop r3=>match x with
          | .normal=>some (.pure (.bool true),H3.set id (.loop { r3 with state:=.ready,pending:=.normal }))
          | x=>some (.pure (.bool false),H3.set id (.loop { r3 with state:=.done,pending:=x }))
         | _=>none
        | none=>none
       | _=>none
      | _=>none
     | _=>none
    else none
   | _=>none):=rfl
def zsj (P:Program) (tg:Target) (args:List AV) (H:Heap) (r:AV) (H':Heap):Prop :=
 match tg with
 | .fn f=>Us (CC P) P f args H r H'
 | .yield id=>zoO (CC P) P id args H r H'
theorem zne {G:Prog} (hG:GOk P G):∀ (n:Nat) (tg:Target) (args:List AV) (H:Heap) (r:AV) (H':Heap),Vm.call G n tg args H=some (r,H')->zsj P tg args H r H':=by
 intro n
 induction n with
 | zero=>intro tg args H r H' h;simp [Vm.call] at h
 | succ n ih =>
  intro tg args H r H' h;rw [zpD] at h
  extract_lets cl at h
  have bW:bN (CC P) P cl:=by
   refine ⟨fun f ps r h=>?_,fun f xs H r H' h=>ih (.fn f) xs H r H' h,fun id xs H r H' h=>ih (.yield id) xs H r H' h⟩
   simp only [cl] at h
   split at h
   .rename_i g hg;exact hG.ext _ _ _ _ hg h
   .split at h
    .rename_i v H1 hc;rw [Option.map_eq_some_iff] at h;obtain ⟨⟨p,ids⟩,hf,rfl⟩:=h;exact zhi (ih (.fn f) _ _ _ _ hc) hf
    .simp at h
  clear_value cl
  cases tg with
  | fn f =>
   simp only at h
   split at h
   .rename_i r0 wE;simp only [Option.some.injEq] at h;subst h;exact hG.lh _ _ _ _ _ wE
   split at h
   .simp at h
   .rename_i vf hvf;obtain ⟨fn,Z,Yd,jg⟩:=hG.func _ _ hvf;unfold zl at jg
    split at jg
    .rename_i c rs hb Au
     split at jg
     .simp at jg
     .rename_i Be;simp only [Bool.or_eq_true,not_or,Bool.not_eq_true,Bool.not_eq_eq_eq_not,Bool.not_true,Bool.not_false] at Be;rw [Option.map_eq_some_iff] at jg;obtain ⟨vc,hvc,rfl⟩:=jg
      split at h
      .rename_i hlen;simp only at hlen
       refine ⟨⟨fn,Yd,by rw [hb];rfl,Be.1⟩,fun k S base φ w vals hH hv=>?_⟩
       have hle:fn.params.size+fn.nfree<=fn.ntmps:=by simpa using Be.2
       have vD:vals.length=fn.params.size+fn.nfree:=hv.1.symm.trans hlen
       refine callsIn_of_wp_marks Yd hb trivial ?_
       have hR:R (CC P) S base w.heap.size fn.ntmps φ H (zb args) { tmps:=vals.toArray++Array.replicate (fn.ntmps - vals.toArray.size) undef,defers:=[] } w :=
        ⟨hH,zlB hv,by simp;omega,Nat.le_refl _,[],rfl,List.nodup_nil,by simp⟩
       have N7:∀ (x:fO) (env':Env),exec cl vc (zb args) H=some (x,env',H')->(x=.normal\/x=.ret)->Vm.results env' H' rs=some r ->
         c.wpIn (Fw none) k P (bodyPostM Fence.wide k P fn fun e w'=>∃ v φ',e=.returned v/\fT φ H w φ' H' w'/\aU (CC P) S base φ' H' w'/\aL (aY S base φ' H' w') φ' w' r v)
          { tmps:=vals.toArray++Array.replicate (fn.ntmps - vals.toArray.size) undef,defers:=[] } w:=fun x env' hx rz bD=>by
        refine zfQ bW hG.mix c vc _ H x env' H' φ _ w _ (.inl rfl) hvc hx hR fun φ' a' w' mH tu=>?_
        obtain ⟨marks,m1,m2,m3⟩:=tu.defs;have I4:=zlb (n:=k) (P:=P) (C:=CC P) (S:=S) (base:=base) (fn:=fn) (tmps:=a'.tmps) (a:=a') (env:=env') (φ:=φ') (H:=H') (φ0:=φ) (H0:=H) (w0:=w)
         (Rr:=fun e w'=>∃ v φ',e=.returned v/\fT φ H w φ' H' w'/\aU (CC P) S base φ' H' w'/\aL (aY S base φ' H' w') φ' w' r v) (fun w2 uf DR Sj=>by
          obtain ⟨u,h1,h2⟩:=zmP DR Sj (fn:=fn) Au bD;exact ⟨u,h1,u,φ',rfl,uf,DR,h2⟩) marks w' m2 m3 mH tu.heap tu.env
        rw [<- m1] at I4;rcases rz with rfl|rfl<;>exact I4
       split at h
       .rename_i env' H1 hx
        split at h
        .rename_i v bD;simp at h;obtain ⟨rfl,rfl⟩:=h;exact N7 _ _ hx (.inl rfl) bD
        .simp at h
       .rename_i env' H1 hx
        split at h
        .rename_i v bD;simp at h;obtain ⟨rfl,rfl⟩:=h;exact N7 _ _ hx (.inr rfl) bD
        .simp at h
       .simp at h
      .simp at h
    .simp at jg
  | yield id =>
   simp only at h
   split at h
   .rename_i lr Sn
    split at h
    .rename_i hlen
     split at h
     .rename_i iB H2 wX
      split at h
      .rename_i r2 Fg
       split at h
       .rename_i ug
        split at h
        .rename_i x Ll H3 rz
         split at h
         .rename_i r3 Ye;intro k S base φ w b m vals aB hH hv;have ho:=hH.obj _ _ _ aB;rw [Sn] at ho;obtain ⟨l,g1,g2,g3,g4,⟨Z5,g5,g5'⟩,⟨Z6,g6,g6'⟩,g7,g8⟩:=ho
          refine ⟨l,g1,?_,?_⟩
          .rw [<- hv.1,hlen,<- g4];simp
          .refine roundIn_of_wpIn trivial ?_
           rw [zhB];have hz:=zo3 (ts:=l.params.toList) g7 hv (by rw [g4];exact g8);rw [<- g4] at wX;have hR:R (CC P) S base w.heap.size l.tmps.size φ H ((l.params.toList.zip args).foldl (fun e x=>upd e x.1 x.2) lr.env)
             { tmps:=((l.params.toList.zip vals).foldl (fun tm (x:Tmp×Value)=>tm.setIfInBounds x.1 x.2) l.tmps),defers:=[] } w :=
            ⟨hH,hz.1,hz.2,Nat.le_refl _,[],rfl,List.nodup_nil,by simp⟩
           refine zfQ (ro:=some b) bW hG.mix l.assign lr.assign _ H .normal iB H2 φ _ w _ (.inr g5') g5 wX hR fun φ1 a1 w1 DU nu=>?_
           have sH:=DU.phi _ _ aB;have UR:=nu.heap.obj _ _ _ sH;rw [Fg] at UR;obtain ⟨l1,k1,k2,k3,k4,k5,k6,k7,k8⟩:=UR;have sF:(Instr.beginRound b).run P w1=.ok () (laid w1 b (.loop { l1 with state:=.busy })):=by
            have:l1.state=.ready:=by rw [k2,ug];rfl
            simp only [Instr.beginRound,Sem.run_bind,zfd k1,Result.andThen_ok,zda k1,this,Sem.run_pure]
           refine ⟨_,sF,?_⟩
           obtain ⟨uf,DR⟩:=nu.heap.write (o:=.loop { r2 with state:=.busy }) (w':=laid w1 b (.loop { l1 with state:=.busy })) sH (by rw [Fg];rfl) rfl rfl rfl (by simp [laid]) (fun c hc=>F4 hc)
            ⟨{ l1 with state:=.busy },zjJ (UO k1),rfl,k3,k4,k5,k6,fun t=>(k7 t).touch fun _ c hc wF=>⟨hc,F4 fun e=>by subst e;obtain ⟨c',t',fz,h1⟩:=wF;rw [k1] at h1;simp at h1⟩,k8⟩
           have jk:R (CC P) S base w.heap.size l.tmps.size φ1 (H2.set id (.loop { r2 with state:=.busy })) iB a1 (laid w1 b (.loop { l1 with state:=.busy })) :=
            ⟨DR,fun t=>uf.yn (nu.env t),nu.size,Nat.le_trans nu.wU uf.size,RS nu.heap uf nu.defs⟩
           refine zfQ (ro:=some b) bW hG.mix l.body lr.body _ _ x Ll H3 φ1 _ _ _ (.inr g6') g6 rz jk fun φ3 a3 w3 I1 Az=>?_
           have uh:=I1.phi _ _ sH;have Lm:=Az.heap.obj _ _ _ uh;rw [Ye] at Lm;obtain ⟨l3,q1,q2,q3,q4,q5,q6,q7,q8⟩:=Lm;have fin:∀ (st:Dm) (lst:LoopState) (pe:fO) (j:Option Code) (bv:Bool),lst=zoW st->j=zrJ pe->(Instr.endRound b j).run P w3=.ok (.bool bv) (laid w3 b (.loop { l3 with state:=lst,pending:=j })) ->
             (r,H')=(.pure (.bool bv),H3.set id (.loop { r3 with state:=st,pending:=pe })) ->
             ∃ v w',(Instr.endRound b j).run P w3=.ok v w'/\∃ u φ',Ending.returned v=.returned u/\fT φ H w φ' H' w'/\aU (CC P) S base φ' H' w'/\aL (aY S base φ' H' w') φ' w' r u:=by
            intro st lst pe j bv e1 e2 bO e3;simp at e3;obtain ⟨rfl,rfl⟩:=e3;obtain ⟨hev4,hH4⟩:=Az.heap.write (o:=.loop { r3 with state:=st,pending:=pe }) (w':=laid w3 b (.loop { l3 with state:=lst,pending:=j })) uh (by rw [Ye];rfl) rfl rfl rfl (by simp [laid]) (fun c hc=>F4 hc)
             ⟨{ l3 with state:=lst,pending:=j },zjJ (UO q1),e1,e2,q4,q5,q6,fun t=>(q7 t).touch fun _ c hc wF=>⟨hc,F4 fun e=>by subst e;obtain ⟨c',t',fz,h1⟩:=wF;rw [q1] at h1;simp at h1⟩,q8⟩
            exact ⟨_,_,bO,_,φ3,rfl,DU.trans (uf.trans (I1.trans hev4)),hH4,.pure _ _ (.bool _)⟩
           have DW:∀ j:Option Code,(Instr.endRound b j).run P w3=.ok (.bool j.isNone) (laid w3 b (.loop { l3 with state:=if j.isNone then .ready else .done,pending:=j })):=fun j=>by
            simp only [Instr.endRound,Sem.run_bind,zfd q1,Result.andThen_ok,zda q1,Sem.run_pure]
           cases x with
           | normal =>
            simp at h;exact fin .ready .ready .normal none true rfl rfl (DW none) (by simp [h])
           | exit i =>
            simp at h;exact fin .done .done (.exit i) (some (.exit i)) false rfl rfl (DW _) (by simp [h])
           | ret =>
            simp at h;exact fin .done .done .ret (some .ret) false rfl rfl (DW _) (by simp [h])
         .simp at h
        .simp at h
       .simp at h
      .simp at h
     .simp at h
    .simp at h
   .simp at h
theorem zl2 {G:Prog} (hG:GOk P G) {n f:Nat} {ps:List PV} {r:PV} (h:zF G n f ps=some r):XW P f ps r:=by
 unfold zF at h
 split at h
 .rename_i g hg;exact hG.ext _ _ _ _ hg h
 .split at h
  .rename_i v H1 hc;rw [Option.map_eq_some_iff] at h;obtain ⟨⟨p,ids⟩,hf,rfl⟩:=h;exact zhi (zne hG n (.fn f) _ _ _ _ hc) hf
  .simp at h
end
def zt (G:Prog) (n:Nat):Callee where
 pure:=zF G n
 shared:=G.shared
 run:=fun f xs H=>call G n (.fn f) xs H
 yield:=fun id xs H=>call G n (.yield id) xs H
theorem zlh (G:Prog) (n f:Nat) (args:List AV) (H:Heap):Vm.call G (n+1) (.fn f) args H=match G.lh f args H with
   | some r=>some r
   | none=>match G.func f with
    | none=>none
    | some fn =>
     if args.length=fn.xE then
      match exec (zt G n) fn.body (zb args) H with
      | some (.normal,env,H')|some (.ret,env,H')=>match Vm.results env H' fn.results with
       | some v=>some (v,H')
       | none=>none
      | _=>none
     else none:=rfl
inductive Tag {α:Type} (a:α):Type
 | mk
section
variable {cl:Callee} {env:Env} {H:Heap}
def wpE (pre:Nat) (r:Option Eff) (H:Heap) (k:AV->Heap->Prop) (_:Tag (H,k)):Prop:=∃ e,r=some e/\¬ (pre≠0/\tN e=true)/\k (apply H e).1 (apply H e).2
theorem Yf {pre:Nat} {v:AV} {k:AV->Heap->Prop} {u}:wpE pre (some (.val v)) H k u↔k v H:=by
 constructor
 .rintro ⟨e,he,_,h⟩;simp at he;subst he;exact h
 .intro h;exact ⟨_,rfl,by simp [tN],h⟩
theorem UT {pre:Nat} {o:aP} {f:Nat->AV} {k:AV->Heap->Prop} {u}:wpE pre (some (.new o f)) H k u↔k (f H.nx) (H.alloc o):=by
 constructor
 .rintro ⟨e,he,_,h⟩;simp at he;subst he;exact h
 .intro h;exact ⟨_,rfl,by simp [tN],h⟩
theorem Lp {v:AV} {H':Heap} {k:AV->Heap->Prop} {u}:wpE 0 (some (.upd v H')) H k u↔k v H':=by
 constructor
 .rintro ⟨e,he,_,h⟩;simp at he;subst he;exact h
 .intro h;exact ⟨_,rfl,by simp,h⟩
def qo (c:Bool) (A B:Prop) (_:Tag (A,B)):Prop:=if c=true then A else B
def PR (b:Bool) (v:AV) (A B:Prop) (_:Tag (A,B)):Prop :=
 match v with
 | .pure (.bool c)=>if c=b then A else B
 | .aQ []=>B
 | _=>False
def I5 (cl:Callee) (pre:Nat) (ops:List au) (env:Env) (H:Heap) (K:Env->Heap->Prop) (_:Tag (ops,env,H,K)):Prop:=∃ r,lY cl pre ops env H=some r/\K r.1 r.2
theorem zoU {pre:Nat} {K:Env->Heap->Prop} {u}:I5 cl pre [] env H K u↔K env H:=by
 constructor
 .rintro ⟨r,hr,h⟩;simp [lY] at hr;subst hr;exact h
 .intro h;exact ⟨(env,H),rfl,h⟩
theorem zmc {pre:Nat} {d:Option Nat} {op:mG} {os:List au} {K:Env->Heap->Prop} {u} :
  I5 cl pre (⟨d,op,none⟩::os) env H K u↔wpE pre (step cl env H op) H (fun v H'=>I5 cl (pre - 1) os (oZ env d v) H' K .mk) .mk:=by
 constructor
 .rintro ⟨r,hr,h⟩;simp only [lY,wanted] at hr
  split at hr
  .simp at hr
  .rename_i e he
   split at hr
   .simp at hr
   .rename_i hc;exact ⟨e,he,hc,r,hr,h⟩
 .rintro ⟨e,he,hc,r,hr,h⟩
  refine ⟨r,?_,h⟩
  simp only [lY,wanted,he];rw [if_neg hc];exact hr
theorem zqy {pre:Nat} {d:Option Nat} {op:mG} {g:Nat} {b:Bool} {os:List au} {K:Env->Heap->Prop} {u} :
  I5 cl pre (⟨d,op,some (some g,b)⟩::os) env H K u↔PR b (env g) (wpE pre (step cl env H op) H (fun v H'=>I5 cl (pre - 1) os (oZ env d v) H' K .mk) .mk) (I5 cl (pre - 1) os (oZ env d (.aQ [])) H K .mk) .mk:=by
 have main:∀ c,wanted env (some (some g,b))=some c->(I5 cl pre (⟨d,op,some (some g,b)⟩::os) env H K u ↔
   if c=true then (wpE pre (step cl env H op) H (fun v H'=>I5 cl (pre - 1) os (oZ env d v) H' K .mk) .mk) else (I5 cl (pre - 1) os (oZ env d (.aQ [])) H K .mk)):=by
  intro c hc
  cases c with
  | false =>
   simp only [Bool.false_eq_true,if_false]
   constructor
   .rintro ⟨r,hr,h⟩;simp only [lY,hc] at hr;exact ⟨r,hr,h⟩
   .rintro ⟨r,hr,h⟩;exact ⟨r,by simp only [lY,hc];exact hr,h⟩
  | true =>
   simp only [if_true]
   constructor
   .rintro ⟨r,hr,h⟩;simp only [lY,hc] at hr
    split at hr
    .simp at hr
    .rename_i e he
     split at hr
     .simp at hr
     .rename_i vB;exact ⟨e,he,vB,r,hr,h⟩
   .rintro ⟨e,he,vB,r,hr,h⟩
    refine ⟨r,?_,h⟩
    simp only [lY,hc,he];rw [if_neg vB];exact hr
 have bad:wanted env (some (some g,b))=none->(I5 cl pre (⟨d,op,some (some g,b)⟩::os) env H K u↔False):=by
  intro hc
  constructor
  .rintro ⟨r,hr,h⟩;simp [lY,hc] at hr
  .exact False.elim
 unfold PR
 split
 .rename_i c hv;rw [main (c == b) (by simp only [wanted,hv])]
  cases c<;>cases b<;>simp
 .rename_i hv;rw [main false (by simp only [wanted,hv])];simp
 .rename_i h1 h2
  refine bad ?_
  simp only [wanted]
theorem zjU {α:Type} (f:Nat->α) (i j:Nat) (v:α):upd f i v j=if j=i then v else f j:=rfl
theorem zjc {α:Type} (f:Nat->α) (i:Nat) (v:α):oZ f (some i) v=upd f i v:=rfl
theorem zny {α:Type} (f:Nat->α) (v:α):oZ f none v=f:=rfl
theorem zm6 (t:Nat):ag.eval env (.tmp t)=env t:=rfl
theorem ziI (p:PV):ag.eval env (.const p)=.pure p:=rfl
def F5 (ops:List au):List Nat:=ops.filterMap (·.dst)
theorem zmL {env:Env} {d:Option Nat} {v:AV} {t:Nat} (h:d≠some t):oZ env d v t=env t:=by
 cases d with
 | none=>rfl
 | some i =>
  have:t≠i:=fun e=>h (by rw [e]);simp [oZ,upd,this]
theorem zeB:∀ {pre:Nat} {ops:List au} {env:Env} {H:Heap} {r:Env×Heap},lY cl pre ops env H=some r->∀ t,(F5 ops).contains t=false->r.1 t=env t
 | pre,[],env,H,r,h,t,_=>by simp [lY] at h;subst h;rfl
 | pre,o::os,env,H,r,h,t,ht=>by
  have h1:o.dst≠some t:=fun e=>by simp [F5,List.filterMap_cons,e] at ht
  have h2:(F5 os).contains t=false:=by
   cases hd:o.dst with
   | none=>simpa [F5,List.filterMap_cons,hd] using ht
   | some i =>
    simp only [F5,List.filterMap_cons,hd,List.contains_cons,Bool.or_eq_false_iff] at ht;exact ht.2
  unfold lY at h
  split at h
  .simp at h
  .exact (zeB h t h2).trans (zmL h1)
  .split at h
   .simp at h
   .split at h
    .simp at h
    .exact (zeB h t h2).trans (zmL h1)
def wp (cl:Callee) (c:aX) (env:Env) (H:Heap) (Q:fO->Env->Heap->Prop) (_:Tag (c,env,H,Q)):Prop:=∃ x env' H',exec cl c env H=some (x,env',H')/\Q x env' H'
variable {Q:fO->Env->Heap->Prop}
theorem wp.mono {c:aX} {Q':fO->Env->Heap->Prop} {u u'} (h:wp cl c env H Q u) (hq:∀ x e h,Q x e h->Q' x e h):wp cl c env H Q' u':=by
 obtain ⟨x,e,h',h1,h2⟩:=h;exact ⟨x,e,h',h1,hq _ _ _ h2⟩
theorem zti {u}:wp cl .skip env H Q u↔Q .normal env H:=by
 constructor
 .rintro ⟨x,e,h,h1,h2⟩;simp [exec] at h1;obtain ⟨rfl,rfl,rfl⟩:=h1;exact h2
 .intro h;exact ⟨_,_,_,rfl,h⟩
theorem zsC {i:Nat} {u}:wp cl (.exit i) env H Q u↔Q (.exit i) env H:=by
 constructor
 .rintro ⟨x,e,h,h1,h2⟩;simp [exec] at h1;obtain ⟨rfl,rfl,rfl⟩:=h1;exact h2
 .intro h;exact ⟨_,_,_,rfl,h⟩
theorem zua {u}:wp cl .ret env H Q u↔Q .ret env H:=by
 constructor
 .rintro ⟨x,e,h,h1,h2⟩;simp [exec] at h1;obtain ⟨rfl,rfl,rfl⟩:=h1;exact h2
 .intro h;exact ⟨_,_,_,rfl,h⟩
theorem zkE {pre:Option Nat} {ops:List au} {u}:wp cl (.region pre ops) env H Q u↔I5 cl (pre.getD 0) ops env H (Q .normal) .mk:=by
 constructor
 .rintro ⟨x,e,h,h1,h2⟩;simp only [exec] at h1
  split at h1
  .rename_i e' h' hr;simp at h1;obtain ⟨rfl,rfl,rfl⟩:=h1;exact ⟨_,hr,h2⟩
  .simp at h1
 .rintro ⟨⟨e,h⟩,hr,h2⟩;exact ⟨_,_,_,by simp only [exec,hr],h2⟩
def Lr (cl:Callee) (b:aX) (Q:fO->Env->Heap->Prop) (x:fO) (e:Env) (h:Heap):Prop:=match x with
 | .normal=>wp cl b e h Q .mk
 | x=>Q x e h
theorem zhx {b:aX} {e:Env} {h:Heap}:Lr cl b Q .normal e h↔wp cl b e h Q .mk:=Iff.rfl
theorem zqV {b:aX} {e:Env} {h:Heap}:Lr cl b Q .ret e h↔Q .ret e h:=Iff.rfl
theorem zpA {b:aX} {i:Nat} {e:Env} {h:Heap}:Lr cl b Q (.exit i) e h↔Q (.exit i) e h:=Iff.rfl
theorem zrc {a b:aX} {u}:wp cl (.seq a b) env H Q u↔wp cl a env H (Lr cl b Q) .mk:=by
 constructor
 .rintro ⟨x,e,h,h1,h2⟩;simp only [exec] at h1
  split at h1
  .rename_i e' h' hr;exact ⟨_,_,_,hr,x,e,h,h1,h2⟩
  .rename_i hn
   refine ⟨x,e,h,h1,?_⟩
   cases x with
   | normal=>exact absurd h1 (by intro hh;exact hn _ _ hh)
   | exit i=>exact h2
   | ret=>exact h2
 .rintro ⟨x,e,h,h1,h2⟩
  cases x with
  | normal =>
   obtain ⟨x',e',h',h3,h4⟩:=h2;exact ⟨x',e',h',by simp only [exec,h1];exact h3,h4⟩
  | exit i=>exact ⟨_,_,_,by simp only [exec,h1],h2⟩
  | ret=>exact ⟨_,_,_,by simp only [exec,h1],h2⟩
def wpC (v:AV) (A B:Prop) (_:Tag (A,B)):Prop:=match v with
 | .pure (.bool c)=>qo c A B .mk
 | _=>False
theorem zo2 {c:ag} {a b:aX} {u}:wp cl (.cond c a b) env H Q u↔wpC (c.eval env) (wp cl a env H Q .mk) (wp cl b env H Q .mk) .mk:=by
 unfold wpC
 constructor
 .rintro ⟨x,e,h,h1,h2⟩;simp only [exec] at h1
  split at h1
  .rename_i t ht;rw [ht]
   cases t with
   | true=>exact ⟨x,e,h,by simpa using h1,h2⟩
   | false=>exact ⟨x,e,h,by simpa using h1,h2⟩
  .simp at h1
 .intro hw
  split at hw
  .rename_i t ht
   cases t with
   | true =>
    obtain ⟨x,e,h,h1,h2⟩:=hw;exact ⟨x,e,h,by simp only [exec,ht];exact h1,h2⟩
   | false =>
    obtain ⟨x,e,h,h1,h2⟩:=hw;exact ⟨x,e,h,by simp only [exec,ht];exact h1,h2⟩
  .exact hw.elim
def Ls (id:Nat) (Q:fO->Env->Heap->Prop) (x:fO) (e:Env) (h:Heap):Prop:=match x with
 | .exit i=>if i=id then Q .normal e h else Q (.exit i) e h
 | x=>Q x e h
theorem zjs {id:Nat} {e:Env} {h:Heap}:Ls id Q .normal e h↔Q .normal e h:=Iff.rfl
theorem zn5 {id:Nat} {e:Env} {h:Heap}:Ls id Q .ret e h↔Q .ret e h:=Iff.rfl
theorem zly {id:Nat} {e:Env} {h:Heap}:Ls id Q (.exit id) e h↔Q .normal e h:=by simp [Ls]
theorem zkX {id i:Nat} {e:Env} {h:Heap} (hi:i≠id):Ls id Q (.exit i) e h↔Q (.exit i) e h:=by simp [Ls,hi]
def UU (P:Env->Heap->Prop) (Q:fO->Env->Heap->Prop) (x:fO) (e:Env) (h:Heap):Prop:=match x with
 | .normal=>P e h
 | x=>Q x e h
theorem zlp {P:Env->Heap->Prop} {e:Env} {h:Heap}:UU P Q .normal e h↔P e h:=Iff.rfl
theorem zpI {P:Env->Heap->Prop} {e:Env} {h:Heap}:UU P Q .ret e h↔Q .ret e h:=Iff.rfl
theorem znu {P:Env->Heap->Prop} {i:Nat} {e:Env} {h:Heap}:UU P Q (.exit i) e h↔Q (.exit i) e h:=Iff.rfl
theorem zry {id:Nat} {c:aX} {u}:wp cl (.block id c) env H Q u↔wp cl c env H (Ls id Q) .mk:=by
 constructor
 .rintro ⟨x,e,h,h1,h2⟩;simp only [exec] at h1
  split at h1
  .rename_i i e' h' hr
   refine ⟨_,_,_,hr,?_⟩
   show if i=id then _ else _
   split at h1
   .rename_i hi;simp at h1;obtain ⟨rfl,rfl,rfl⟩:=h1;rw [if_pos hi];exact h2
   .rename_i hi;simp at h1;obtain ⟨rfl,rfl,rfl⟩:=h1;rw [if_neg hi];exact h2
  .rename_i hn
   refine ⟨x,e,h,h1,?_⟩
   cases x with
   | normal=>exact h2
   | ret=>exact h2
   | exit i=>exact absurd h1 (by intro hh;exact hn _ _ _ hh)
 .rintro ⟨x,e,h,h1,h2⟩
  cases x with
  | normal=>exact ⟨_,_,_,by simp only [exec,h1],h2⟩
  | ret=>exact ⟨_,_,_,by simp only [exec,h1],h2⟩
  | exit i =>
   by_cases hi:i=id
   .subst hi;simp only [Ls,if_true] at h2;exact ⟨_,_,_,by simp only [exec,h1,if_true],h2⟩
   .simp only [Ls,if_neg hi] at h2;exact ⟨_,_,_,by simp only [exec,h1,if_neg hi],h2⟩
theorem zsE {c:aX} {σ:Type} (I:σ->Env->Heap->Prop) (m:σ->Nat) (s:σ) (h0:I s env H) (hm:m s < zz)
  (hb:∀ s env H,I s env H->wp cl c env H (UU (fun e h=>∃ s',m s' < m s/\I s' e h) Q) .mk) {u}:wp cl (.loop c) env H Q u:=by
 have main:∀ k s env H,m s < k->I s env H->∃ x env' H',iter (exec cl c) k env H=some (x,env',H')/\Q x env' H':=by
  intro k
  induction k with
  | zero=>intro s env H hk;omega
  | succ k ih =>
   intro s env H hk hI;obtain ⟨x,e,h,h1,h2⟩:=hb s env H hI
   cases x with
   | normal =>
    obtain ⟨s',oH,hI'⟩:=h2;obtain ⟨x',e',h',h3,h4⟩:=ih s' e h (by omega) hI';exact ⟨x',e',h',by simp only [iter,h1];exact h3,h4⟩
   | exit i=>exact ⟨_,_,_,by simp only [iter,h1],h2⟩
   | ret=>exact ⟨_,_,_,by simp only [iter,h1],h2⟩
 obtain ⟨x,e,h,h1,h2⟩:=main zz s env H hm h0;exact ⟨x,e,h,by simp only [exec];exact h1,h2⟩
def UW (rs:List mP) (r:PV) (x:fO) (env:Env) (H:Heap):Prop :=
 (∀ i,x≠.exit i)/\∃ v,results env H rs=some v/\∃ ids,freeze H false qP v=some (r,ids)
theorem zte {rs:List mP} {r:PV}:UW rs r .ret env H↔∃ v,results env H rs=some v/\∃ ids,freeze H false qP v=some (r,ids):=by
 simp [UW]
theorem znE {rs:List mP} {r:PV}:UW rs r .normal env H↔∃ v,results env H rs=some v/\∃ ids,freeze H false qP v=some (r,ids):=by
 simp [UW]
theorem zy {G:Prog} {n f:Nat} {fn:az} {args:List PV} {r:PV} (hx:G.ext f=none) (hr:G.lh f (args.map .pure) Heap.empty=none) (hf:G.func f=some fn) (hl:args.length=fn.xE)
  (h:wp (zt G n) fn.body (zb (args.map .pure)) Heap.empty (UW fn.results r) .mk):zF G (n+1) f args=some r:=by
 obtain ⟨x,e,h',h1,h2,v,h3,ids,h4⟩:=h;unfold zF;rw [hx];simp only;rw [zlh,hr,hf];simp only [List.length_map,hl,if_true,h1]
 cases x with
 | exit i=>exact absurd rfl (h2 i)
 | normal=>simp only [h3,h4,Option.map_some]
 | ret=>simp only [h3,h4,Option.map_some]
end
@[simp] theorem zpB {A B:Prop} {u}:qo true A B u↔A:=Iff.rfl
@[simp] theorem zid {A B:Prop} {u}:qo false A B u↔B:=by simp [qo]
theorem znh {c:Bool} {A B:Prop} {u} (h1:c=true->A) (h2:c=false->B):qo c A B u:=by
 cases c with
 | true=>exact h1 rfl
 | false=>rw [zid];exact h2 rfl
@[simp] theorem zvs {c:Bool} {A B:Prop} {u}:qo (!c) A B u↔qo c B A .mk:=by cases c<;>simp
@[simp] theorem zvw {a b:Bool} {A B:Prop} {u}:qo (a&&b) A B u↔qo a (qo b A B .mk) B .mk:=by cases a<;>simp
theorem za {c:Bool} {A B:Prop} {u} (h1:c=true->c=true->A) (h2:c=false->c=false->B):qo c A B u :=
 znh (fun h=>h1 h h) fun h=>h2 h h
@[simp] theorem zwC {b:Bool} {A B:Prop} {u}:PR b (.aQ []) A B u↔B:=Iff.rfl
@[simp] theorem zv7 {c:Bool} {A B:Prop} {u}:PR true (.pure (.bool c)) A B u↔qo c A B .mk:=by cases c<;>simp [PR]
@[simp] theorem zvg {c:Bool} {A B:Prop} {u}:PR false (.pure (.bool c)) A B u↔qo c B A .mk:=by cases c<;>simp [PR]
@[simp] theorem zwS {c:Bool} {A B:Prop} {u}:wpC (.pure (.bool c)) A B u↔qo c A B .mk:=Iff.rfl
attribute [simp] zhx zqV zpA zjs zn5 zly zkX zlp zpI znu
attribute [simp] Yf UT Lp zoU zmc zqy zjU zjc zny zm6 ziI zti zsC zua zkE zrc zo2 zry zte znE
section
variable {cl:Callee} {env:Env} {H:Heap}
@[simp] theorem zv2 (d:xC) (k:IntKind) (a b:Int):iE .lss d (.pure (.int k a)) (.pure (.int k b))=some (.pure (.bool (decide (a < b)))):=by simp [iE,Dn,Nq]
@[simp] theorem zvq (d:xC) (k:IntKind) (a b:Int):iE .leq d (.pure (.int k a)) (.pure (.int k b))=some (.pure (.bool (decide (a<=b)))):=by simp [iE,Dn,Nq]
@[simp] theorem zvZ (d:xC) (k:IntKind) (a b:Int):iE .gtr d (.pure (.int k a)) (.pure (.int k b))=some (.pure (.bool (decide (b < a)))):=by simp [iE,Dn,Nq]
@[simp] theorem zv1 (d:xC) (k:IntKind) (a b:Int):iE .geq d (.pure (.int k a)) (.pure (.int k b))=some (.pure (.bool (decide (b<=a)))):=by simp [iE,Dn,Nq]
@[simp] theorem zv5 (d:xC) (k:IntKind) (a b:Int):iE .eql d (.pure (.int k a)) (.pure (.int k b))=some (.pure (.bool (decide (a=b)))):=by
 simp [iE,Dn,Nq]
 by_cases h:a=b<;>simp [h]
@[simp] theorem zvH (d:xC) (k:IntKind) (a b:Int):iE .neq d (.pure (.int k a)) (.pure (.int k b))=some (.pure (.bool (!decide (a=b)))):=by
 simp [iE,Dn,Nq]
 by_cases h:a=b<;>simp [h]
@[simp] theorem zwn (d:xC) (k:IntKind) (a b:Int):iE .add d (.pure (.int k a)) (.pure (.int k b))=some (.pure (.int k (k.wrap (a+b)))):=by simp [iE,Dn]
@[simp] theorem zv3 (d:xC) (k:IntKind) (a b:Int):iE .sub d (.pure (.int k a)) (.pure (.int k b))=some (.pure (.int k (k.wrap (a - b)))):=by simp [iE,Dn]
@[simp] theorem zwf (d:xC) (k:IntKind) (a b:Int):iE .mul d (.pure (.int k a)) (.pure (.int k b))=some (.pure (.int k (k.wrap (a*b)))):=by simp [iE,Dn]
@[simp] theorem zwE (b:Bool):O0 .not (.pure (.bool b))=some (.pure (.bool (!b))):=rfl
@[simp] theorem zwt (k:IntKind) (n:Int):O0 .neg (.pure (.int k n))=some (.pure (.int k (k.wrap (0 - n)))):=rfl
theorem wrap64 {n:Int} (h:-9223372036854775808<=n) (h':n < 9223372036854775808):IntKind.i64.wrap n=n:=zh3 h h'
@[simp] theorem zt4 (x:ag):step cl env H (.iq x)=some (.val (x.eval env)):=rfl
@[simp] theorem zui (op:BinOp) (d:xC) (x y:ag):step cl env H (.bin op d x y)=(iE op d (x.eval env) (y.eval env)).map .val:=rfl
@[simp] theorem zwU (op:UnOp) (x:ag):step cl env H (.un op x)=(O0 op (x.eval env)).map .val:=rfl
def zsh (c a b:AV):Option Eff:=match c with
 | .pure (.bool t)=>some (.val (if t then a else b))
 | _=>none
@[simp] theorem zww (c a b:ag):step cl env H (.pick c a b)=zsh (c.eval env) (a.eval env) (b.eval env):=by
 simp only [step,zsh];rfl
@[simp] theorem zt3 (t:Bool) (a b:AV):zsh (.pure (.bool t)) a b=some (.val (if t=true then a else b)):=rfl
def J6 (v:AV):Option Eff:=match v with
 | .pure .nils=>some (.val (.pure (.int .i64 0)))
 | .pure (.slice _ _ es)=>some (.val (.pure (.int .i64 es.length)))
 | .row _ _ _ n=>some (.val (.pure (.int .i64 n)))
 | _=>none
@[simp] theorem zwk (x:ag):step cl env H (.xD x)=J6 (x.eval env):=rfl
@[simp] theorem zuh:J6 (.pure .nils)=some (.val (.pure (.int .i64 0))):=rfl
@[simp] theorem ztS (h:Bool) (sz:Nat) (es:List (List PV)):J6 (.pure (.slice h sz es))=some (.val (.pure (.int .i64 es.length))):=rfl
@[simp] theorem zuN (i sz o n:Nat):J6 (.row i sz o n)=some (.val (.pure (.int .i64 n))):=rfl
def zrA (k:IntKind) (v:AV):Option Eff:=match v with
 | .pure (.int _ n)=>some (.val (.pure (.int k (k.wrap n))))
 | _=>none
@[simp] theorem zv9 (k:IntKind) (x:ag):step cl env H (.toInt k x)=zrA k (x.eval env):=rfl
@[simp] theorem zt6 (k k':IntKind) (n:Int):zrA k (.pure (.int k' n))=some (.val (.pure (.int k (k.wrap n)))):=rfl
@[simp] theorem zwA (f:ag) (args:List ag):step cl env H (.call f args)=zG cl H (f.eval env) (args.map (·.eval env)):=rfl
@[simp] theorem zwF (g:Bool) (size:Nat) (x:ag):step cl env H (.load g size x)=(qX H size (x.eval env)).bind fun cs=>(r9 g cs).map .val:=by
 simp only [step]
 cases qX H size (x.eval env)<;>rfl
def yV (sz:Nat) (v i:AV):Option Eff:=match i with
 | .pure (.int _ n)=>if 0<=n then match v with
    | .pure (.slice k s es)=>if s=sz then match es[n.toNat]? with
     | some e=>some (.val (.pure (.ptr k e 0)))
     | none=>none else none
    | .row id s off len=>if s=sz/\n < len then some (.val (.box id (off*sz+n.toNat*sz))) else none
    | _=>none
   else none
 | _=>none
@[simp] theorem ztn (sz:Nat) (x i:ag):step cl env H (.indexAddr sz none x i)=yV sz (x.eval env) (i.eval env):=by
 simp only [step,yV];rfl
@[simp] theorem zuY {k:IntKind} {n:Nat} {id sz off len:Nat} (h:n < len):yV sz (.row id sz off len) (.pure (.int k n))=some (.val (.box id (off*sz+n*sz))):=by
 simp only [yV];rw [if_pos (by omega)];have:(n:Int) < len:=by omega
 simp [this]
theorem Yg {k:IntKind} {n:Nat} {uZ:Bool} {sz:Nat} {es:List (List PV)} {e:List PV} (h:es[n]?=some e):yV sz (.pure (.slice uZ sz es)) (.pure (.int k n))=some (.val (.pure (.ptr uZ e 0))):=by
 simp only [yV];rw [if_pos (by omega)];simp [h]
def rowB (l:List UInt8):List AV:=l.map fun b=>.pure (.int .u8 b.toNat)
@[simp] theorem ztL (l:List UInt8):(rowB l).length=l.length:=by simp [rowB]
def vK (o:aP) (size off:Nat) (vs:List AV):Option aP:=match o with
 | .cells true cs=>if vs.length=size/\size≠0/\vs.all AV.one=true/\off+size<=cs.length then some (.cells true (cs.take off++vs++cs.drop (off+size))) else none
 | _=>none
def zor (H:Heap) (size:Nat) (a:AV) (vs:List AV):Option Eff:=match a with
 | .box id off=>(vK (H.get id) size off vs).map fun o=>.upd (.aQ []) (H.set id o)
 | _=>none
@[simp] theorem zvA (size:Nat) (a x:ag):step cl env H (.store size a x)=zor H size (a.eval env) (x.eval env).cells:=by
 simp only [step,zor]
 cases a.eval env<;>try rfl
 rename_i id off;simp only [vK]
 cases H.get id<;>try rfl
 rename_i own cs
 cases own with
 | false=>rfl
 | true =>
  simp only
  split<;>rfl
@[simp] theorem zuz (size id off:Nat) (vs:List AV):zor H size (.box id off) vs=(vK (H.get id) size off vs).map fun o=>.upd (.aQ []) (H.set id o):=rfl
def Yh (o:aP) (size off:Nat) (vs:List AV):Option aP:=match o with
 | .raw z=>vK (.cells true (z.map .pure)) size off vs
 | _=>none
def zlg (H:Heap) (size:Nat) (a:AV) (vs:List AV):Option Eff:=match a with
 | .box id off=>(Yh (H.get id) size off vs).map fun o=>.upd (.aQ []) (H.set id o)
 | _=>none
@[simp] theorem zuf (z:List PV) (size off:Nat) (vs:List AV):Yh (.raw z) size off vs=vK (.cells true (z.map .pure)) size off vs:=rfl
@[simp] theorem ztW (size id off:Nat) (vs:List AV):zlg H size (.box id off) vs=(Yh (H.get id) size off vs).map fun o=>.upd (.aQ []) (H.set id o):=rfl
@[simp] theorem zuU (size:Nat) (a x:ag):step cl env H (.bB size a x)=zlg H size (a.eval env) (x.eval env).cells:=by
 simp only [step,zlg]
 cases a.eval env<;>try rfl
 rename_i id off;simp only [Yh]
 cases H.get id<;>try rfl
 simp only [vK]
 split<;>rfl
@[simp] theorem zu6 (z:List PV):step cl env H (.nA z)=some (.new (.raw z) fun id=>.box id 0):=rfl
def Yi (o:aP) (off n:Nat):Option Eff:=match o with
 | .cells _ cs=>if off+n<=cs.length then match ((cs.drop off).take n).mapM J2 with
   | some bs=>some (.val (.pure (.str ⟨bs.toArray⟩)))
   | none=>none else none
 | _=>none
def UX (H:Heap) (v:AV):Option Eff:=match zM H 1 v with
  | some (cs,_)=>match cs.mapM J2 with
   | some bs=>some (.val (.pure (.str ⟨bs.toArray⟩)))
   | none=>none
  | none=>none
@[simp] theorem zvX (x:ag):step cl env H (.toStr x)=UX H (x.eval env):=rfl
@[simp] theorem zn3 (id off n:Nat):UX H (.row id 1 off n)=Yi (H.get id) off n:=by
 simp only [UX,zM,Yi,if_true]
 cases H.get id<;>try rfl
 simp only [Nat.mul_one]
 split
 .rename_i h;split at h
  .rename_i hc;rw [if_pos hc];simp at h;obtain ⟨rfl,_⟩:=h;rfl
  .simp at h
 .rename_i h;split at h
  .simp at h
  .rename_i hc;rw [if_neg hc]
theorem zkm:∀ (l:List UInt8),(rowB l).mapM J2=some l
 | []=>rfl
 | c::l=>by
  have:=zkm l;simp only [rowB] at this;simp [rowB,J2,this]
@[simp] theorem zk1 {own:Bool} {l:List UInt8} {n:Nat} (h:l.length=n):Yi (.cells own (rowB l)) 0 n=some (.val (.pure (.str ⟨l.toArray⟩))):=by
 subst h;simp only [Yi];rw [if_pos (by simp)];have:((rowB l).drop 0).take l.length=rowB l:=by rw [List.drop_zero];exact List.take_of_length_le (by simp)
 rw [this,zkm]
@[simp] theorem zuB:UX H (.pure .nils)=some (.val (.pure (.str ⟨#[]⟩))):=rfl
@[simp] theorem zuw (i:Nat) (x:ag):step cl env H (.extract i x)=match x.eval env with
  | .pure (.aQ vs)=>match vs[i]? with
   | some v=>some (.val (.pure v))
   | none=>none
  | .aQ vs=>match vs[i]? with
   | some v=>some (.val v)
   | none=>none
  | _=>none:=rfl
@[simp] theorem zwG (i:Nat) (x:ag):step cl env H (.idle i x)=match x.eval env with
  | .pure (.aQ vs)=>match vs[i]? with
   | some _=>some (.val .undef)
   | none=>none
  | .aQ vs=>match vs[i]? with
   | some _=>some (.val .undef)
   | none=>none
  | _=>none:=rfl
@[simp] theorem zwz (x:ag):step cl env H (.ym x)=some (.val (x.eval env)):=rfl
@[simp] theorem zta (sz:Nat):step cl env H (.jY sz)=some (.new (.cells true []) fun id=>.void id sz):=rfl
@[simp] theorem zwy (x:ag):step cl env H (.FQ x)=match qO (x.eval env).cells with
  | some ps=>some (.val (.pure (.ptr false ps 0)))
  | none=>none:=rfl
@[simp] theorem zsG (off:Nat) (x:ag):step cl env H (.fieldAddr off x)=match x.eval env with
  | .pure (.ptr k cs o)=>some (.val (.pure (.ptr k cs (o+off))))
  | .box id o=>some (.val (.box id (o+off)))
  | _=>none:=rfl
@[simp] theorem zv4 (g:Bool) (size:Nat) (x:ag):step cl env H (.ve g size x)=match x.eval env with
  | .pure (.ptr _ cs off)=>if off+size<=cs.length then (r9 g (((cs.drop off).take size).map .pure)).map .val else none
  | _=>none:=rfl
@[simp] theorem zuW (size:Nat) (a x:ag) (ls:List ag):step cl env H (.fG size a x ls)=match a.eval env with
  | .box id _=>if ls.all (fun l=>beside id (l.eval env))=true then step cl env H (.store size a x) else none
  | _=>none:=by
 simp only [step];generalize a.eval env=v
 cases v<;>rfl
@[simp] theorem zva (off:Nat) (x:ag):step cl env H (.lg off x)=match x.eval env with
  | .pure (.ptr k cs o)=>some (.val (.pure (.ptr k cs (o+off))))
  | .box id o=>some (.val (.box id (o+off)))
  | _=>none:=rfl
@[simp] theorem zvp (g:Bool) (size:Nat) (x:ag):step cl env H (.iQ g size x)=(qX H size (x.eval env)).bind fun cs=>(r9 g cs).map .val:=by
 simp only [step]
 cases qX H size (x.eval env)<;>rfl
@[simp] theorem zvt (z:List PV):step cl env H (.alloc z)=some (.new (.cells true (z.map .pure)) fun id=>.box id 0):=rfl
@[simp] theorem zwR (x:ag):step cl env H (.box x)=some (.new (.cells true (x.eval env).cells) fun id=>.box id 0):=rfl
@[simp] theorem zv0 (z:List PV) (ps:List (Nat×Nat×ag)):step cl env H (.build z ps)=(fill (z.map .pure) (wB env ps)).map fun cs=>.val (fQ cs):=by
 simp only [step]
 cases fill (z.map .pure) (wB env ps)<;>rfl
@[simp] theorem zst:wB env []=[]:=rfl
@[simp] theorem zqO (o s:Nat) (x:ag) (ps:List (Nat×Nat×ag)):wB env ((o,s,x)::ps)=(o,s,x.eval env)::wB env ps:=rfl
@[simp] theorem zv6 (cs:List AV):fill cs []=some cs:=rfl
@[simp] theorem zuZ (cs:List AV) (off size:Nat) (v:AV) (rest:List (Nat×Nat×AV)):fill cs ((off,size,v)::rest)=if v.cells.length=size/\size≠0/\off+size<=cs.length then fill (cs.take off++v.cells++cs.drop (off+size)) rest else none:=by
 simp only [fill]
@[simp] theorem zsu (sz:Nat) (z:List PV) (ps:List (Nat×Nat×ag)):step cl env H (.buildSlice sz z ps)=(fill (z.map .pure) (wB env ps)).map fun cs=>.new (.cells true cs) fun id=>.row id sz 0 (if sz=0 then 0 else cs.length / sz):=by
 simp only [step]
 cases fill (z.map .pure) (wB env ps)<;>rfl
@[simp] theorem zvr (f:ag) (xs ls:List ag):step cl env H (.jB f xs ls)=match zG cl H (f.eval env) (xs.map (·.eval env)) with
  | some (.upd v H2)=>if ls.all (fun l=>keeps H H2 (l.eval env))=true then some (.upd v H2) else none
  | _=>none:=rfl
@[simp] theorem zuX (z:List PV) (ps:List (Nat×Nat×ag)):step cl env H (.qj z ps)=(fill (z.map .pure) (wB env ps)).map fun cs=>.val (fQ cs):=by
 simp only [step]
 cases fill (z.map .pure) (wB env ps)<;>rfl
@[simp] theorem zvf (sz:Nat) (z:List PV) (ps:List (Nat×Nat×ag)):step cl env H (.oC sz z ps)=(fill (z.map .pure) (wB env ps)).bind fun cs=>(qO cs).bind fun ps=>if ps.length=TP sz cs.length*sz then some (.val (.pure (.slice false sz (chunks sz (TP sz cs.length) ps)))) else none:=by
 simp only [step]
 cases fill (z.map .pure) (wB env ps) with
 | none=>rfl
 | some cs=>simp only [Option.bind_some];cases qO cs<;>rfl
@[simp] theorem ztT (f:Nat) (first:List ag):step cl env H (.iD f first)=(qO (first.map (·.eval env))).bind fun ps=>some (.val (.pure (.lN f ps))):=by
 simp only [step]
 cases qO (first.map (·.eval env))<;>rfl
@[simp] theorem ztQ (g:Nat) (first:List PV) (args:List AV):zG cl H (.pure (.lN g first)) args=zG cl H (.pure (.func g [])) (first.map .pure++args):=by
 simp only [zG,List.map_nil,List.append_nil]
@[simp] theorem ztH (f:Nat) (caps:List ag):step cl env H (.makeFunc f caps)=some (.val (KR f (caps.map (·.eval env)))):=rfl
@[simp] theorem zuV (n:Nat):step cl env H (.yj n)=some (.val (.pure (.int .i64 n))):=rfl
@[simp] theorem zu8 (sz b:Nat) (x y:ag):step cl env H (.append sz b x y)=zh H sz b (x.eval env) (y.eval env):=rfl
def UY (mx:Bool) (vs:List AV):Option Eff:=match vs with
 | .pure (.int k a)::rest=>(Ig mx k a rest).map fun n=>.val (.pure (.int k n))
 | _=>none
@[simp] theorem zuS (mx:Bool) (xs:List ag):step cl env H (.aZ mx xs)=UY mx (xs.map fun x=>x.eval env):=rfl
@[simp] theorem zwq (k k':IntKind) (a b:Int):UY true [.pure (.int k a),.pure (.int k' b)]=some (.val (.pure (.int k (max a b)))):=by
 simp only [UY,Ig,Option.map_some]
 congr 4
 simp only [if_true]
 split<;>omega
@[simp] theorem zwH (k k':IntKind) (a b:Int):UY false [.pure (.int k a),.pure (.int k' b)]=some (.val (.pure (.int k (min a b)))):=by
 simp only [UY,Ig,Option.map_some]
 congr 4
 simp only [Bool.false_eq_true,if_false]
 split<;>omega
@[simp] theorem zu1 (a b:Bool):iE .eql .bool (.pure (.bool a)) (.pure (.bool b))=some (.pure (.bool (a == b))):=by
 simp [iE,KS,isNil]
@[simp] theorem zt9:qO []=some []:=rfl
@[simp] theorem zt2 (p:PV) (vs:List AV):qO (.pure p::vs)=(qO vs).map (p :: ·):=rfl
theorem zna:∀ (ps:List PV),qO (ps.map .pure)=some ps
 | []=>rfl
 | p::ps=>by simp [zna ps]
@[simp] theorem zve (ps:List PV):AV.cells (.pure (.agg ps))=ps.map .pure:=rfl
@[simp] theorem zvj (k:IntKind) (n:Int):AV.cells (.pure (.int k n))=[.pure (.int k n)]:=rfl
@[simp] theorem zuF (b:Bool):AV.cells (.pure (.bool b))=[.pure (.bool b)]:=rfl
@[simp] theorem zu7 (b:ByteArray):AV.cells (.pure (.str b))=[.pure (.str b)]:=rfl
@[simp] theorem zuH:AV.cells (.pure .nils)=[.pure .nils]:=rfl
@[simp] theorem ztw (h:Bool) (sz:Nat) (es:List (List PV)):AV.cells (.pure (.slice h sz es))=[.pure (.slice h sz es)]:=rfl
@[simp] theorem zvc (i sz o n:Nat):AV.cells (.row i sz o n)=[.row i sz o n]:=rfl
@[simp] theorem zss (size:Nat) (k:Bool) (cs:List PV) (off:Nat):qX H size (.pure (.ptr k cs off))=if off+size<=cs.length then some (((cs.drop off).take size).map .pure) else none:=rfl
def Fh (o:aP) (size off:Nat):Option (List AV):=match o with
 | .cells _ cs=>if off+size<=cs.length then some ((cs.drop off).take size) else none
 | _=>none
@[simp] theorem zsp (size id off:Nat):qX H size (.box id off)=Fh (H.get id) size off:=by
 simp only [qX,Fh];rfl
@[simp] theorem ztF (cs:List AV):r9 true cs=some (fQ cs):=rfl
@[simp] theorem zuD {cs:List AV} {ps:List PV} (h:qO cs=some ps):fQ cs=.pure (.agg ps):=by simp [fQ,h]
@[simp] theorem ztv {f:Nat} {cs:List AV} {ps:List PV} (h:qO cs=some ps):KR f cs=.pure (.func f ps):=by simp [KR,h]
@[simp] theorem zty (c:AV):r9 false [c]=some c:=rfl
@[simp] theorem ztJ (t:Nat):results env H [.tmp t]=some (env t):=rfl
@[simp] theorem zt1 (t u:Nat):results env H [.tmp t,.tmp u]=some (.aQ [env t,env u]):=rfl
@[simp] theorem ztC (h:Bool) (n:Nat) (p:PV):freeze H h (n+1) (.pure p)=some (p,[]):=rfl
@[simp] theorem zsq (h:Bool) (p:PV):freeze H h qP (.pure p)=some (p,[]):=rfl
@[simp] theorem zum (h:Bool) (n:Nat) (cs:List AV):freeze H h (n+1) (.aQ cs)=(match zX (freeze H h n) cs with
   | some (ps,is)=>some (.aQ ps,is)
   | none=>none):=rfl
@[simp] theorem zsK (h:Bool) (cs:List AV):freeze H h qP (.aQ cs)=(match zX (freeze H h 11) cs with
   | some (ps,is)=>some (.aQ ps,is)
   | none=>none):=rfl
theorem zec (h:Bool) (n:Nat):∀ (ps:List PV),zX (freeze H h (n+1)) (ps.map .pure)=some (ps,[])
 | []=>rfl
 | p::ps=>by simp [zX,zec h n ps]
@[simp] theorem ztO (fr:AV->Option (PV×List Nat)):zX fr []=some ([],[]):=rfl
@[simp] theorem zsy (fr:AV->Option (PV×List Nat)) (v:AV) (vs:List AV):zX fr (v::vs)=(match fr v with
  | none=>none
  | some (p,is)=>match zX fr vs with
   | none=>none
   | some (ps,js)=>some (p::ps,is++js)):=by
 simp only [zX];rfl
@[simp] theorem qp (o:aP):(H.alloc o).nx=H.nx+1:=by cases H;simp only [Heap.alloc]
@[simp] theorem lM (id:Nat) (o:aP):(H.set id o).nx=H.nx:=by cases H;simp only [Heap.set]
@[simp] theorem zn {id:Nat} {o:aP} (h:id < H.nx):(H.set id o).get id=o:=Ns h
theorem zo {id:Nat} {own:Bool} {cs:List AV} (h:H.get id=.cells own cs):id < H.nx:=TQ (by rw [h];simp)
@[simp] theorem F7 (o:aP):(H.alloc o).get H.nx=o:=O3
theorem zi {id:Nat} {o:aP} (h:id < H.nx):(H.alloc o).get id=H.get id:=Nr (by omega)
theorem zqn {G:Prog} {n f:Nat} {ps:List PV} {r:PV} (hs:G.shared f=false) (h:zF G n f ps=some r):zG (zt G n) H (.pure (.func f [])) (ps.map .pure)=some (.val (.pure r)):=by
 have h1:zX (freeze H true qP) (ps.map .pure)=some (ps,[]):=zec true 11 ps;have h2:(zt G n).shared f=false:=hs;have h3:(zt G n).pure f ps=some r:=h;simp only [zG,List.map_nil,List.append_nil,h2,Bool.false_eq_true,if_false,h1,h3,List.isEmpty_nil,Bool.true_or,if_true]
end
def zq {α:Type} (f:α->List PV) (l:List α):List AV:=(l.map fun a=>(f a).map AV.pure).flatten
def zn1 (c:UInt8):List PV:=[.int .u8 c.toNat]
theorem zsV (l:List UInt8):rowB l=zq zn1 l:=by
 induction l with
 | nil=>rfl
 | cons c l ih =>
  simp only [rowB] at ih;simp [rowB,zq,zn1,ih]
theorem G9 {α:Type} (f:α->List PV) (l m:List α):zq f (l++m)=zq f l++zq f m:=by simp [zq]
theorem UZ {α:Type} (f:α->List PV) (a:α):zq f [a]=(f a).map .pure:=by simp [zq]
theorem DX {α:Type} {f:α->List PV} {sz:Nat} (hf:∀ a,(f a).length=sz) (l:List α):(zq f l).length=l.length*sz:=by
 induction l with
 | nil=>simp [zq]
 | cons a l ih =>
  have:zq f (a::l)=(f a).map .pure++zq f l:=by simp [zq]
  rw [this,List.length_append,ih];simp [hf,Nat.add_mul,Nat.add_comm]
def bP {α:Type} (f:α->List PV) (sz:Nat) (H:Heap) (v:AV) (l:List α):Prop :=
 (l=[]/\v=.pure .nils)\/∃ id,v=.row id sz 0 l.length/\H.get id=.cells true (zq f l)
section
variable {α:Type} {f:α->List PV} {sz:Nat} {H:Heap} {v:AV} {l:List α}
theorem bP.nil:bP f sz H (.pure .nils) []:=.inl ⟨rfl,rfl⟩
theorem bP.alloc (h:bP f sz H v l) (o:aP):bP f sz (H.alloc o) v l:=by
 rcases h with h|⟨id,h1,h2⟩
 .exact .inl h
 .exact .inr ⟨id,h1,by rw [zi (zo h2)];exact h2⟩
theorem bP.keep {H':Heap} (h:bP f sz H v l) (hk:∀ id,(∃ n,v=.row id sz 0 n)->H'.get id=H.get id):bP f sz H' v l:=by
 rcases h with h|⟨id,h1,h2⟩
 .exact .inl h
 .exact .inr ⟨id,h1,by rw [hk id ⟨_,h1⟩];exact h2⟩
theorem zhE {id n:Nat} {own:Bool} {cs:List AV} (h:H.get id=.cells own cs) (hl:n*sz<=cs.length):zM H sz (.row id sz 0 n)=some (cs.take (n*sz),n):=by
 simp only [zM,if_true,h,Nat.zero_mul,Nat.zero_add,if_pos hl,List.drop_zero]
theorem U0 (ps:List PV) (h:ps.all PV.one=true):(ps.map AV.pure).all AV.one=true:=by
 simp only [List.all_map,List.all_eq_true] at h ⊢;intro p hp;have:=h p hp
 cases p<;>first|rfl|simp [PV.one] at this
theorem bP.toStr {v:AV} {l:List UInt8} (h:bP zn1 1 H v l):UX H v=some (.val (.pure (.str ⟨l.toArray⟩))):=by
 rcases h with ⟨rfl,rfl⟩|⟨id,rfl,h⟩
 .rfl
 .rw [zn3,h,<- zsV,zk1 rfl]
end
structure Hide (p:Prop):Prop where
 h:p
theorem zee {α β:Type} {f:α->β} {xs:List α} {i:Nat} (h:i < xs.length):(xs.map f).take i++[f xs[i]]=(xs.map f).take (i+1):=by
 rw [List.take_add_one,List.getElem?_eq_getElem (by simpa using h)];simp
theorem DY {α:Type} {xs:List α} {i:Nat} (h:i < xs.length):xs.take i++[xs[i]]=xs.take (i+1):=by
 rw [List.take_add_one,List.getElem?_eq_getElem h];simp
inductive Sl (α:Type) where
 | nil
 | mk (uZ:Bool) (xs:List α)
 deriving Inhabited
section
variable {α:Type}
def Sl.xs:Sl α->List α
 | .nil=>[]
 | .mk _ xs=>xs
def Sl.uZ:Sl α->Bool
 | .nil=>false
 | .mk h _=>h
def Sl.isNil:Sl α->Bool
 | .nil=>true
 | .mk _ _=>false
def Sl.pv (f:α->List PV) (sz:Nat):Sl α->PV
 | .nil=>.nils
 | .mk h xs=>.slice h sz (xs.map f)
def Sl.of:List α->Sl α
 | []=>.nil
 | a::l=>.mk false (a::l)
@[simp] theorem Sl.fP (l:List α):(Sl.of l).xs=l:=by cases l<;>rfl
@[simp] theorem Sl.xs_nil:(Sl.nil:Sl α).xs=[]:=rfl
@[simp] theorem Sl.bL (h:Bool) (l:List α):(Sl.mk h l).xs=l:=rfl
@[simp] theorem Sl.of_nil:Sl.of ([]:List α)=.nil:=rfl
@[simp] theorem Sl.of_cons (a:α) (l:List α):Sl.of (a::l)=.mk false (a::l):=rfl
@[simp] theorem Sl.pv_nil (f:α->List PV) (sz:Nat):(Sl.nil:Sl α).pv f sz=.nils:=rfl
@[simp] theorem zwd (f:α->List PV) (sz:Nat) (s:Sl α):isNil .slice (.pure (s.pv f sz))=some s.isNil:=by cases s<;>rfl
@[simp] theorem zvS (f:α->List PV) (sz:Nat) (s:Sl α):AV.cells (.pure (s.pv f sz))=[.pure (s.pv f sz)]:=by cases s<;>rfl
@[simp] theorem zwu (f:α->List PV) (sz:Nat) (s:Sl α):AV.one (.pure (s.pv f sz))=true:=by cases s<;>rfl
@[simp] theorem zvh (f:α->List PV) (sz:Nat) (s:Sl α):J6 (.pure (s.pv f sz))=some (.val (.pure (.int .i64 s.xs.length))):=by
 cases s<;>simp [Sl.pv,Sl.xs]
@[simp] theorem pR {k:IntKind} {n:Nat} {f:α->List PV} {sz:Nat} {s:Sl α} (h:n < s.xs.length):yV sz (.pure (s.pv f sz)) (.pure (.int k n))=some (.val (.pure (.ptr s.uZ (f s.xs[n]) 0))):=by
 cases s with
 | nil=>simp at h
 | mk uZ xs =>
  simp only [Sl.xs] at h
  refine Yg ?_
  simp [List.getElem?_eq_getElem h,Sl.xs]
theorem zju {H:Heap} {f:α->List PV} {sz:Nat} (hf:∀ a,(f a).length=sz) (s:Sl α):zM H sz (.pure (s.pv f sz))=some ((s.xs.map f).flatten.map .pure,s.xs.length):=by
 cases s with
 | nil=>rfl
 | mk uZ xs =>
  have:(xs.map f).all (fun e=>e.length == sz)=true:=by simp [hf]
  simp only [Sl.pv,zM,this,if_true,Sl.xs,List.length_map]
end
@[simp low] theorem ztB (c:AV) (cs:List AV) (size off:Nat) (vs:List AV):vK (.cells true (c::cs)) size off vs=if vs.length=size/\size≠0/\vs.all AV.one=true/\off+size<=(c::cs).length then some (.cells true ((c::cs).take off++vs++(c::cs).drop (off+size))) else none:=rfl
@[simp low] theorem zsI (own:Bool) (c:AV) (cs:List AV) (size off:Nat):Fh (.cells own (c::cs)) size off=if off+size<=(c::cs).length then some (((c::cs).drop off).take size) else none:=rfl
@[simp] theorem zvC (k:IntKind) (n:Int):PV.one (.int k n)=true:=rfl
@[simp] theorem zvk (b:Bool):PV.one (.bool b)=true:=rfl
@[simp] theorem zwl (b:ByteArray):PV.one (.str b)=true:=rfl
@[simp] theorem zwb (k:IntKind) (n:Int):AV.one (.pure (.int k n))=true:=rfl
@[simp] theorem zu0 (b:Bool):AV.one (.pure (.bool b))=true:=rfl
@[simp] theorem zvG (b:ByteArray):AV.one (.pure (.str b))=true:=rfl
@[simp] theorem zvn:AV.one (.pure .nils)=true:=rfl
@[simp] theorem zvd:AV.one (.pure .l8)=true:=rfl
@[simp] theorem zu5:AV.one (.pure .l9)=true:=rfl
@[simp] theorem zvl (f:Nat) (c:List PV):AV.one (.pure (.func f c))=true:=rfl
@[simp] theorem zv8 (i sz o n:Nat):AV.one (.row i sz o n)=true:=rfl
@[simp] theorem zvD (i o:Nat):AV.one (.box i o)=true:=rfl
@[simp] theorem zuy (h:Bool) (sz:Nat) (es:List (List PV)):AV.one (.pure (.slice h sz es))=true:=rfl
@[simp] theorem zhA {H:Heap} {id:Nat} {o:aP} (h:id=H.nx):(H.alloc o).get id=o:=by subst h;exact O3
@[simp] theorem zsr {H:Heap} {id:Nat} {o:aP} (h:id < H.nx):(H.alloc o).get id=H.get id:=zi h
@[simp] theorem ztz {H:Heap} {id j:Nat} {o:aP} (h:id≠j):(H.set j o).get id=H.get id:=zg h
@[simp] theorem zwi:Heap.empty.nx=0:=by simp only [Heap.empty]
def Yj (o:aP) (sz off len:Nat):Option (List AV×Nat):=match o with
 | .cells _ cs=>if off*sz+len*sz<=cs.length then some ((cs.drop (off*sz)).take (len*sz),len) else none
 | _=>none
@[simp] theorem zjn (H:Heap) (id sz off len:Nat):zM H sz (.row id sz off len)=Yj (H.get id) sz off len:=by
 simp only [zM,Yj,if_true]
 cases H.get id<;>rfl
@[simp] theorem zrm (own:Bool) (c:AV) (cs:List AV) (sz off len:Nat):Yj (.cells own (c::cs)) sz off len=if off*sz+len*sz<=(c::cs).length then some (((c::cs).drop (off*sz)).take (len*sz),len) else none:=rfl
@[simp] def aF (n:Int):List PV:=[.int .i64 n]
@[simp] theorem zvL {cl:Callee} {env:Env} {H:Heap} (off size:Nat) (g:Bool) (x:ag):step cl env H (.field off size g x)=if xG (x.eval env)=true/\off+size<=(x.eval env).cells.length then (r9 g (((x.eval env).cells.drop off).take size)).map .val else none:=rfl
@[simp] theorem zuL (ps:List PV):xG (.pure (.agg ps))=true:=rfl
def Yk (sz len:Nat) (g:Bool) (v i:AV):Option Eff:=match i with
 | .pure (.int _ n)=>if xG v=true/\0<=n/\n < len/\n.toNat*sz+sz<=v.cells.length then (r9 g ((v.cells.drop (n.toNat*sz)).take sz)).map .val else none
 | _=>none
@[simp] theorem zwa {cl:Callee} {env:Env} {H:Heap} (sz len:Nat) (g:Bool) (x i:ag):step cl env H (.index sz len g x i)=Yk sz len g (x.eval env) (i.eval env):=by simp only [step,Yk];rfl
@[simp] theorem zuC (sz len:Nat) (g:Bool) (v:AV) (k:IntKind) (n:Int):Yk sz len g v (.pure (.int k n))=if xG v=true/\0<=n/\n < len/\n.toNat*sz+sz<=v.cells.length then (r9 g ((v.cells.drop (n.toNat*sz)).take sz)).map .val else none:=rfl
@[simp] theorem zul (f:Nat) (c:List PV):AV.cells (.pure (.func f c))=[.pure (.func f c)]:=rfl
@[simp] theorem zvi (h:Bool) (c:List PV) (o:Nat):AV.cells (.pure (.ptr h c o))=[.pure (.ptr h c o)]:=rfl
@[simp] theorem zu4 (i o:Nat):AV.cells (.box i o)=[.box i o]:=rfl
theorem zf {H:Heap} {G:Prog} {n f:Nat} {ps caps:List PV} {r:PV} (hs:G.shared f=false) (h:zF G n f (ps++caps)=some r):zG (zt G n) H (.pure (.func f caps)) (ps.map .pure)=some (.val (.pure r)):=by
 have h1:zX (freeze H true qP) (ps.map .pure++caps.map .pure)=some (ps++caps,[]):=by rw [<- List.map_append];exact zec true 11 _
 have h2:(zt G n).shared f=false:=hs;have h3:(zt G n).pure f (ps++caps)=some r:=h;simp only [zG,h2,Bool.false_eq_true,if_false,h1,h3,List.isEmpty_nil,Bool.true_or,if_true]
@[simp] theorem zt8 (cs:List AV):(fQ cs).cells=cs:=by
 unfold fQ
 split
 .rename_i ps h;have main:∀ (cs:List AV) (ps:List PV),qO cs=some ps->ps.map AV.pure=cs:=by
   intro cs
   induction cs with
   | nil=>intro ps h;simp [qO] at h;subst h;rfl
   | cons c cs ih =>
    intro ps h;unfold qO at h
    split at h
    .rename_i h0;cases h0
    .rename_i p vs' h0;simp only [List.cons.injEq] at h0;obtain ⟨rfl,rfl⟩:=h0;rw [Option.map_eq_some_iff] at h;obtain ⟨qs,hq,rfl⟩:=h;rw [List.map_cons,ih _ hq]
    .simp at h
  exact main _ _ h
 .rfl
def U1 (sz bytes:Nat) (zero:List PV) (l c:AV):Option Eff:=match l,c with
  | .pure (.int _ a),.pure (.int _ b) =>
   if 0<=a/\a=b/\a.toNat*sz<=zu/\a.toNat*bytes<=zu/\a.toNat<=zu then
    some (.new (.cells true ((List.replicate a.toNat (zero.map AV.pure)).flatten)) fun id=>.row id sz 0 a.toNat)
   else none
  | _,_=>none
@[simp] theorem ztr {cl:Callee} {env:Env} {H:Heap} (sz bytes:Nat) (zero:List PV) (l c:ag):step cl env H (.makeSlice sz bytes zero l c)=U1 sz bytes zero (l.eval env) (c.eval env):=by simp only [step,U1];rfl
@[simp] theorem zp4 {sz bytes:Nat} {zero:List PV} {k k':IntKind} {n:Nat} (h:n*sz<=zu/\n*bytes<=zu/\n<=zu):U1 sz bytes zero (.pure (.int k n)) (.pure (.int k' n))=some (.new (.cells true ((List.replicate n (zero.map AV.pure)).flatten)) fun id=>.row id sz 0 n):=by
 simp only [U1];rw [if_pos ⟨by omega,by trivial,by simpa using h.1,by simpa using h.2.1,by simpa using h.2.2⟩];simp
@[simp] theorem zvW {d:xC} {k:IntKind} {a b:Int} (h:b≠0):iE .quo d (.pure (.int k a)) (.pure (.int k b))=some (.pure (.int k (k.wrap (a.tdiv b)))):=by simp [iE,Dn,h]
@[simp] theorem zwc {d:xC} {k:IntKind} {a b:Int} (h:b≠0):iE .rem d (.pure (.int k a)) (.pure (.int k b))=some (.pure (.int k (a.tmod b))):=by simp [iE,Dn,h]
section
variable {H:Heap} {id sz off len i j:Nat} {k k':IntKind}
end
section
variable {α:Type} {H:Heap} {f:α->List PV} {sz:Nat} {s:Sl α} {i j:Nat} {k k':IntKind}
def Sl.sub (s:Sl α) (i j:Nat):Sl α:=match s with
 | .nil=>.nil
 | .mk h xs=>.mk h ((xs.take j).drop i)
end
def Lt:aX->List Nat
 | .region _ ops=>F5 ops
 | .seq a b|.cond _ a b=>Lt a++Lt b
 | .block _ c|.loop c=>Lt c
 | _=>[]
def PS (ds:List (Nat×Nat)) (t:Nat):Bool:=ds.any fun p=>Nat.ble p.1 t&&Nat.ble t p.2
def Yl (ds:List (Nat×Nat)) (Lu env:Env):Env:=fun t=>if PS ds t=true then env t else Lu t
section
variable {cl:Callee} {Q:fO->Env->Heap->Prop}
theorem zjj {t:Nat} {f:Env->Heap->Out} (hf:∀ env H x env' H',f env H=some (x,env',H')->env' t=env t):∀ {m env H x env' H'},iter f m env H=some (x,env',H')->env' t=env t
 | 0,env,H,x,env',H',h=>by simp [iter] at h
 | m+1,env,H,x,env',H',h=>by
  unfold iter at h
  split at h
  .rename_i e1 h1 hr;exact (zjj hf h).trans (hf _ _ _ _ _ hr)
  .exact hf _ _ _ _ _ h
theorem J7 {t:Nat}:∀ {c:aX},(Lt c).contains t=false->∀ {env H x env' H'},exec cl c env H=some (x,env',H')->env' t=env t
 | .skip,_,env,H,x,env',H',h=>by simp [exec] at h;obtain ⟨_,rfl,_⟩:=h;rfl
 | .exit _,_,env,H,x,env',H',h=>by simp [exec] at h;obtain ⟨_,rfl,_⟩:=h;rfl
 | .ret,_,env,H,x,env',H',h=>by simp [exec] at h;obtain ⟨_,rfl,_⟩:=h;rfl
 | .region pre ops,ht,env,H,x,env',H',h=>by
  simp only [exec] at h
  split at h
  .rename_i e1 h1 hr;simp at h;obtain ⟨_,rfl,_⟩:=h;exact zeB hr t ht
  .simp at h
 | .seq a b,ht,env,H,x,env',H',h=>by
  simp [Lt] at ht;simp only [exec] at h
  split at h
  .rename_i e1 h1 hr;exact (J7 (by simpa using ht.2) h).trans (J7 (by simpa using ht.1) hr)
  .exact J7 (by simpa using ht.1) h
 | .cond c a b,ht,env,H,x,env',H',h=>by
  simp [Lt] at ht;simp only [exec] at h
  split at h
  .split at h
   .exact J7 (by simpa using ht.1) h
   .exact J7 (by simpa using ht.2) h
  .simp at h
 | .block id c,ht,env,H,x,env',H',h=>by
  simp only [exec] at h
  split at h
  .rename_i i e1 h1 hr
   split at h
   .simp at h;obtain ⟨_,rfl,_⟩:=h;exact J7 (c:=c) ht hr
   .simp at h;obtain ⟨_,rfl,_⟩:=h;exact J7 (c:=c) ht hr
  .exact J7 (c:=c) ht h
 | .loop c,ht,env,H,x,env',H',h=>by
  simp only [exec] at h;exact zjj (fun env H x env' H' h=>J7 (c:=c) ht h) h
 | .rangeFunc f ps as b,ht,env,H,x,env',H',h=>by
  simp only [exec] at h
  split at h
  .split at h
   .split at h
    .split at h
     .simp at h
     .simp at h;obtain ⟨_,rfl,_⟩:=h;rfl
    .simp at h
   .simp at h
  .split at h
   .split at h
    .split at h
     .simp at h
     .simp at h;obtain ⟨_,rfl,_⟩:=h;rfl
    .simp at h
   .simp at h
  .simp at h
theorem zA {env:Env} {H:Heap} {c:aX} {σ:Type} (ds:List (Nat×Nat)) (I:σ->Env->Heap->Prop) (m:σ->Nat) (s:σ) (Ug:(Lt c).all (PS ds)=true) (h0:I s env H) (hm:m s < zz)
  (hb:∀ s env' H,I s env' H->wp cl c (Yl ds env env') H (UU (fun e h=>∃ s',m s' < m s/\I s' e h) Q) .mk) {u}:wp cl (.loop c) env H Q u:=by
 refine zsE (fun s e h=>I s e h/\∀ t,PS ds t=false->e t=env t) m s ⟨h0,fun _ _=>rfl⟩ hm ?_
 rintro s e h ⟨hI,tO⟩;have he:Yl ds env e=e:=by
  funext t
  simp only [Yl]
  split
  .rfl
  .rename_i ht;exact (tO t (by simpa using ht)).symm
 have:=hb s e h hI;rw [he] at this;obtain ⟨x,e',h',h1,h2⟩:=this
 refine ⟨x,e',h',h1,?_⟩
 cases x with
 | normal =>
  obtain ⟨s',oH,hI'⟩:=h2
  refine ⟨s',oH,hI',fun t ht=>?_⟩
  have hn:(Lt c).contains t=false:=by
   rw [List.all_eq_true] at Ug
   cases hc:(Lt c).contains t with
   | false=>rfl
   | true =>
    have:=Ug t (by simpa using hc);rw [ht] at this;exact absurd this (by simp)
  exact (J7 hn h1).trans (tO t ht)
 | exit i=>exact h2
 | ret=>exact h2
end
theorem zkT (ds:List (Nat×Nat)) (Lu env:Env) (t:Nat):Yl ds Lu env t=if PS ds t=true then env t else Lu t:=rfl
@[simp] theorem zws (t:Nat):PS [] t=false:=rfl
@[simp] theorem zvy (a b:Nat) (ds:List (Nat×Nat)) (t:Nat):PS ((a,b)::ds) t=(Nat.ble a t&&Nat.ble t b||PS ds t):=rfl
attribute [simp] zkT
def FrzK (H:Heap) (k:Bool) (n:Nat) (v:AV) (p:PV):Prop:=∃ ids,freeze H k n v=some (p,ids)
def FrzL (H:Heap) (k:Bool) (n:Nat) (vs:List AV) (ps:List PV):Prop:=∃ ids,zX (freeze H k n) vs=some (ps,ids)
section
variable {H:Heap} {k:Bool} {n:Nat}
theorem FrzK.pure (p:PV):FrzK H k (n+1) (.pure p) p:=⟨[],rfl⟩
theorem FrzL.nil:FrzL H k n [] []:=⟨[],rfl⟩
theorem FrzL.cons {v:AV} {p:PV} {vs:List AV} {ps:List PV} (h:FrzK H k n v p) (hs:FrzL H k n vs ps):FrzL H k n (v::vs) (p::ps):=by
 obtain ⟨i,hi⟩:=h;obtain ⟨j,hj⟩:=hs;exact ⟨i++j,by simp only [zX,hi,hj]⟩
theorem FrzK.aQ {vs:List AV} {ps:List PV} (h:FrzL H k n vs ps):FrzK H k (n+1) (.aQ vs) (.aQ ps):=by
 obtain ⟨i,hi⟩:=h;exact ⟨i,by simp only [freeze,hi]⟩
theorem FrzK.agg {vs:List AV} {ps:List PV} (h:FrzL H k n vs ps):FrzK H k (n+1) (.agg vs) (.agg ps):=by
 obtain ⟨i,hi⟩:=h;exact ⟨i,by simp only [freeze,hi]⟩
theorem FrzL.p8:∀ (ps:List PV),FrzL H k (n+1) (ps.map .pure) ps
 | []=>.nil
 | p::ps=>.cons (.pure p) (FrzL.p8 ps)
theorem FrzK.fQ {vs:List AV} {ps:List PV} (h:FrzL H k n vs ps):FrzK H k (n+1) (fQ vs) (.agg ps):=by
 unfold Vm.fQ
 split
 .rename_i qs hq;have:ps=qs:=by
   have main:∀ (vs:List AV) (ps qs:List PV),qO vs=some qs->FrzL H k n vs ps->ps=qs:=by
    intro vs
    induction vs with
    | nil=>intro ps qs h1 h2;simp [qO] at h1;obtain ⟨i,hi⟩:=h2;simp [zX] at hi;rw [h1,hi.1]
    | cons v vs ih =>
     intro ps qs h1 h2;unfold qO at h1
     split at h1
     .rename_i h0;cases h0
     .rename_i p vs' h0;simp only [List.cons.injEq] at h0;obtain ⟨rfl,rfl⟩:=h0;rw [Option.map_eq_some_iff] at h1;obtain ⟨qs',RQ,rfl⟩:=h1;obtain ⟨i,hi⟩:=h2
      cases n with
      | zero=>simp [zX,freeze] at hi
      | succ n =>
       simp only [zX,freeze] at hi
       split at hi
       .simp at hi
       .rename_i ps' js sD;simp only [Option.some.injEq,Prod.mk.injEq] at hi;obtain ⟨rfl,_⟩:=hi;rw [ih _ _ RQ ⟨js,sD⟩]
     .simp at h1
   exact main vs ps qs hq h
  subst this;exact .pure _
 .exact .agg h
end
def Sr:Option (List AV)->Option AV
 | some [v]=>some v
 | some vs=>some (.aQ vs)
 | none=>none
theorem zhX (env:Env) (H:Heap) (rs:List mP):results env H rs=Sr (EM env H rs):=by
 unfold results Sr
 cases EM env H rs with
 | none=>rfl
 | some l=>match l with
  | []=>rfl
  | [v]=>rfl
  | a::b::l=>rfl
@[simp] theorem zuR (v:AV):Sr (some [v])=some v:=rfl
@[simp] theorem zvm:Sr (some [])=some (.aQ []):=rfl
@[simp] theorem zuT (a b:AV) (l:List AV):Sr (some (a::b::l))=some (.aQ (a::b::l)):=rfl
@[simp] theorem zmA (env:Env) (H:Heap):EM env H []=some []:=rfl
@[simp] theorem zla (env:Env) (H:Heap) (r:mP) (rs:List mP):EM env H (r::rs)=(KT env H r).bind fun v=>(EM env H rs).map (v :: ·):=by
 simp only [EM]
 cases KT env H r with
 | none=>rfl
 | some v=>cases EM env H rs<;>rfl
@[simp] theorem ztR (env:Env) (H:Heap) (t:Nat):KT env H (.tmp t)=some (env t):=rfl
@[simp] theorem zkJ (env:Env) (H:Heap) (t size:Nat) (g:Bool):KT env H (.cell t size g)=(qX H size (env t)).bind (r9 g):=by
 simp only [KT]
 cases qX H size (env t)<;>rfl
@[simp] theorem zso (env:Env) (H:Heap) (a b:mP) (rs:List mP):results env H (a::b::rs)=Sr (EM env H (a::b::rs)):=zhX ..
@[simp] theorem zsN (env:Env) (H:Heap) (t size:Nat) (g:Bool):results env H [.cell t size g]=(qX H size (env t)).bind (r9 g):=by
 rw [zhX];simp only [zla,zmA,zkJ]
 cases (qX H size (env t)).bind (r9 g)<;>rfl
@[simp] theorem zs2 (env:Env) (H:Heap):results env H []=some (.aQ []):=rfl
def Names (v:AV) (id:Nat):Prop:=∃ sz o n,v=.row id sz o n
section
variable {α:Type} {f:α->List PV} {sz:Nat} {H:Heap} {v:AV} {l:List α}
theorem bP.names_lt (h:bP f sz H v l) {id:Nat} (hn:Names v id):id < H.nx:=by
 rcases h with ⟨_,rfl⟩|⟨i,rfl,hg⟩
 .obtain ⟨_,_,_,h⟩:=hn;simp at h
 .obtain ⟨_,_,_,h⟩:=hn;simp at h;obtain ⟨rfl,_⟩:=h;exact zo hg
theorem bP.fresh (h:bP f sz H v l):∀ id,H.nx<=id->¬ Names v id:=fun id hl hn=>by have:=h.names_lt hn;omega
theorem bP.len (h:bP f sz H v l):J6 v=some (.val (.pure (.int .i64 l.length))):=by
 rcases h with ⟨rfl,rfl⟩|⟨id,rfl,_⟩<;>rfl
theorem bP.frz {k:Bool} {n:Nat} (h:bP f sz H v l) (hf:∀ a,(f a).length=sz):FrzK H k (n+2) v ((match l with|[]=>Sl.nil|_=>.mk k l).pv f sz)\/(l=[]/\FrzK H k (n+2) v (.slice k sz [])):=by
 rcases h with ⟨rfl,rfl⟩|⟨id,rfl,hg⟩
 .exact .inl (.pure _)
 .have qg:∀ l:List α,chunks sz l.length ((l.map f).flatten)=l.map f:=by
   intro l
   induction l with
   | nil=>rfl
   | cons a l ih =>
    simp only [List.length_cons,chunks,List.map_cons,List.flatten_cons];rw [List.take_left' (hf a),List.drop_left' (hf a),ih]
  have hlen:((l.map f).flatten).length=l.length*sz:=by
   have:=DX hf l
   simpa [zq,List.map_flatten,Function.comp_def] using this
  have hp:zq f l=((l.map f).flatten).map .pure:=by simp [zq,List.map_flatten,Function.comp_def]
  have key:FrzK H k (n+2) (.row id sz 0 l.length) (.slice k sz (l.map f)):=by
   refine ⟨[id],?_⟩
   have h1:((zq f l).drop (0*sz)).take (l.length*sz)=((l.map f).flatten).map .pure:=by
    rw [Nat.zero_mul,List.drop_zero,hp];exact List.take_of_length_le (by rw [List.length_map,hlen];exact Nat.le_refl _)
   obtain ⟨ids,iw⟩:=FrzL.p8 (H:=H) (k:=k) (n:=n) ((l.map f).flatten);have I6:zX (freeze H k (n+1)) (((l.map f).flatten).map .pure)=some ((l.map f).flatten,[]):=by
    clear iw;generalize (l.map f).flatten=q
    induction q with
    | nil=>rfl
    | cons p ps ih=>rw [List.map_cons,zX,ih];rfl
   unfold freeze;simp only [hg,h1,I6,hlen,if_true,qg]
  cases l with
  | nil=>exact .inr ⟨rfl,key⟩
  | cons a l=>exact .inl key
def aC {α:Type} (f:α->List PV) (sz:Nat) (H:Heap) (v:AV) (l:List α):Prop:=bP f sz H v l/\(l=[]->v=.pure .nils)
theorem aC.nil:aC f sz H (.pure .nils) ([]:List α):=⟨bP.nil,fun _=>rfl⟩
theorem aC.cast {m:List α} (h:aC f sz H v l) (e:l=m):aC f sz H v m:=e ▸ h
theorem aC.alloc (h:aC f sz H v l) (o:aP):aC f sz (H.alloc o) v l:=⟨h.1.alloc o,h.2⟩
theorem aC.set {id:Nat} (h:aC f sz H v l) (hn:¬ Names v id) (o:aP):aC f sz (H.set id o) v l:=by
 refine ⟨h.1.keep fun i ⟨n,hi⟩=>?_,h.2⟩
 exact zg fun e=>hn ⟨sz,0,n,by rw [hi,e]⟩
theorem bP.row (h:bP f sz H v l) (hl:l≠[]):∃ id,v=.row id sz 0 l.length/\H.get id=.cells true (zq f l):=by
 rcases h with ⟨h,_⟩|h
 .exact absurd h hl
 .exact h
theorem zfS (hf:∀ a,(f a).length=sz) {i:Nat} (hi:i < l.length):∃ p q,zq f l=p++(f l[i]).map .pure++q/\p.length=i*sz:=by
 refine ⟨zq f (l.take i),zq f (l.drop (i+1)),?_,?_⟩
 .rw [<- UZ,<- G9,<- G9]
  congr 1
  rw [List.append_assoc,List.singleton_append,<- List.drop_eq_getElem_cons hi,List.take_append_drop]
 .rw [DX hf,List.length_take,Nat.min_eq_left (by omega)]
theorem zff {own:Bool} (hf:∀ a,(f a).length=sz) {i:Nat} (hi:i < l.length) {off size:Nat} (ho:off+size<=sz):Fh (.cells own (zq f l)) size (i*sz+off)=some ((((f l[i]).drop off).take size).map .pure):=by
 obtain ⟨p,q,h1,h2⟩:=zfS hf hi;simp only [Fh];rw [h1,List.append_assoc];have h3:(List.map AV.pure (f l[i])).length=sz:=by rw [List.length_map,hf]
 rw [if_pos (by rw [List.length_append,List.length_append,h2,h3];omega)];rw [<- h2,List.drop_append,List.drop_of_length_le (by omega)];have:p.length+off - p.length=off:=by omega
 rw [this,List.nil_append,List.drop_append_of_le_length (by omega),List.take_append_of_le_length (by rw [List.length_drop];omega),List.map_take,List.map_drop]
@[simp] theorem zn0 {own:Bool} {i size:Nat} (hf:∀ a,(f a).length=sz) (hi:i < l.length) (ho:size<=sz):Fh (.cells own (zq f l)) size (i*sz)=some (((f l[i]).take size).map .pure):=by
 have:=zff (own:=own) hf hi (off:=0) (size:=size) (by omega)
 simpa using this
@[simp] theorem zC {own:Bool} {i size off:Nat} (hf:∀ a,(f a).length=sz) (hi:i < l.length) (ho:off+size<=sz):Fh (.cells own (zq f l)) size (i*sz+off)=some ((((f l[i]).drop off).take size).map .pure):=zff hf hi ho
@[simp] theorem Lx {own:Bool} {i:Nat} (hf:∀ a,(f a).length=1) (hi:i < l.length):Fh (.cells own (zq f l)) 1 i=some ((f l[i]).map .pure):=by
 have:=zff (own:=own) hf hi (off:=0) (size:=1) (by omega);rw [Nat.mul_one,Nat.add_zero,List.drop_zero,List.take_of_length_le (by rw [hf];exact Nat.le_refl 1)] at this;exact this
theorem zkb (hf:∀ a,(f a).length=sz) {i:Nat} (hi:i < l.length) (a:α):(zq f l).take (i*sz)++(f a).map .pure++(zq f l).drop (i*sz+sz)=zq f (l.set i a):=by
 obtain ⟨p,q,h1,h2⟩:=zfS hf hi;have h3:(List.map AV.pure (f l[i])).length=sz:=by rw [List.length_map,hf]
 have h4:zq f (l.take i)=p:=by
  have e1:zq f (l.take i)++((f l[i]).map .pure++zq f (l.drop (i+1)))=p++((f l[i]).map .pure++q):=by
   rw [<- List.append_assoc,<- List.append_assoc,<- h1,<- UZ,<- G9,<- G9]
   congr 1
   rw [List.append_assoc,List.singleton_append,<- List.drop_eq_getElem_cons hi,List.take_append_drop]
  have e2:(zq f (l.take i)).length=p.length:=by rw [DX hf,h2,List.length_take,Nat.min_eq_left (by omega)]
  exact (List.append_inj e1 e2).1
 have h5:zq f (l.drop (i+1))=q:=by
  have e1:zq f (l.take i)++((f l[i]).map .pure++zq f (l.drop (i+1)))=p++((f l[i]).map .pure++q):=by
   rw [<- List.append_assoc,<- List.append_assoc,<- h1,<- UZ,<- G9,<- G9]
   congr 1
   rw [List.append_assoc,List.singleton_append,<- List.drop_eq_getElem_cons hi,List.take_append_drop]
  rw [h4] at e1;exact List.append_cancel_left (List.append_cancel_left e1)
 rw [h1,List.append_assoc p,List.take_left' h2,<- h2,List.drop_append,List.drop_of_length_le (by omega),List.nil_append];have h6:p.length+sz - p.length=sz:=by omega
 rw [h6,List.drop_left' h3,<- h4,<- h5,List.set_eq_take_append_cons_drop,if_pos hi,G9,List.append_assoc]
 congr 1
theorem Fj {a:α} (hf:∀ a,(f a).length=sz) (bn:∀ a,(f a).all PV.one=true) (h0:0 < sz) {i:Nat} (h:i < l.length):vK (.cells true (zq f l)) sz (i*sz) ((f a).map .pure)=some (.cells true (zq f (l.set i a))):=by
 simp only [vK];have hle:i*sz+sz<=(zq f l).length:=by
  rw [DX hf,<- Nat.succ_mul];exact Nat.mul_le_mul_right sz h
 rw [if_pos ⟨by rw [List.length_map,hf],by omega,U0 _ (bn a),hle⟩,zkb hf h]
theorem aC.mi (h:aC f sz H v l) (o o':aP):aC f sz ((H.alloc o).set H.nx o') v l:=(h.alloc o).set (h.1.fresh _ (Nat.le_refl _)) o'
theorem aC.frz {k:Bool} {n:Nat} (h:aC f sz H v l) (hf:∀ a,(f a).length=sz):FrzK H k (n+2) v ((match l with|[]=>Sl.nil|_=>.mk k l).pv f sz):=by
 rcases h.1.frz (k:=k) (n:=n) hf with h1|⟨rfl,h1⟩
 .exact h1
 .rw [h.2 rfl];exact .pure _
theorem aC.res {n:Nat} (h:aC f sz H v l) (hf:∀ a,(f a).length=sz):FrzK H false (n+2) v ((Sl.of l).pv f sz):=by
 have:=h.frz (k:=false) (n:=n) hf
 cases l<;>exact this
def PT {α:Type} (f:α->List PV) (cs:List AV) (P:α->Prop) (_:Tag P):Prop:=∃ a,cs=(f a).map .pure/\P a
def appG {α:Type} (f:α->List PV) (r:Option (List AV×Nat)) (P:α->Prop) (_:Tag P):Prop:=∃ a,r=some ((f a).map .pure,1)/\P a
@[simp] theorem zu9 (f:α->List PV) (cs:List AV) (P:α->Prop) {u}:appG f (some (cs,1)) P u↔PT f cs P .mk:=by
 simp [appG,PT]
@[simp] theorem zwx (x:Int) (P:Int->Prop) {u}:PT aF [.pure (.int .i64 x)] P u↔P x:=by
 simp [PT,aF]
structure After (v:AV) (H:Heap) (v':AV) (H':Heap):Prop where
 nx:H.nx<=H'.nx
 get:∀ id,id < H.nx->¬ Names v id->H'.get id=H.get id
 new:∀ id,Names v' id->H.nx<=id
theorem After.grow {v':AV} {H':Heap} {β:Type} {g:β->List PV} {sz':Nat} {w:AV} {m:List β} (ha:After v H v' H') (h:aC g sz' H w m) (hd:∀ id,Names w id->¬ Names v id):aC g sz' H' w m/\∀ id,Names w id->¬ Names v' id:=by
 refine ⟨⟨h.1.keep fun i ⟨n,hi⟩=>?_,h.2⟩,fun id hw hv=>?_⟩
 .exact ha.get i (h.1.names_lt ⟨_,_,_,hi⟩) (hd i ⟨_,_,_,hi⟩)
 .have:=ha.new id hv;have:=h.1.names_lt hw;omega
theorem bP.one (h:bP f sz H v l):AV.one v=true/\AV.cells v=[v]:=by
 rcases h with ⟨_,rfl⟩|⟨id,rfl,_⟩<;>exact ⟨rfl,rfl⟩
theorem ze {P:AV->Heap->Prop} (h:∀ v' H',aC f sz H' v' l->H.nx<=H'.nx->(∀ id,id < H.nx->¬ Names v id->H'.get id=H.get id)->(∀ id,Names v' id->H.nx<=id)->AV.one v'=true->AV.cells v'=[v']->P v' H'):∀ v' H',aC f sz H' v' l->After v H v' H'->P v' H' :=
 fun v' H' h1 h2=>h v' H' h1 h2.nx h2.get h2.new h1.1.one.1 h1.1.one.2
theorem Fp {bytes:Nat} {b:AV} {k:AV->Heap->Prop} {u} (hv:aC f sz H v l) (hf:∀ a,(f a).length=sz) (h0:0 < sz) (bn:∀ a,(f a).all PV.one=true)
  (hm:(l.length+1)*sz<=zu/\(l.length+1)*bytes<=zu)
  (hk:appG f (zM H sz b) (fun a=>∀ v' H',aC f sz H' v' (l++[a])->After v H v' H'->k v' H') .mk):wpE 0 (zh H sz bytes v b) H k u:=by
 obtain ⟨a,hb,hk⟩:=hk;have ho:=U0 _ (bn a);rcases hv.1 with ⟨rfl,rfl⟩|⟨i,rfl,hg⟩
 .have h5:zh H sz bytes (.pure .nils) b=some (.new (.cells true ((f a).map .pure)) fun id=>.row id sz 0 1):=by
   simp only [zh,hb,ho];have h1:1*sz<=zu/\1*bytes<=zu:=by simpa using hm
   simp only [Bool.not_true,Bool.false_eq_true,if_false];rw [if_neg (by simp),if_pos h1]
  rw [h5,UT]
  refine hk _ _ ⟨.inr ⟨H.nx,rfl,?_⟩,fun h=>by simp at h⟩ ⟨Nat.le_succ _,fun id hl _=>zi hl,fun id ⟨_,_,_,h⟩=>?_⟩
  .rw [F7];simp [zq]
  .simp at h;omega
 .have hlen:=DX hf l;have vH:¬ (0*sz+(l.length+1)*sz<=(zq f l).length):=by rw [hlen,Nat.add_mul];omega
  have h5:zh H sz bytes (.row i sz 0 l.length) b=some (.upd (.row H.nx sz 0 (l.length+1)) ((H.set i .dead).alloc (.cells true (zq f l++(f a).map .pure)))):=by
   simp only [zh,hb,ho,hg];simp only [Bool.not_true,Bool.false_eq_true,if_false,if_true];rw [if_neg vH];simp only [true_and];rw [if_pos ⟨hlen.symm,hm⟩]
  rw [h5,Lp]
  refine hk _ _ ⟨.inr ⟨H.nx,by simp,?_⟩,fun h=>by simp at h⟩ ⟨Nat.le_succ _,fun id hl hn=>?_,fun id ⟨_,_,_,h⟩=>?_⟩
  .have:(H.set i .dead).nx=H.nx:=rfl;rw [<- this,F7,G9,UZ]
  .rw [zi (by exact hl),zg];intro e;subst e;exact hn ⟨_,_,_,rfl⟩
  .simp at h;omega
theorem zm {bytes:Nat} {b:AV} {k:AV->Heap->Prop} {u}
  (hk:appG f (zM H sz b) (fun a=>∀ v' H',aC f sz H' v' (l++[a])->After v H v' H'->k v' H') .mk)
  (hv:aC f sz H v l:=by (first|assumption|(repeat' first|assumption|with_reducible apply aC.mi|with_reducible apply aC.alloc|with_reducible apply aC.set|(with_reducible show ¬ Names _ _;simp [*];done)))) (hf:∀ a,(f a).length=sz:=by exact fun _=>rfl) (h0:0 < sz:=by decide) (bn:∀ a,(f a).all PV.one=true:=by (intro a;first|rfl|simp))
  (hm:(l.length+1)*sz<=zu/\(l.length+1)*bytes<=zu:=by (simp [zu]<;>omega)):wpE 0 (zh H sz bytes v b) H k u :=
 Fp hv hf h0 bn hm hk
end
end Go.Proofs.YtmmhnfghklppiaaGreat.Vm
