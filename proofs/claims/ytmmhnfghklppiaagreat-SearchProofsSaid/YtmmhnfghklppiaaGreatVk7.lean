/- Each operation of the machine does what the model's operation does: maps with keys that are numbers or texts. Data taken out of one's own memory; calls; every operation in one theorem. Every operation in one theorem. An operation looks at its operands alone, and goes on to do so when more memory is there. A region of operations, in the order of its text, or in whatever order it may be drawn. A region whose order is drawn. The operations of a region in another order of text. A region whose order is drawn, cut into parts. The machine's code stands for the model's code. Calls: the machine's call stands for the model's. Reasoning about runs of the machine of values: what must hold ahead of a piece of code. What single operations of the machine of values come to, as rules for simp. Slices of one's own that grow by append. More for walks: slices as data with their things, loops that keep what they do not write, appends and calls with one's own slices. -/
import Derived.Test.YtmmhnfghklppiaaGreatVk6
import Derived.MapKept
namespace Go.Proofs.YtmmhnfghklppiaaGreat.Vm
open Go Go.RowKit
set_option linter.unusedVariables false
set_option linter.unusedSimpArgs false
section
variable {C:iT} {P:Program} {S:Bool->Nat->Prop} {base:Nat} {φ:iX} {H:Heap} {w:World} {env:Env} {a:Act} {e:Eff} {o:Oper} {I:Bool->Nat->Prop}
theorem zqJ {t:TypeId} {z:PV} (h:Tv P t=some z):∃ v,(zeroValue t).run P w=.ok v w/\bA I w z v:=by
 unfold Tv at h
 split at h
 .rename_i i hi
  split at h
  .rename_i v hv;exact ⟨v,by simp [zeroValue,NI hi,hv],zh3 h⟩
  .simp at h
 .simp at h
theorem V7 {t:TypeId} {s:Bool} (h:Es P t=some s):(s=false/\∃ k,P.underlying t=some (.int k))\/(s=true/\P.underlying t=some .string):=by
 unfold Es at h
 split at h
 .rename_i k hk;simp at h;exact .inl ⟨h,k,hk⟩
 .rename_i hk;simp at h;exact .inr ⟨h,hk⟩
 .simp at h
theorem zg6 {t:TypeId} {s:Bool} (h:NB P t=some s):∃ k e,P.underlying t=some (.map k e)/\Es P k=some s:=by
 unfold NB at h
 split at h
 .exact ⟨_,_,by assumption,h⟩
 .simp at h
theorem TP {t:TypeId} {s b:Bool} {n:Nat} {v:Value} (h:Es P t=some s):(Instr.checkKey b (n+1) t v).run P w=.ok () w:=by
 rcases V7 h with ⟨_,k,hk⟩|⟨_,hk⟩
 .simp only [Instr.checkKey,Sem.run_bind,zf hk,Result.andThen_ok];rfl
 .simp only [Instr.checkKey,Sem.run_bind,zf hk,Result.andThen_ok];rfl
theorem PO {d:TypeDesc} {s b:Bool} {p q:PV} {u v:Value} (hd:(s=false/\∃ k,d=.int k)\/(s=true/\d=.string)) (h:Tm s p q=some b) (hu:bA I w p u) (hv:bA I w q v) :
  Instr.sameNow d u v=some b/\(b=true->u=v/\Instr.sameBits 10000 u v=true):=by
 unfold Tm at h
 split at h
 .rename_i k x k' y;have e1:=hu.bf;have e2:=hv.bf;subst e1;subst e2
  split at h
  .rename_i hc;obtain ⟨hs,rfl⟩:=hc;rcases hd with ⟨_,j,rfl⟩|⟨h1,_⟩
   .simp at h;subst h
    refine ⟨by simp [Instr.sameNow],fun he=>?_⟩
    have:x=y:=by simpa using he
    subst this;exact ⟨rfl,by simp [Instr.sameBits]⟩
   .rw [hs] at h1;cases h1
  .simp at h
 .rename_i x y;have e1:=hu.iF;have e2:=hv.iF;subst e1;subst e2
  split at h
  .rename_i hs;rcases hd with ⟨h1,_⟩|⟨_,rfl⟩
   .rw [hs] at h1;cases h1
   .simp only [Option.some.injEq] at h;have K9:(x == y)=b:=by
     rw [<- h];rw [Bool.eq_iff_iff,MapKept.bytes_beq];simp only [beq_iff_eq]
     constructor
     .rintro rfl;rfl
     .intro h
      cases x;cases y
      simp at h;rw [h]
    refine ⟨by simp [Instr.sameNow,K9],fun he=>?_⟩
    rw [he] at K9;have:x=y:=(MapKept.bytes_beq x y).1 K9;subst this;exact ⟨rfl,by simp [Instr.sameBits,(MapKept.bytes_beq x x).2 rfl]⟩
  .simp at h
 .simp at h
def oH (I:Bool->Nat->Prop) (w:World) (es:List (PV×PV)) (ms:List MapEntry):Prop :=
 ms.length=es.length/\∀ (j:Nat) k v m,es[j]?=some (k,v)->ms[j]?=some m->bA I w k m.key/\bA I w v m.val
theorem oH.tail {p:PV×PV} {es:List (PV×PV)} {m:MapEntry} {ms:List MapEntry} (h:oH I w (p::es) (m::ms)):oH I w es ms :=
 ⟨by have:=h.1;simpa using this,fun j k v m' hk hm=>h.2 (j+1) k v m' (by simpa using hk) (by simpa using hm)⟩
theorem oH.head {p:PV×PV} {es:List (PV×PV)} {m:MapEntry} {ms:List MapEntry} (h:oH I w (p::es) (m::ms)):bA I w p.1 m.key/\bA I w p.2 m.val :=
 h.2 0 p.1 p.2 m rfl rfl
theorem oH.cons {k v:PV} {es:List (PV×PV)} {m:MapEntry} {ms:List MapEntry} (h1:bA I w k m.key) (h2:bA I w v m.val) (h:oH I w es ms):oH I w ((k,v)::es) (m::ms) :=
 ⟨by simp [h.1],fun j k' v' m' hk hm=>by
  cases j with
  | zero=>simp at hk hm;obtain ⟨rfl,rfl⟩:=hk;subst hm;exact ⟨h1,h2⟩
  | succ j=>exact h.2 j k' v' m' (by simpa using hk) (by simpa using hm)⟩
theorem ziw {d:TypeDesc} {s:Bool} {key:PV} {u:Value} (hd:(s=false/\∃ k,d=.int k)\/(s=true/\d=.string)) (hu:bA I w key u) :
  ∀ (es:List (PV×PV)) (ms:List MapEntry) (i:Nat) (r:Option PV),oH I w es ms->Nu s key es=some r ->
   (r=none/\Instr.findNow d u ms i=some none)\/∃ v j val,r=some v/\Instr.findNow d u ms i=some (some (i+j,val))/\bA I w v val
 | [],[],i,r,_,h=>by simp [Nu] at h;subst h;exact .inl ⟨rfl,rfl⟩
 | [],_::_,_,_,hm,_=>by have:=hm.1;simp at this
 | _::_,[],_,_,hm,_=>by have:=hm.1;simp at this
 | (k,v)::es,m::ms,i,r,hm,h=>by
  unfold Nu at h;have hh:=hm.head
  split at h
  .rename_i hk;simp at h;subst h
   refine .inr ⟨v,0,m.val,rfl,?_,hh.2⟩
   simp only [Instr.findNow,(PO hd hk hu hh.1).1,Nat.add_zero]
  .rename_i hk;rcases ziw hd hu es ms (i+1) r hm.tail h with ⟨h1,h2⟩|⟨v',j,val,h1,h2,h3⟩
   .refine .inl ⟨h1,?_⟩
    simp only [Instr.findNow,(PO hd hk hu hh.1).1,h2]
   .refine .inr ⟨v',j+1,val,h1,?_,h3⟩
    simp only [Instr.findNow,(PO hd hk hu hh.1).1,h2]
    congr 3
    omega
  .simp at h
theorem V8 {es:List (PV×PV)} {b n:Nat} (h:sQ C I φ w (.iC es) b n):∃ (ms:Array MapEntry) (clock:Nat),w.heap[b]?=some (.map ms clock)/\oH I w es ms.toList:=by
 obtain ⟨ms,ck,h1,h2,h3⟩:=h;exact ⟨ms,ck,h1,by simpa using h2,fun j k v m hk hm=>h3 j k v m hk (by simpa using hm)⟩
theorem zlo {es:List (PV×PV)} {b n clock:Nat} {ms:Array MapEntry} (h1:w.heap[b]?=some (.map ms clock)) (h:oH I w es ms.toList):sQ C I φ w (.iC es) b n :=
 ⟨ms,clock,h1,by simpa using h.1,fun j k v m hk hm=>h.2 j k v m hk (by simpa using hm)⟩
theorem zlx {t:TypeId} (ah:o.op=.makeMap t none):iJ C S base φ H w (.new (.iC []) fun id=>.jr id) ((execOp a.eval o).run P w):=by
 refine .inl ⟨.map (some w.heap.size),w.alloc (.map #[] 0),?_,w.heap.size,0,(Below.refl _ w).alloc (Nat.le_refl _) _,Nat.le_refl _,by simp,?_,fun I' φ' id aj=>.jr id _ _ aj⟩
 .simp [execOp,ah,Instr.makeMap,newObj];rfl
 .exact zlo (heap_alloc_new w _) ⟨rfl,fun j k v m hk hm=>by simp at hk⟩
theorem zhI (hH:aN C S base φ H w) (hE:aV (aQ S base φ H w) φ w env a) {M K:Operand} {m k:aa} {t:TypeId} {s ok:Bool} {z:PV} (hs:NB P t=some s) (hz:Vv P t=some z) (hm:zB M=some m) (hk:zB K=some k)
  (ah:o.op=.lookup t M K ok) {id:Nat} {key:PV} {es:List (PV×PV)} {r:Option PV} (e1:m.eval env=.jr id) (e2:k.eval env=.pure key) (hg:H.get id=.iC es) (hf:Nu s key es=some r) :
  iJ C S base φ H w (.val (.pure (if ok then .aM [r.getD z,.bool r.isSome] else r.getD z))) ((execOp a.eval o).run P w):=by
 obtain ⟨kt,et,ht,G9⟩:=zg6 hs;have hze:Tv P et=some z:=by simpa [Vv,ht] using hz
 have hM:=zC hE hm;have hK:=zC hE hk;rw [e1] at hM;rw [e2] at hK;obtain ⟨b,n,aj,PQ⟩:=hM.rE;have ho:=hH.obj _ _ _ aj;rw [hg] at ho;obtain ⟨ms,ck,hb,rF⟩:=V8 ho;have hd:∃ d,P.underlying kt=some d/\((s=false/\∃ k,d=.int k)\/(s=true/\d=.string)):=by
  rcases V7 G9 with ⟨h1,k,h2⟩|⟨h1,h2⟩
  .exact ⟨_,h2,.inl ⟨h1,k,rfl⟩⟩
  .exact ⟨_,h2,.inr ⟨h1,rfl⟩⟩
 obtain ⟨d,F8,Ha⟩:=hd;obtain ⟨zv,TM,hzr⟩:=zqJ (I:=aQ S base φ H w) (w:=w) hze;have lT:∃ v,(Instr.lookup t (a.eval M) (a.eval K) ok).run P w=.ok v w/\bA (aQ S base φ H w) w (if ok then .aM [r.getD z,.bool r.isSome] else r.getD z) v:=by
  have PR:∀ (v:Value) (x:Bool),bA (aQ S base φ H w) w (r.getD z) v->r.isSome=x->bA (aQ S base φ H w) w (if ok then .aM [r.getD z,.bool r.isSome] else r.getD z) (if ok then .tuple #[v,.bool x] else v):=fun v x h1 h2=>by
   cases ok
   .exact h1
   .refine .aM _ _ rfl fun i p u hp hu=>?_
    cases i with
    | zero=>simp at hp hu;subst hp;subst hu;exact h1
    | succ i =>
     cases i with
     | zero=>simp at hp hu;subst hp;subst hu;rw [h2];exact .bool x
     | succ i=>simp at hp
  rcases ziw Ha hK.au es ms.toList 0 r rF hf with ⟨h1,h2⟩|⟨v,j,val,h1,h2,h3⟩
  .refine ⟨if ok then .tuple #[zv,.bool false] else zv,?_,PR zv false (by rw [h1];exact hzr) (by rw [h1];rfl)⟩
   simp only [Instr.lookup,Instr.findKey,Sem.run_bind,zf ht,Result.andThen_ok,PQ,MapKept.run_getObj_map hb,TP G9,zf F8,h2,Sem.run_pure,TM]
  .refine ⟨if ok then .tuple #[val,.bool true] else val,?_,PR val true (by rw [h1];exact h3) (by rw [h1];rfl)⟩
   simp only [Instr.lookup,Instr.findKey,Sem.run_bind,zf ht,Result.andThen_ok,PQ,MapKept.run_getObj_map hb,TP G9,zf F8,h2,Sem.run_pure,TM]
 obtain ⟨v,NP,fQ⟩:=lT
 refine zQ (v:=v) ?_ (.pure _ _ fQ)
 simp [execOp,ah,NP]
theorem zi1 {d:TypeDesc} {s:Bool} {key x:PV} {u xv:Value} (hd:(s=false/\∃ k,d=.int k)\/(s=true/\d=.string)) (hu:bA I w key u) (hx:bA I w x xv) :
  ∀ (es es':List (PV×PV)) (ms:List MapEntry) (i:Nat),oH I w es ms->Nv s key x es=some es' ->
   (Instr.findNow d u ms i=some none/\es'=es++[(key,x)]) \/
   ∃ j v m,Instr.findNow d u ms i=some (some (i+j,v))/\ms[j]?=some m/\m.key=u/\Instr.sameBits 10000 m.key u=true/\oH I w es' (ms.modify j fun e=>{ e with key:=u,val:=xv })
 | [],es',[],i,_,h=>by simp [Nv] at h;exact .inl ⟨rfl,h.symm⟩
 | [],_,_::_,_,hm,_=>by have:=hm.1;simp at this
 | _::_,_,[],_,hm,_=>by have:=hm.1;simp at this
 | (k,v)::es,es',m::ms,i,hm,h=>by
  unfold Nv at h;have hh:=hm.head
  split at h
  .rename_i hk;simp at h;subst h;obtain ⟨h1,h2⟩:=PO hd hk hu hh.1;obtain ⟨h3,h4⟩:=h2 rfl
   refine .inr ⟨0,m.val,m,by simp only [Instr.findNow,h1,Nat.add_zero],rfl,h3.symm,by rw [<- h3] at h4 ⊢;exact h4,?_⟩
   exact .cons hu hx hm.tail
  .rename_i hk;have h1:=(PO hd hk hu hh.1).1
   split at h
   .rename_i es2 he;simp at h;subst h;rcases zi1 hd hu hx es es2 ms (i+1) hm.tail he with ⟨h2,h3⟩|⟨j,v',m',h2,h3,h4,h5,h6⟩
    .refine .inl ⟨by simp only [Instr.findNow,h1,h2],by rw [h3];rfl⟩
    .refine .inr ⟨j+1,v',m',?_,by simpa using h3,h4,h5,?_⟩
     .simp only [Instr.findNow,h1,h2]
      congr 3
      omega
     .exact .cons hh.1 hh.2 h6
   .simp at h
  .simp at h
theorem zi8 (hH:aN C S base φ H w) {id b n clock:Nat} {es es':List (PV×PV)} {ms ms':Array MapEntry} {clock':Nat} (aj:φ id=some (b,n)) (hg:H.get id=.iC es) (hb:w.heap[b]?=some (.map ms clock))
  (h:oH (aQ S base φ H w) w es' ms'.toList) :
  ∃ w',(setObj b (.map ms' clock')).run P w=.ok () w'/\bY φ H w φ (H.set id (.iC es')) w'/\aN C S base φ (H.set id (.iC es')) w':=by
 refine ⟨_,MapKept.run_setObj_map _ hb,?_⟩
 obtain ⟨h1,h2⟩:=MapKept.heap_set (w:=w) (o':=.map ms' clock') hb
 refine hH.write aj (by rw [hg];rfl) rfl rfl rfl (by simp) h2 (zlo h1 ?_)
 have CK:∀ k c,aQ S base φ H w k c->c≠b:=fun k c hc e=>hc.2.2 ⟨id,n,e ▸ aj,by rw [hg];rfl⟩;exact ⟨h.1,fun j k v m hk hm=>⟨(h.2 j k v m hk hm).1.mono fun k c hc=>⟨hc,h2 c (CK k c hc)⟩,(h.2 j k v m hk hm).2.mono fun k c hc=>⟨hc,h2 c (CK k c hc)⟩⟩⟩
theorem zia (hH:aN C S base φ H w) (hE:aV (aQ S base φ H w) φ w env a) {M K X:Operand} {m k x:aa} {t:TypeId} {s:Bool} (hs:NB P t=some s) (hm:zB M=some m) (hk:zB K=some k) (hx:zB X=some x)
  (ah:o.op=.mapUpdate t M K X\/o.op=.insert t M K X) {id:Nat} {key v:PV} {es es':List (PV×PV)} (e1:m.eval env=.jr id) (e2:k.eval env=.pure key) (e3:x.eval env=.pure v) (hg:H.get id=.iC es) (hf:Nv s key v es=some es') :
  iJ C S base φ H w (.upd (.aM []) (H.set id (.iC es'))) ((execOp a.eval o).run P w):=by
 obtain ⟨kt,et,ht,G9⟩:=zg6 hs;have hM:=zC hE hm;have hK:=zC hE hk;have hX:=zC hE hx;rw [e1] at hM;rw [e2] at hK;rw [e3] at hX;obtain ⟨b,n,aj,PQ⟩:=hM.rE;have ho:=hH.obj _ _ _ aj;rw [hg] at ho;obtain ⟨ms,ck,hb,rF⟩:=V8 ho;have hd:∃ d,P.underlying kt=some d/\((s=false/\∃ k,d=.int k)\/(s=true/\d=.string)):=by
  rcases V7 G9 with ⟨h1,k,h2⟩|⟨h1,h2⟩
  .exact ⟨_,h2,.inl ⟨h1,k,rfl⟩⟩
  .exact ⟨_,h2,.inr ⟨h1,rfl⟩⟩
 obtain ⟨d,F8,Ha⟩:=hd;have lT:∃ w',(Instr.mapUpdate t (a.eval M) (a.eval K) (a.eval X)).run P w=.ok () w'/\bY φ H w φ (H.set id (.iC es')) w'/\aN C S base φ (H.set id (.iC es')) w':=by
  rcases zi1 Ha hK.au hX.au es es' ms.toList 0 rF hf with ⟨h1,h2⟩|⟨j,v',m',h1,h2,h3,h4,h5⟩
  .subst h2;obtain ⟨w',g1,g2⟩:=zi8 (C:=C) (P:=P) (es':=es++[(key,v)]) (ms':=ms.push { key:=a.eval K,val:=a.eval X,born:=ck }) (clock':=ck+1) hH aj hg hb
    ⟨by have:=rF.1;simp at this ⊢;exact this,fun j k' v' m hk hm=>by
     have hl:=rF.1
     by_cases hj:j < es.length
     .rw [List.getElem?_append_left hj] at hk;rw [Array.toList_push,List.getElem?_append_left (by omega)] at hm;exact rF.2 j k' v' m hk hm
     .rw [List.getElem?_append_right (by omega)] at hk;rw [Array.toList_push,List.getElem?_append_right (by omega),hl] at hm
      cases DF:j - es.length with
      | zero=>rw [DF] at hk hm;simp at hk hm;obtain ⟨rfl,rfl⟩:=hk;subst hm;exact ⟨hK.au,hX.au⟩
      | succ i=>rw [DF] at hk;simp at hk⟩
   refine ⟨w',?_,g2⟩
   simp only [Instr.mapUpdate,Instr.findKey,Sem.run_bind,zf ht,Result.andThen_ok,PQ,MapKept.run_getObj_map hb,TP G9,zf F8,h1,Sem.run_pure,g1]
  .obtain ⟨w',g1,g2⟩:=zi8 (C:=C) (P:=P) (es':=es') (ms':=ms.modify j fun e=>{ e with key:=a.eval K,val:=a.eval X }) (clock':=ck) hH aj hg hb (by rw [Array.toList_modify];exact h5)
   refine ⟨w',?_,g2⟩
   have hmj:ms[j]?=some m':=by simpa using h2
   simp only [Instr.mapUpdate,Instr.findKey,Sem.run_bind,zf ht,Result.andThen_ok,PQ,MapKept.run_getObj_map hb,TP G9,zf F8,h1,Sem.run_pure,Nat.zero_add,hmj,Option.map_some,Option.getD_some,Instr.keyThatStays,h4,if_true,g1]
 obtain ⟨w',g1,g2,g3⟩:=lT
 refine .inr ⟨w',?_,φ,g2,g3,.aM [] #[] rfl fun i p v h=>by simp at h⟩
 rcases ah with ah|ah<;>simp [execOp,ah,g1]
theorem zmt (hH:aN C S base φ H w) (hE:aV (aQ S base φ H w) φ w env a) {X:Operand} {x:aa} {t kt et:TypeId} {c:Call} (hx:zB X=some x) (ht:P.underlying t=some (.map kt et))
  (ah:o.op=.call c) (hc:c.callee=.builtin .len) (h1:c.args.toList=[X]) (h2:c.argTypes.toList=[t]) {id:Nat} {es:List (PV×PV)} (e1:x.eval env=.jr id) (hg:H.get id=.iC es) :
  iJ C S base φ H w (.val (.pure (.int .i64 es.length))) ((execOp a.eval o).run P w):=by
 have hX:=zC hE hx;rw [e1] at hX;obtain ⟨b,n,aj,hXv⟩:=hX.rE;have ho:=hH.obj _ _ _ aj;rw [hg] at ho;obtain ⟨ms,ck,hb,rF⟩:=V8 ho;have ha:c.args=#[X]:=by rw [<- h1]
 have jf:c.argTypes=#[t]:=by rw [<- h2]
 have fE:ms.size=es.length:=by have:=rF.1;simpa using this
 refine zQ (v:=goInt es.length) ?_ (.pure _ _ (.int ..))
 simp only [execOp,ah,resolve,hc,invoke,builtin,ha,jf,Sem.run_bind,Sem.run_pure,Result.andThen_ok,List.map_toArray,List.map_cons,List.map_nil,Builtin.len_,List.getElem?_toArray,List.getElem?_cons_zero,zf ht,hXv,MapKept.run_getObj_map hb,fE]
end
theorem La {α:Type} (sz:Nat):∀ (n:Nat) (l:List α) (i:Nat) (e:List α),(chunks sz n l)[i]?=some e->i < n/\e=(l.drop (i*sz)).take sz
 | 0,l,i,e,h=>by simp [chunks] at h
 | n+1,l,i,e,h=>by
  cases i with
  | zero=>simp [chunks] at h;exact ⟨by omega,by simp [h]⟩
  | succ i =>
   simp [chunks] at h;obtain ⟨h1,h2⟩:=La sz n _ i e h
   refine ⟨by omega,?_⟩
   rw [h2,List.drop_drop]
   congr 2
   rw [Nat.add_mul];omega
theorem TQ {α:Type} (sz:Nat):∀ (n:Nat) (l:List α),(chunks sz n l).length=n
 | 0,l=>rfl
 | n+1,l=>by simp [chunks,TQ sz n]
section
variable {C:iT} {P:Program} {S:Bool->Nat->Prop} {base:Nat} {φ:iX} {H:Heap} {w:World} {env:Env} {a:Act} {e:Eff} {o:Oper} {I:Bool->Nat->Prop}
theorem JC {J:Bool->Nat->Prop} {k:Bool} {fr:AV->Option (PV×List Nat)} (oz:∀ av p ids v,fr av=some (p,ids)->aA I φ w av v->(∀ id∈ids,∀ b n,φ id=some (b,n)->J k b)->bA J w p v) :
  ∀ {cs:List AV} {ps:List PV} {ids:List Nat} {vs:List Value},zO fr cs=some (ps,ids)->az I φ w cs vs->(∀ id∈ids,∀ b n,φ id=some (b,n)->J k b) ->
   ps.length=vs.length/\∀ (i:Nat) p v,ps[i]?=some p->vs[i]?=some v->bA J w p v
 | [],ps,ids,vs,h,hr,hJ=>by
  simp [zO] at h;obtain ⟨rfl,rfl⟩:=h;rw [hr.lQ];exact ⟨rfl,fun i p v h=>by simp at h⟩
 | c::cs,ps,ids,vs,h,hr,hJ=>by
  obtain ⟨v,vs',rfl,h1,h2⟩:=hr.cons_inv;unfold zO at h
  split at h
  .simp at h
  .rename_i p is hp
   split at h
   .simp at h
   .rename_i qs js hq;simp at h;obtain ⟨rfl,rfl⟩:=h;have ih:=JC oz hq h2 fun id aj=>hJ id (List.mem_append_right _ aj)
    refine ⟨by simp [ih.1],fun i q u NQ hu=>?_⟩
    cases i with
    | zero =>
     simp at NQ hu;subst NQ;subst hu;exact oz c _ is _ hp h1 fun id aj=>hJ id (List.mem_append_left _ aj)
    | succ i=>simp at NQ hu;exact ih.2 i q u NQ hu
theorem zhT (hH:aN C S base φ H w) {k:Bool} {J:Bool->Nat->Prop} (JD:∀ k b,aQ S base φ H w k b->J k b):∀ (n:Nat) (av:AV) (p:PV) (ids:List Nat) (v:Value),freeze H k n av=some (p,ids)->aA (aQ S base φ H w) φ w av v ->
  (∀ id∈ids,∀ b n,φ id=some (b,n)->J k b)->bA J w p v:=by
 intro n
 induction n with
 | zero=>intro av p ids v h;simp [freeze] at h
 | succ n ih =>
  intro av p ids v h hv hJ;unfold freeze at h
  split at h
  .simp at h;obtain ⟨rfl,rfl⟩:=h;exact hv.au.mono fun k b hb=>⟨JD k b hb,rfl⟩
  .split at h
   .rename_i cs ps is hf;simp at h;obtain ⟨rfl,rfl⟩:=h
    cases hv with
    | agg _ vs hl hr =>
     have:=JC ih hf (az.pG hl hr) hJ;exact .agg _ vs (by simpa using this.1) fun i p v hp hv=>this.2 i p v hp (by simpa using hv)
   .simp at h
  .split at h
   .rename_i cs ps is hf;simp at h;obtain ⟨rfl,rfl⟩:=h
    cases hv with
    | aM _ vs hl hr =>
     have:=JC ih hf (az.pG hl hr) hJ;exact .aM _ vs (by simpa using this.1) fun i p v hp hv=>this.2 i p v hp (by simpa using hv)
   .simp at h
  .split at h
   .rename_i f cs ps is hf;simp at h;obtain ⟨rfl,rfl⟩:=h
    cases hv with
    | func _ _ vs hl hr =>
     have:=JC ih hf (az.pG hl hr) hJ;exact .func _ _ vs (by simpa using this.1) fun i p v hp hv=>this.2 i p v hp (by simpa using hv)
   .simp at h
  .rename_i id off
   split at h
   .rename_i own cs hg
    split at h
    .rename_i ps is hf;simp at h;obtain ⟨rfl,rfl⟩:=h;obtain ⟨b,m,aj,rfl⟩:=hv.jP;have ho:=hH.obj _ _ _ aj;rw [hg] at ho;obtain ⟨c,t,fz,h1,h2,h3,h4,h5⟩:=ho;have hr:az (aQ S base φ H w) φ w cs (c.toList.take cs.length):=⟨by simp;omega,fun i p u hp hu=>by
      have hi:i < cs.length:=(List.getElem?_eq_some_iff.1 hp).1;rw [List.getElem?_take_of_lt hi] at hu;exact h5 i p u hp (by simpa using hu)⟩
     have:=JC ih hf hr fun id aj=>hJ id (List.mem_cons_of_mem _ aj);have hlen:ps.length=cs.length:=by have:=this.1;simp at this;omega
     have aS:∀ (j:Nat) p,ps[j]?=some p->∃ hj:j < c.size,(c.toList.take cs.length)[j]?=some c[j]:=fun j p hp=>by
      have hj:j < ps.length:=(List.getElem?_eq_some_iff.1 hp).1
      refine ⟨by omega,?_⟩
      rw [List.getElem?_take_of_lt (by omega),Array.getElem?_toList,Array.getElem?_eq_getElem]
     refine .ptr k ps off b 0 off (fun j=>c.getD j undef) (by omega) (fun j p hp=>⟨hJ id (List.mem_cons_self ..) b m aj,?_⟩) fun j p hp=>?_
     .obtain ⟨hj,_⟩:=aS j p hp;simp [World.cell?,h1,hj]
     .obtain ⟨hj,hu⟩:=aS j p hp;have:=this.2 j p _ hp hu
      simpa [hj] using this
    .simp at h
   .simp at h
  .rename_i id sz off len
   split at h
   .rename_i own cs hg
    split at h
    .rename_i ps is hf
     split at h
     .rename_i hlen;simp at h;obtain ⟨rfl,rfl⟩:=h;obtain ⟨b,m,cap,aj,rfl,sZ,rH⟩:=hv.iq;have ho:=hH.obj _ _ _ aj;rw [hg] at ho;obtain ⟨c,t,fz,h1,h2,h3,h4,h5⟩:=ho;have hr:az (aQ S base φ H w) φ w ((cs.drop (off*sz)).take (len*sz)) (((c.toList.take cs.length).drop (off*sz)).take (len*sz)):=by
       refine (az.drop ?_ _).take _
       exact ⟨by simp;omega,fun i p u hp hu=>by
        have hi:i < cs.length:=(List.getElem?_eq_some_iff.1 hp).1;rw [List.getElem?_take_of_lt hi] at hu;exact h5 i p u hp (by simpa using hu)⟩
      have:=JC ih hf hr fun id aj=>hJ id (List.mem_cons_of_mem _ aj);have tq:off*sz+len*sz<=cs.length\/len*sz=0:=by
       have h7:=this.1;simp at h7;omega
      have aS:∀ (i:Nat) e (j:Nat) p,(chunks sz len ps)[i]?=some e->e[j]?=some p->ps[i*sz+j]?=some p/\i*sz+j < len*sz:=fun i e j p he hp=>by
       obtain ⟨hi,rfl⟩:=La sz len ps i e he;have hj:j < sz:=by have:=(List.getElem?_eq_some_iff.1 hp).1;simp at this;omega
       rw [List.getElem?_take_of_lt hj,List.getElem?_drop] at hp
       refine ⟨hp,?_⟩
       have:=(List.getElem?_eq_some_iff.1 hp).1;omega
      have bI:∀ k,k < len*sz->∃ hk:off*sz+k < c.size,(((c.toList.take cs.length).drop (off*sz)).take (len*sz))[k]?=some c[off*sz+k]:=fun k hk=>by
       refine ⟨by omega,?_⟩
       rw [List.getElem?_take_of_lt hk,List.getElem?_drop,List.getElem?_take_of_lt (by omega),Array.getElem?_toList,Array.getElem?_eq_getElem]
      refine .slice k sz _ b (off*sz) len cap (fun i j=>c.getD (off*sz+(i*sz+j)) undef) (TQ _ _ _) sZ (fun i e he=>?_) (fun i e j p he hp=>⟨hJ id (List.mem_cons_self ..) b m aj,?_⟩) fun i e j p he hp=>?_
      .obtain ⟨hi,rfl⟩:=La sz len ps i e he;have:(i+1)*sz<=len*sz:=Nat.mul_le_mul_right _ hi;rw [Nat.add_mul] at this;simp;omega
      .obtain ⟨EH,qg⟩:=aS i e j p he hp;obtain ⟨hk,_⟩:=bI _ qg;simp [World.cell?,h1,Nat.add_assoc,hk]
      .obtain ⟨EH,qg⟩:=aS i e j p he hp;obtain ⟨hk,hu⟩:=bI _ qg;have:=this.2 _ p _ EH hu
       simpa [hk] using this
     .simp at h
    .simp at h
   .simp at h
  .rename_i id sz off len
   split at h
   .rename_i own cs hg
    split at h
    .rename_i ps is hf
     split at h
     .rename_i hlen;simp at h;obtain ⟨rfl,rfl⟩:=h;obtain ⟨b,m,aj,rfl⟩:=hv.vT;have ho:=hH.obj _ _ _ aj;rw [hg] at ho;obtain ⟨c,t,fz,h1,h2,h3,h4,h5⟩:=ho;have hr:az (aQ S base φ H w) φ w ((cs.drop (off*sz)).take (len*sz)) (((c.toList.take cs.length).drop (off*sz)).take (len*sz)):=by
       refine (az.drop ?_ _).take _
       exact ⟨by simp;omega,fun i p u hp hu=>by
        have hi:i < cs.length:=(List.getElem?_eq_some_iff.1 hp).1;rw [List.getElem?_take_of_lt hi] at hu;exact h5 i p u hp (by simpa using hu)⟩
      have:=JC ih hf hr fun id aj=>hJ id (List.mem_cons_of_mem _ aj);have tq:off*sz+len*sz<=cs.length\/len*sz=0:=by
       have h7:=this.1;simp at h7;omega
      have aS:∀ (i:Nat) e (j:Nat) p,(chunks sz len ps)[i]?=some e->e[j]?=some p->ps[i*sz+j]?=some p/\i*sz+j < len*sz:=fun i e j p he hp=>by
       obtain ⟨hi,rfl⟩:=La sz len ps i e he;have hj:j < sz:=by have:=(List.getElem?_eq_some_iff.1 hp).1;simp at this;omega
       rw [List.getElem?_take_of_lt hj,List.getElem?_drop] at hp
       refine ⟨hp,?_⟩
       have:=(List.getElem?_eq_some_iff.1 hp).1;omega
      have bI:∀ k,k < len*sz->∃ hk:off*sz+k < c.size,(((c.toList.take cs.length).drop (off*sz)).take (len*sz))[k]?=some c[off*sz+k]:=fun k hk=>by
       refine ⟨by omega,?_⟩
       rw [List.getElem?_take_of_lt hk,List.getElem?_drop,List.getElem?_take_of_lt (by omega),Array.getElem?_toList,Array.getElem?_eq_getElem]
      refine .slice k sz _ b (off*sz) len len (fun i j=>c.getD (off*sz+(i*sz+j)) undef) (TQ _ _ _) (Nat.le_refl _) (fun i e he=>?_) (fun i e j p he hp=>⟨hJ id (List.mem_cons_self ..) b m aj,?_⟩) fun i e j p he hp=>?_
      .obtain ⟨hi,rfl⟩:=La sz len ps i e he;have:(i+1)*sz<=len*sz:=Nat.mul_le_mul_right _ hi;rw [Nat.add_mul] at this;simp;omega
      .obtain ⟨EH,qg⟩:=aS i e j p he hp;obtain ⟨hk,_⟩:=bI _ qg;simp [World.cell?,h1,Nat.add_assoc,hk]
      .obtain ⟨EH,qg⟩:=aS i e j p he hp;obtain ⟨hk,hu⟩:=bI _ qg;have:=this.2 _ p _ EH hu
       simpa [hk] using this
     .simp at h
    .simp at h
   .simp at h
  .simp at h
theorem zoD {I':Bool->Nat->Prop} {w':World} (hI:∀ b,I false b->I' false b/\w'.heap[b]?=w.heap[b]?):∀ (n:Nat) {p:PV} {v:Value},p.fZ n=true->bA I w p v->bA I' w' p v:=by
 intro n
 induction n with
 | zero=>intro p v hf;simp [PV.fZ] at hf
 | succ n ih =>
  intro p v hf h
  cases h with
  | int=>exact .int ..
  | bool=>exact .bool ..
  | str=>exact .str ..
  | nils=>exact .nils
  | jU=>exact .jU
  | jV=>exact .jV
  | agg cs vs hl h=>exact .agg cs vs hl fun i p v hp hv=>ih (List.all_eq_true.1 hf p (List.mem_of_getElem? hp)) (h i p v hp hv)
  | aM cs vs hl h=>exact .aM cs vs hl fun i p v hp hv=>ih (List.all_eq_true.1 hf p (List.mem_of_getElem? hp)) (h i p v hp hv)
  | func f cs vs hl h=>exact .func f cs vs hl fun i p v hp hv=>ih (List.all_eq_true.1 hf p (List.mem_of_getElem? hp)) (h i p v hp hv)
  | jH f cs vs hl h=>exact .jH f cs vs hl fun i p v hp hv=>ih (List.all_eq_true.1 hf p (List.mem_of_getElem? hp)) (h i p v hp hv)
  | slice k sz es b o len cap val hlen hc hz hm h =>
   simp only [PV.fZ,Bool.or_eq_true,Bool.and_eq_true,Bool.not_eq_true'] at hf;rcases hf with hf|⟨rfl,hf⟩
   .have:es=[]:=by simpa using hf
    subst this;exact .slice k sz [] b o len cap val hlen hc (fun i e he=>by simp at he) (fun i e j p he=>by simp at he) (fun i e j p he=>by simp at he)
   .refine .slice false sz es b o len cap val hlen hc hz (fun i e j p he hp=>?_) fun i e j p he hp=>?_
    .obtain ⟨h1,h2⟩:=hm i e j p he hp;exact ⟨(hI _ h1).1,(World.cell?_of_block (a:=⟨b,o+i*sz+j,none⟩) (hI _ h1).2).trans h2⟩
    .exact ih (List.all_eq_true.1 (List.all_eq_true.1 hf e (List.mem_of_getElem? he)) p (List.mem_of_getElem? hp)) (h i e j p he hp)
  | ptr k cs off b o o' val ho hm h =>
   simp only [PV.fZ,Bool.and_eq_true,Bool.not_eq_true'] at hf;obtain ⟨rfl,hf⟩:=hf
   refine .ptr false cs off b o o' val ho (fun j p hp=>?_) fun j p hp=>?_
   .obtain ⟨h1,h2⟩:=hm j p hp;exact ⟨(hI _ h1).1,(World.cell?_of_block (a:=⟨b,o+j,none⟩) (hI _ h1).2).trans h2⟩
   .exact ih (List.all_eq_true.1 hf p (List.mem_of_getElem? hp)) (h j p hp)
theorem zqR {I':Bool->Nat->Prop} {w':World} (hI:∀ b,I false b->I' false b/\w'.heap[b]?=w.heap[b]?) {p:PV} {v:Value} (hf:p.cold=true) (h:bA I w p v):bA I' w' p v :=
 zoD hI _ hf h
def Fw (ro:Option Nat):Fence:={ Fence.wide with round:=ro }
def EI (P : Program) (f : FuncId) : Prop := ∃ fn, P.funcs[f]? = some fn /\ fn.body.isNone = false /\ (fn.name == "runtime.NumGoroutine") = false
def lh (I:Bool->Nat->Prop) (w:World) (ps:List PV) (vs:List Value):Prop:=ps.length=vs.length/\∀ (i:Nat) p v,ps[i]?=some p->vs[i]?=some v->bA I w p v
def TR (P:Program) (f:FuncId) (ps:List PV) (r:PV):Prop :=
 EI P f/\∀ (n:Nat) (S':Bool->Nat->Prop) (w:World) (vals:List Value),(∀ k b,S' k b->b < w.heap.size)->lh S' w ps vals ->
  CallsIn Fence.wide n P f vals.toArray w fun e w'=>∃ v,e=.returned v/\Below w.heap.size w w'/\bA (fun k b=>(S' k b\/w.heap.size<=b)/\b < w'.heap.size) w' r v
def PS (C:iT) (P:Program) (f:FuncId) (xs:List AV) (H:Heap) (r:AV) (H':Heap):Prop :=
 EI P f/\∀ (n:Nat) (S:Bool->Nat->Prop) (base:Nat) (φ:iX) (w:World) (vals:List Value),aN C S base φ H w->az (aQ S base φ H w) φ w xs vals ->
  CallsIn Fence.wide n P f vals.toArray w fun e w'=>∃ v φ',e=.returned v/\bY φ H w φ' H' w'/\aN C S base φ' H' w'/\aA (aQ S base φ' H' w') φ' w' r v
def znV (C:iT) (P:Program) (id:Nat) (xs:List AV) (H:Heap) (r:AV) (H':Heap):Prop :=
 ∀ (n:Nat) (S:Bool->Nat->Prop) (base:Nat) (φ:iX) (w:World) (b m:Nat) (vals:List Value),φ id=some (b,m)->aN C S base φ H w->az (aQ S base φ H w) φ w xs vals ->
  ∃ l:Loop,w.heap[b]?=some (.loop l)/\vals.length=l.params.size /\
   RoundIn Fence.wide n P b l.fn ((l.params.zip vals.toArray).foldl (fun tmps (x:Tmp×Value)=>tmps.setIfInBounds x.1 x.2) l.tmps) l.assign l.body w
    fun e w'=>∃ v φ',e=.returned v/\bY φ H w φ' H' w'/\aN C S base φ' H' w'/\aA (aQ S base φ' H' w') φ' w' r v
structure bz (C:iT) (P:Program) (cl:Callee):Prop where
 pure:∀ f ps r,cl.pure f ps=some r->TR P f ps r
 run:∀ f xs H r H',cl.run f xs H=some (r,H')->PS C P f xs H r H'
 yield:∀ id xs H r H',cl.yield id xs H=some (r,H')->znV C P id xs H r H'
theorem zgn {f:FuncId} (hf:EI P f) (args:Array Value):(callFunc f args).run P w=.ok (.enter f args) w:=by
 obtain ⟨fn,h1,h2,h3⟩:=hf;simp only [callFunc,Sem.run_bind,run_program,Result.andThen_ok,h1,h2,h3,Bool.false_eq_true,if_false,Sem.run_pure]
theorem zjH {c:Call} {g:Operand} {f:FuncId} {first caps:Array Value} (ah:o.op=.call c) (hc:c.callee=.value g) (hg:a.eval g=.func (.func f) first caps) (hf:EI P f) :
  (execOp a.eval o).run P w=.ok (.enter f (first++c.args.map a.eval++caps)) w:=by
 simp only [execOp,ah,resolve,hc,hg,Deferred.ofValue,Sem.run_bind,Sem.run_pure,Result.andThen_ok,invoke];rw [zgn hf]
variable {ro:Option Nat} {n:Nat} {K:Act->World->Prop} {Q:Exit->Act->World->Prop}
theorem zl8 {f:FuncId} {args:Array Value} (xW:∀ c,o.op≠.defer c) (hr:(execOp a.eval o).run P w=.ok (.enter f args) w)
  (h:CallsIn Fence.wide (n - 1) P f args w fun e w'=>∃ v,e=.returned v/\K (a.put o.dst v) w'):o.wpIn (Fw ro) n P a w K Q:=by
 refine ⟨fun _ _=>trivial,?_⟩
 rw [Oper.semAt_eq _ _ _ xW,hr,Oper.uponIn_enter]
 refine ⟨fun hd=>by simp [Fw,Fence.wide] at hd,?_⟩
 have:=CallsIn.mono h (R':=fun
  | .returned v,w''=>K (a.put o.dst v) w''
  | .panicked chain,w''=>Q (.panic chain) a w''
  | .outgrown,_=>LetsOut Q) fun e w' ⟨v,he,hk⟩=>by subst he;exact hk
 exact this
theorem zq4 (xW:∀ c,o.op≠.defer c) (hr:iJ C S base φ H w e ((execOp a.eval o).run P w)) (h:∀ v w',Ew C S base φ H w e v w'->K (a.put o.dst v) w'):o.wpIn (Fw ro) n P a w K Q:=by
 refine ⟨fun _ _=>trivial,?_⟩
 rw [Oper.semAt_eq _ _ _ xW];rcases hr with ⟨v,w',hr,hp⟩|⟨w',hr,hp⟩
 .rw [hr,Oper.uponIn_value];exact h v w' hp
 .rw [hr,Oper.uponIn_skip];exact h _ w' hp
theorem aQ.of_below {w':World} (hH:aN C S base φ H w) (hb:Below w.heap.size w w') {k:Bool} {b:Nat} (h:(aQ S base φ H w k b\/w.heap.size<=b)/\b < w'.heap.size):aQ S base φ H w' k b:=by
 obtain ⟨h1|h1,h2⟩:=h
 .exact ⟨h1.1,h2,h1.2.2⟩
 .refine ⟨.inr (Nat.le_trans hH.sz h1),h2,?_⟩
  rintro ⟨id,m,aj,_⟩;have:=(hH.lt _ _ _ aj).2;omega
theorem znD (hH:aN C S base φ H w) {ids:List Nat} {k:Bool} {id b m:Nat} (oI:id∈ids) (aj:φ id=some (b,m)) (hc:∃ own cs,H.get id=.cells own cs):aQ S base φ (H.freeze ids) w k b:=by
 obtain ⟨own,cs,hg⟩:=hc
 refine ⟨.inr (hH.lt _ _ _ aj).1,(hH.lt _ _ _ aj).2,?_⟩
 rintro ⟨id',m',uW,hl⟩;have aS:∀ i,(H.freeze ids).get i=if ids.contains i then (H.get i).freeze else H.get i:=fun i=>zid ids
 have hd:(H.get id).bQ=false:=by rw [hg];rfl
 have oJ:(H.get id').bQ=false:=by
  rw [aS] at hl
  cases hq:H.get id'<;>rw [hq] at hl
  .exfalso
   split at hl<;>simp [aR.freeze,aR.live] at hl
  .rfl
  .rfl
  .rfl
  .rfl
 have:=hH.inj _ _ _ _ _ uW aj oJ hd;subst this;rw [aS,if_pos (by simpa using oI),hg] at hl;simp [aR.freeze,aR.live] at hl
theorem JE {fr:AV->Option (PV×List Nat)} (oz:∀ av p ids,fr av=some (p,ids)->∀ id∈ids,∃ own cs,H.get id=.cells own cs):∀ {cs:List AV} {ps:List PV} {ids:List Nat},zO fr cs=some (ps,ids)->∀ id∈ids,∃ own cs,H.get id=.cells own cs
 | [],ps,ids,h=>by simp [zO] at h;obtain ⟨_,rfl⟩:=h;simp
 | c::cs,ps,ids,h=>by
  unfold zO at h
  split at h
  .simp at h
  .rename_i p is hp
   split at h
   .simp at h
   .rename_i qs js hq;simp at h;obtain ⟨_,rfl⟩:=h;intro id aj;rcases List.mem_append.1 aj with h1|h1
    .exact oz _ _ _ hp id h1
    .exact JE oz hq id h1
theorem zmH {k:Bool}:∀ (n:Nat) (av:AV) (p:PV) (ids:List Nat),freeze H k n av=some (p,ids)->∀ id∈ids,∃ own cs,H.get id=.cells own cs:=by
 intro n
 induction n with
 | zero=>intro av p ids h;simp [freeze] at h
 | succ n ih =>
  intro av p ids h;unfold freeze at h
  split at h
  .simp at h;obtain ⟨_,rfl⟩:=h;simp
  .split at h
   .rename_i hf;simp at h;obtain ⟨_,rfl⟩:=h;exact JE ih hf
   .simp at h
  .split at h
   .rename_i hf;simp at h;obtain ⟨_,rfl⟩:=h;exact JE ih hf
   .simp at h
  .split at h
   .rename_i hf;simp at h;obtain ⟨_,rfl⟩:=h;exact JE ih hf
   .simp at h
  .split at h
   .rename_i own cs hg
    split at h
    .rename_i hf;simp at h;obtain ⟨_,rfl⟩:=h;intro id aj;rcases List.mem_cons.1 aj with rfl|h1
     .exact ⟨_,_,hg⟩
     .exact JE ih hf id h1
    .simp at h
   .simp at h
  .split at h
   .rename_i own cs hg
    split at h
    .rename_i hf
     split at h
     .simp at h;obtain ⟨_,rfl⟩:=h;intro id aj;rcases List.mem_cons.1 aj with rfl|h1
      .exact ⟨_,_,hg⟩
      .exact JE ih hf id h1
     .simp at h
    .simp at h
   .simp at h
  .split at h
   .rename_i own cs hg
    split at h
    .rename_i hf
     split at h
     .simp at h;obtain ⟨_,rfl⟩:=h;intro id aj;rcases List.mem_cons.1 aj with rfl|h1
      .exact ⟨_,_,hg⟩
      .exact JE ih hf id h1
     .simp at h
    .simp at h
   .simp at h
  .simp at h
def PT (S:Bool->Nat->Prop) (base:Nat) (φ:iX) (H:Heap) (ids:List Nat) (w:World):Bool->Nat->Prop
 | true=>aQ S base φ (H.freeze ids) w true
 | false=>aQ S base φ H w false
theorem zqZ {S:Bool->Nat->Prop} {ids:List Nat} {k:Bool} {b:Nat} (h:PT S base φ H ids w k b):b < w.heap.size:=by
 cases k<;>exact h.2.1
theorem zhQ {cl:Callee} (fe:bz C P cl) (hH:aN C S base φ H w) {c:Call} {g:Operand} {f:FuncId} {mK:List AV} {uX:Array Value} {caps:List AV} {jB:Array Value} {args:List AV} (ah:o.op=.call c) (hc:c.callee=.value g)
  (hg:a.eval g=.func (.func f) uX jB) (yY:az (aQ S base φ H w) φ w mK uX.toList) (wC:az (aQ S base φ H w) φ w caps jB.toList) (um:az (aQ S base φ H w) φ w args (c.args.toList.map a.eval))
  (h:(if cl.shared f then
    match cl.run f (mK++(args++caps)) H with
    | some (v,H')=>some (.upd v H')
    | none=>none
   else
    match zO (freeze H true nZ) (mK++(args++caps)) with
    | none=>none
    | some (ps,ids) =>
     match cl.pure f ps with
     | none=>none
     | some r=>if ids.isEmpty||r.cold then some (.val (.pure r)) else some (.upd (.pure r) (H.freeze ids)):Option Eff)=some e)
  (hK:∀ v w',Ew C S base φ H w e v w'->K (a.put o.dst v) w'):o.wpIn (Fw ro) n P a w K Q:=by
 have xW:∀ c,o.op≠.defer c:=fun c' h=>by rw [ah] at h;cases h
 have bM:=yY.append (um.append wC);have BG:(uX.toList++(c.args.toList.map a.eval++jB.toList)).toArray=uX++c.args.map a.eval++jB:=by
  apply Array.ext';simp
 split at h
 ·-- with the caller's memory
  split at h
  .rename_i v H' hr;simp at h;subst h;obtain ⟨hf,bC⟩:=fe.run _ _ _ _ _ hr
   refine zl8 xW (zjH ah hc hg hf) ?_
   rw [<- BG]
   refine (bC (n - 1) S base φ w _ hH bM).mono ?_
   rintro e w' ⟨v,φ',rfl,h1,h2,h3⟩;exact ⟨v,rfl,hK v w' ⟨φ',h1,h2,h3⟩⟩
  .simp at h
 ·-- on data
  split at h
  .simp at h
  .rename_i ps ids Px
   split at h
   .simp at h
   .rename_i r hr;obtain ⟨hf,bC⟩:=fe.pure _ _ _ hr;have oK:=hH.freeze ids;have hJ:∀ id∈ids,∀ b n,φ id=some (b,n)->PT S base φ H ids w true b:=fun id aj b m hb =>
     znD hH aj hb (JE (zmH nZ) Px id aj)
    have JD:∀ k b,aQ S base φ H w k b->PT S base φ H ids w k b:=fun k b hb=>by
     cases k with
     | true=>exact (oK.1.Bq hb).1
     | false=>exact hb
    have uY:=JC (J:=PT S base φ H ids w) (fun av p V9 v h1 h2 h3=>zhT hH JD nZ av p V9 v h1 h2 h3) Px bM hJ
    refine zl8 xW (zjH ah hc hg hf) ?_
    rw [<- BG]
    refine (bC (n - 1) (PT S base φ H ids w) w _ (fun k b hb=>zqZ hb) uY).mono ?_
    rintro e' w' ⟨v,rfl,hb,y9⟩
    refine ⟨v,rfl,hK v w' ?_⟩
    split at h
    .rename_i aB;simp at h;subst h
     refine ⟨hb,.pure _ _ ?_⟩
     simp only [Bool.or_eq_true] at aB;rcases aB with yU|PU
     .have iY:ids=[]:=by simpa using yU
      subst iY;have We:H.freeze []=H:=by cases H;rfl
      refine y9.mono fun k b jf=>⟨aQ.of_below hH hb ⟨?_,jf.2⟩,rfl⟩
      rcases jf.1 with h1|h1
      .refine .inl ?_
       cases k with
       | true=>rw [<- We];exact h1
       | false=>exact h1
      .exact .inr h1
     .exact zqR (fun b jf=>⟨aQ.of_below hH hb jf,rfl⟩) PU y9
    .simp at h;subst h;have j4:=bY.of_below (φ:=φ) (H:=H.freeze ids) hb
     refine ⟨φ,oK.1.trans j4,oK.2.below hb,.pure _ _ (y9.mono fun k b jf=>⟨aQ.of_below oK.2 hb ⟨?_,jf.2⟩,rfl⟩)⟩
     rcases jf.1 with h1|h1
     .refine .inl ?_
      cases k with
      | true=>exact h1
      | false=>exact (oK.1.Bq h1).1
     .exact .inr h1
theorem zje {cl:Callee} (fe:bz C P cl) (hH:aN C S base φ H w) {c:Call} {g:Operand} {f:FuncId} {caps:List AV} {jB:Array Value} {args:List AV} (ah:o.op=.call c) (hc:c.callee=.value g)
  (hg:a.eval g=.func (.func f) #[] jB) (wC:az (aQ S base φ H w) φ w caps jB.toList) (um:az (aQ S base φ H w) φ w args (c.args.toList.map a.eval))
  (h:(if cl.shared f then
    match cl.run f (args++caps) H with
    | some (v,H')=>some (.upd v H')
    | none=>none
   else
    match zO (freeze H true nZ) (args++caps) with
    | none=>none
    | some (ps,ids) =>
     match cl.pure f ps with
     | none=>none
     | some r=>if ids.isEmpty||r.cold then some (.val (.pure r)) else some (.upd (.pure r) (H.freeze ids)):Option Eff)=some e)
  (hK:∀ v w',Ew C S base φ H w e v w'->K (a.put o.dst v) w'):o.wpIn (Fw ro) n P a w K Q:=by
 have hn:az (aQ S base φ H w) φ w [] (#[]:Array Value).toList:=⟨rfl,fun i p v h=>by simp at h⟩
 exact zhQ (mK:=[]) fe hH ah hc hg hn wC um (by simpa only [List.nil_append] using h) hK
end
section
variable {C:iT} {P:Program} {Z:List Nat} {S:Bool->Nat->Prop} {base:Nat} {φ:iX} {H:Heap} {w:World} {env:Env} {a:Act} {e:Eff} {o:Oper} {I:Bool->Nat->Prop}
variable {ro:Option Nat} {n:Nat} {K:Act->World->Prop} {Q:Exit->Act->World->Prop}
theorem TS {x:AV} (h:Bj x=true):(∃ cs,x=.agg cs)\/∃ ps,x=.pure (.agg ps):=by
 unfold Bj at h
 split at h
 .exact .inl ⟨_,rfl⟩
 .exact .inr ⟨_,rfl⟩
 .simp at h
theorem Wh (hH:aN C S base φ H w):φ H.nx=none:=by
 cases h:φ H.nx with
 | none=>rfl
 | some x=>exact absurd (hH.nx _ _ h) (Nat.lt_irrefl _)
theorem TT {g:Bool} {s:Nat} (h:¬ (g=false/\s≠1)):g=false->s=1:=fun hg=>by
 rcases Decidable.em (s=1) with h1|h1
 .exact h1
 .exact absurd ⟨hg,h1⟩ h
theorem ziz {av:AV} {r:Result Next} (h:iJ C S base φ H w (.val av) r):iJ C S base φ H w (.val .undef) r:=by
 rcases h with ⟨v,w',h1,h2,h3⟩|⟨w',h1,h2,h3⟩
 .exact .inl ⟨v,w',h1,h2,.undef _⟩
 .exact .inr ⟨w',h1,h2,.undef _⟩
theorem zqe {cl:Callee} {vo:jZ} (hH:aN C S base φ H w) (hE:aV (aQ S base φ H w) φ w env a) (hc:zG P Z o=some vo) (hs:step cl env H vo=some e) (Wi:∀ f xs,vo≠.call f xs) :
  iJ C S base φ H w e ((execOp a.eval o).run P w)/\∀ c,o.op≠.defer c:=by
 unfold zG at hc
 split at hc
 ·-- move
  rename_i X ah
  cases hx:zB X with
  | none=>simp [hx] at hc
  | some x =>
   simp [hx] at hc;subst hc;simp [step] at hs;subst hs;exact ⟨znZ hE hx (.inl ah),by simp [ah]⟩
 .rename_i X ah
  cases hx:zB X with
  | none=>simp [hx] at hc
  | some x =>
   simp [hx] at hc;subst hc;simp [step] at hs;subst hs;exact ⟨znZ hE hx (.inr ah),by simp [ah]⟩
 ·-- pick
  rename_i C' A B ah
  split at hc
  .rename_i c x y h1 h2 h3;simp at hc;subst hc;simp only [step] at hs
   split at hs
   .rename_i t ht;simp at hs;subst hs;exact ⟨zqO hE h1 h2 h3 ah ht,by simp [ah]⟩
   .simp at hs
  .simp at hc
 ·-- alloc
  rename_i t ah
  cases hz:vX P t with
  | none=>simp [hz] at hc
  | some z =>
   simp [hz] at hc;subst hc;simp [step] at hs;subst hs;exact ⟨zoV hz ah,by simp [ah]⟩
 ·-- box
  rename_i t X ah
  cases hx:zB X with
  | none=>simp only [hx,Option.map_none] at hc;(repeat' split at hc)<;>simp at hc
  | some x =>
   have uS:vo=.box x->iJ C S base φ H w e ((execOp a.eval o).run P w)/\∀ c,o.op≠.defer c:=by
    intro h;subst h;simp [step] at hs;subst hs;exact ⟨zse hE hx ah,by simp [ah]⟩
   simp only [hx,Option.map_some] at hc
   split at hc
   .split at hc
    .simp at hc;exact uS hc.symm
    .simp at hc;subst hc;simp only [step] at hs
     split at hs
     .rename_i ps hp;simp at hs;subst hs;exact ⟨zrh hH hE hx ah hp,by simp [ah]⟩
     .simp at hs
   .simp at hc;exact uS hc.symm
 ·-- build
  rename_i t parts ah
  split at hc
  .rename_i z ps h1 h2
   split at hc
   .rename_i bG;simp at hc;subst hc;simp only [step] at hs
    split at hs
    .rename_i cs hf;simp at hs;subst hs;exact ⟨zps hE h1 h2 bG ah hf,by simp [ah]⟩
    .simp at hs
   .simp at hc
  .simp at hc
 ·-- buildSlice
  rename_i t len parts ah
  split at hc
  .rename_i e' ht
   split at hc
   .rename_i s z h1 h2
    split at hc
    .rename_i aB
     cases hp:CG (fun i=>some (i*s,s)) parts.toList with
     | none=>simp [hp] at hc
     | some ps =>
      simp [hp] at hc;subst hc;simp only [step] at hs
      split at hs
      .rename_i cs hf;simp only [Option.some.injEq] at hs;subst hs;exact ⟨ziG hE ht h1 h2 aB.1 aB.2.1 aB.2.2 hp ah hf,by simp [ah]⟩
      .simp at hs
    .simp at hc
   .simp at hc
  .simp at hc
 ·-- load
  rename_i t X ah
  split at hc
  .rename_i g s x h1 h2 h3
   split at hc
   .simp at hc
   .rename_i hg;simp at hc;subst hc;simp only [step] at hs
    split at hs
    .rename_i cs hl
     cases ho:pF g cs with
     | none=>simp [ho] at hs
     | some av =>
      simp [ho] at hs;subst hs;exact ⟨zrg hH hE h3 h1 h2 (TT hg) ah hl ho,by simp [ah]⟩
    .simp at hs
  .simp at hc
 ·-- store
  rename_i t A X ah
  split at hc
  .rename_i s x y h1 h2 h3
   split at hc
   .simp at hc
   .rename_i h0;simp at hc;subst hc;simp only [step] at hs
    split at hs
    .rename_i id off hb
     split at hs
     .rename_i ds hg
      split at hs
      .rename_i aB;simp only [Option.some.injEq] at hs;subst hs;exact ⟨zpb hH hE h2 h3 h1 h0 ah hb hg aB.1 aB.2.2.1 aB.2.2.2,by simp [ah]⟩
      .simp at hs
     .simp at hs
    .simp at hs
  .simp at hc
 ·-- nilCheck
  rename_i X ah
  cases hx:zB X with
  | none=>simp [hx] at hc
  | some x =>
   simp [hx] at hc;subst hc;simp only [step] at hs
   split at hs
   .rename_i h1;simp at hs;subst hs;exact ⟨zf4 hE hx ah (.inl h1),by simp [ah]⟩
   .rename_i h1 _;simp at hs;subst hs;exact ⟨zf4 hE hx ah (.inr h1),by simp [ah]⟩
   .simp at hs
 ·-- binOp
  rename_i op t X Y t' ah
  split at hc
  .rename_i x y d h1 h2 h3;have plain:∀ k,VM P t k->vo=.bin op k x y->iJ C S base φ H w e ((execOp a.eval o).run P w)/\∀ c,o.op≠.defer c:=by
    intro k hk Gg;subst Gg;simp only [step] at hs
    cases hv:fK op k (x.eval env) (y.eval env) with
    | none=>simp [hv] at hs
    | some av =>
     simp [hv] at hs;subst hs;exact ⟨zrX hE h1 h2 hk ah hv,by simp [ah]⟩
   split at hc
   .rename_i fs
    split at hc
    .rename_i ls xU
     split at hc
     .rename_i s fE;have main:∀ neg,vo=.mH neg s ls x y->((op=.eql/\neg=false)\/(op=.neq/\neg=true))->iJ C S base φ H w e ((execOp a.eval o).run P w)/\∀ c,o.op≠.defer c:=by
       intro neg Gg He;subst Gg;simp only [step] at hs
       split at hs
       .rename_i aB
        split at hs
        .rename_i b hb;simp at hs;subst hs;have:=zo5 (C:=C) (P:=P) hE h1 h2 h3 xU fE ah (He.imp And.left And.left) (TS aB.1) (TS aB.2.1) aB.2.2.1 aB.2.2.2 hb;have hn:(op == .neq)=neg:=by rcases He with ⟨rfl,rfl⟩|⟨rfl,rfl⟩<;>rfl
         rw [hn] at this;exact ⟨this,by simp [ah]⟩
        .simp at hs
       .simp at hs
      split at hc
      .rename_i heq;simp at hc;exact main false hc.symm (.inl ⟨heq,rfl⟩)
      .split at hc
       .rename_i heq;simp at hc;exact main true hc.symm (.inr ⟨heq,rfl⟩)
       .simp at hc
     .simp at hc
    .simp at hc
   .rename_i k;simp at hc;exact plain .num (.inl ⟨k,h3⟩) hc.symm
   .simp at hc;exact plain .num (.inr h3) hc.symm
   .simp at hc;exact plain .bool h3 hc.symm
   .rename_i el;simp at hc;exact plain .slice ⟨el,h3⟩ hc.symm
   .rename_i el;simp at hc;exact plain .pointer ⟨el,h3⟩ hc.symm
   .rename_i f1 f2 f3;simp at hc;exact plain .func ⟨f1,f2,f3,h3⟩ hc.symm
   .simp at hc
  .simp at hc
 ·-- unOp
  rename_i op t X ah
  cases hx:zB X with
  | none=>simp [hx] at hc
  | some x =>
   simp [hx] at hc;subst hc;simp only [step] at hs
   cases hv:KS op (x.eval env) with
   | none=>simp [hv] at hs
   | some av =>
    simp [hv] at hs;subst hs;exact ⟨ztf hE hx ah hv,by simp [ah]⟩
 ·-- convert
  rename_i src dst X ah
  split at hc
  .rename_i k0 k x h1 h2 h3;simp at hc;subst hc;simp only [step] at hs
   split at hs
   .rename_i k2 m e2;simp at hs;subst hs;exact ⟨zoT hE h3 h1 h2 ah e2,by simp [ah]⟩
   .simp at hs
  .rename_i x h1 h2 h3;simp at hc;subst hc;simp only [step] at hs
   split at hs
   .rename_i b e2;simp at hs;subst hs;exact ⟨zkj hE h3 h1 h2 ah e2,by simp [ah]⟩
   .simp at hs
  .rename_i el x h1 h2 h3
   split at hc
   .rename_i h4 h5;simp at hc;subst hc;simp only [step] at hs
    split at hs
    .rename_i b e2;simp only [Option.some.injEq] at hs;subst hs;exact ⟨zlP hE h3 h1 h2 h4 h5 ah e2,by simp [ah]⟩
    .simp at hs
   .simp at hc
  .rename_i el x h1 h2 h3
   split at hc
   .rename_i h4;simp at hc;subst hc;simp only [step] at hs
    split at hs
    .rename_i cs m e2
     split at hs
     .rename_i bs e3;simp only [Option.some.injEq] at hs;subst hs;exact ⟨zpu hH hE h3 h1 h2 h4 ah e2 e3,by simp [ah]⟩
     .simp at hs
    .simp at hs
   .simp at hc
  .simp at hc
 ·-- makeFunc
  rename_i f first caps ah
  split at hc
  .rename_i h0
   cases hx:vW caps.toList with
   | none=>simp [hx] at hc
   | some xs =>
    simp [hx] at hc;subst hc;simp [step] at hs;subst hs;exact ⟨zj1 hE h0 hx ah,by simp [ah]⟩
  .split at hc
   .rename_i h0
    cases hx:vW first.toList with
    | none=>simp [hx] at hc
    | some xs =>
     simp [hx] at hc;subst hc;simp only [step] at hs
     split at hs
     .rename_i ps hp;simp only [Option.some.injEq] at hs;subst hs;exact ⟨zks hE h0 hx ah hp,by simp [ah]⟩
     .simp at hs
   .simp at hc
 ·-- makeSlice
  rename_i t X Y ah
  split at hc
  .rename_i el ht
   split at hc
   .rename_i s b z x y h1 h2 h3 h4 h5
    split at hc
    .rename_i aB;simp at hc;subst hc;simp only [step] at hs
     split at hs
     .rename_i k1 p k2 q e1 e2
      split at hs
      .rename_i uU;simp only [Option.some.injEq] at hs;subst hs;obtain ⟨c1,rfl,c3,c4,c5⟩:=uU;exact ⟨ziM hE h4 h5 ht h1 h2 h3 aB.1 aB.2 ah e1 e2 c1 c4 c5,by simp [ah]⟩
      .simp at hs
     .simp at hs
    .simp at hc
   .simp at hc
  .simp at hc
 ·-- slice
  rename_i t X lo hi ah
  split at hc
  .rename_i el x lo' bT ht h1 h2 h3
   cases nQ:zU P el with
   | none=>simp [nQ] at hc
   | some sz =>
    simp [nQ] at hc;subst hc;simp only [step] at hs
    split at hs
    .rename_i e1
     split at hs
     .rename_i h b1
      split at hs
      .rename_i l b2;simp at hs;subst hs;exact ⟨ziQ hE h1 ht nQ h2 h3 ah e1 b1 b2,by simp [ah]⟩
      .simp at hs
     .simp at hs
    .rename_i kk s es e1
     split at hs
     .rename_i qd;subst qd
      split at hs
      .rename_i h b1
       split at hs
       .rename_i l b2;simp at hs;subst hs;exact ⟨ziD hE h1 ht nQ h2 h3 ah e1 b1 b2,by simp [ah]⟩
       .simp at hs
      .simp at hs
     .simp at hs
    .rename_i id s off len e1
     split at hs
     .rename_i qd;subst qd
      split at hs
      .rename_i N hN
       split at hs
       .rename_i h b1
        split at hs
        .rename_i l b2;simp only [Option.some.injEq] at hs;subst hs;exact ⟨ziV hH hE h1 ht nQ h2 h3 ah e1 hN b1 b2,by simp [ah]⟩
        .simp at hs
       .simp at hs
      .simp at hs
     .simp at hs
    .simp at hs
  .rename_i x lo' bT ht h1 h2 h3;simp at hc;subst hc;simp only [step] at hs
   split at hs
   .rename_i s e1
    split at hs
    .rename_i h b1
     split at hs
     .rename_i l b2;simp at hs;subst hs;exact ⟨zm3 hE h1 ht h2 h3 ah e1 b1 b2,by simp [ah]⟩
     .simp at hs
    .simp at hs
   .simp at hs
  .simp at hc
 ·-- slice3
  rename_i t X lo Y Z ah
  split at hc
  .rename_i el x lo' y z ht h1 h2 h3 h4
   cases nQ:zU P el with
   | none=>simp [nQ] at hc
   | some sz =>
    simp [nQ] at hc;subst hc;simp only [step] at hs
    split at hs
    .rename_i len e1
     split at hs
     .rename_i m b0
      split at hs
      .rename_i h b1
       split at hs
       .rename_i l b2;simp only [Option.some.injEq] at hs;subst hs;exact ⟨zmx hE h1 h3 h4 ht nQ h2 ah e1 b0 b1 b2,by simp [ah]⟩
       .simp at hs
      .simp at hs
     .simp at hs
    .simp at hs
  .simp at hc
 ·-- fieldAddr
  rename_i t X i ah
  split at hc
  .rename_i fs x ht h1
   split at hc
   .rename_i f hf
    split at hc
    .rename_i s fE
     split at hc
     .simp at hc
     .rename_i h0;simp at hc;subst hc;simp only [step] at hs
      split at hs
      .rename_i kk cs q e1;simp at hs;subst hs;exact ⟨zfq hE h1 ht hf fE h0 ah (.inl ⟨kk,cs,q,e1,rfl⟩),by simp [ah]⟩
      .rename_i id q e1;simp at hs;subst hs;exact ⟨zfq hE h1 ht hf fE h0 ah (.inr ⟨id,q,e1,rfl⟩),by simp [ah]⟩
      .simp at hs
    .simp at hc
   .simp at hc
  .simp at hc
 ·-- field
  rename_i t X i ah
  split at hc
  .rename_i fs x ht h1
   split at hc
   .rename_i f hf
    split at hc
    .rename_i s g fE hg
     split at hc
     .simp at hc
     .rename_i h0;simp at hc;subst hc;simp only [step] at hs
      split at hs
      .rename_i aB
       cases ho:pF g (((x.eval env).cells.drop f.offset).take s) with
       | none=>simp [ho] at hs
       | some av =>
        simp [ho] at hs;subst hs;exact ⟨zpg hE h1 ht hf fE hg (TT h0) ah (TS aB.1) aB.2 ho,by simp [ah]⟩
      .simp at hs
    .simp at hc
   .simp at hc
  .simp at hc
 ·-- indexAddr
  rename_i t X Y ah
  split at hc
  .rename_i len el x y ht h1 h2
   cases fE:zU P el with
   | none=>simp [fE] at hc
   | some s =>
    simp [fE] at hc;subst hc;simp only [step] at hs
    split at hs
    .rename_i k m e1
     split at hs
     .rename_i h0
      split at hs
      .rename_i aK
       split at hs
       .rename_i kk cs q e2;simp at hs;subst hs;exact ⟨zdI hE h1 h2 ht fE ah e1 h0 aK (.inl ⟨kk,cs,q,e2,rfl⟩),by simp [ah]⟩
       .rename_i id q e2;simp at hs;subst hs;exact ⟨zdI hE h1 h2 ht fE ah e1 h0 aK (.inr ⟨id,q,e2,rfl⟩),by simp [ah]⟩
       .simp at hs
      .simp at hs
     .simp at hs
    .simp at hs
  .rename_i el x y ht h1 h2
   cases fE:zU P el with
   | none=>simp [fE] at hc
   | some s =>
    simp [fE] at hc;subst hc;simp only [step] at hs
    split at hs
    .rename_i k m e1
     split at hs
     .rename_i h0
      split at hs
      .rename_i kk s' es e2
       split at hs
       .rename_i qd;subst qd
        split at hs
        .rename_i K3 e3;simp at hs;subst hs;exact ⟨zd5 hE h1 h2 ht fE ah e1 h0 (.inl ⟨kk,es,K3,e2,e3,rfl⟩),by simp [ah]⟩
        .simp at hs
       .simp at hs
      .rename_i id s' off len e2
       split at hs
       .rename_i aB;obtain ⟨qd,aK⟩:=aB;subst qd;simp at hs;subst hs;exact ⟨zd5 hE h1 h2 ht fE ah e1 h0 (.inr ⟨id,off,len,e2,aK,rfl⟩),by simp [ah]⟩
       .simp at hs
      .simp at hs
     .simp at hs
    .simp at hs
  .simp at hc
 ·-- index
  rename_i t X Y ah
  split at hc
  .rename_i len el x y ht h1 h2
   split at hc
   .rename_i s g fE hg
    split at hc
    .simp at hc
    .rename_i h0;simp at hc;subst hc;simp only [step] at hs
     split at hs
     .rename_i k m e1
      split at hs
      .rename_i aB
       cases ho:pF g (((x.eval env).cells.drop (m.toNat*s)).take s) with
       | none=>simp [ho] at hs
       | some av =>
        simp [ho] at hs;subst hs;exact ⟨zoB hE h1 h2 ht fE hg (TT h0) ah (TS aB.1) e1 aB.2.1 aB.2.2.1 aB.2.2.2 ho,by simp [ah]⟩
      .simp at hs
     .simp at hs
   .simp at hc
  .rename_i x y ht h1 h2;simp at hc;subst hc;simp only [step] at hs
   split at hs
   .rename_i s k m e1 e2
    split at hs
    .rename_i h0
     split at hs
     .rename_i b hb;simp at hs;subst hs;exact ⟨zmP hE h1 h2 ht ah e1 e2 h0 hb,by simp [ah]⟩
     .simp at hs
    .simp at hs
   .simp at hs
  .simp at hc
 ·-- extract
  rename_i X i ah
  cases hx:zB X with
  | none=>simp only [hx,Option.map_none] at hc;(repeat' split at hc)<;>simp at hc
  | some x =>
   have EJ:vo=.extract i x->iJ C S base φ H w e ((execOp a.eval o).run P w)/\∀ c,o.op≠.defer c:=by
    intro h;subst h;simp only [step] at hs
    split at hs
    .rename_i vs e1
     split at hs
     .rename_i v e2;simp at hs;subst hs;exact ⟨TI hE hx ah (.inl ⟨vs,e1,v,e2,rfl⟩),by simp [ah]⟩
     .simp at hs
    .rename_i vs e1
     split at hs
     .rename_i v e2;simp at hs;subst hs;exact ⟨TI hE hx ah (.inr ⟨vs,e1,e2⟩),by simp [ah]⟩
     .simp at hs
    .simp at hs
   simp only [hx,Option.map_some] at hc
   split at hc
   .split at hc
    .simp at hc;subst hc;simp only [step] at hs
     split at hs
     .rename_i vs e1
      split at hs
      .rename_i v e2;simp only [Option.some.injEq] at hs;subst hs;exact ⟨ziz (TI hE hx ah (.inl ⟨vs,e1,v,e2,rfl⟩)),by simp [ah]⟩
      .simp at hs
     .rename_i vs e1
      split at hs
      .rename_i v e2;simp only [Option.some.injEq] at hs;subst hs;exact ⟨ziz (TI hE hx ah (.inr ⟨vs,e1,e2⟩)),by simp [ah]⟩
      .simp at hs
     .simp at hs
    .simp at hc;exact EJ hc.symm
   .simp at hc;exact EJ hc.symm
 ·-- call
  rename_i c ah
  split at hc
  .split at hc
   .simp at hc;exact absurd hc.symm (Wi _ _)
   .simp at hc
  ·-- len
   rename_i iA
   split at hc
   .rename_i X t ha hb
    split at hc
    .rename_i x len el h1 h2;simp at hc;subst hc;simp [step] at hs;subst hs;exact ⟨zls hE h1 h2 ah iA ha hb,by simp [ah]⟩
    .rename_i x h1 h2;simp at hc;subst hc;simp only [step] at hs
     split at hs
     .rename_i s e1;simp only [Option.some.injEq] at hs;subst hs;exact ⟨TJ hE h1 (.inl h2) ah iA ha hb (.inl ⟨h2,s,e1,rfl⟩),by simp [ah]⟩
     .simp at hs
    .rename_i x el h1 h2;simp at hc;subst hc;simp only [step] at hs
     split at hs
     .rename_i e1;simp only [Option.some.injEq] at hs;subst hs;exact ⟨TJ hE h1 (.inr ⟨_,h2⟩) ah iA ha hb (.inr ⟨⟨_,h2⟩,.inl ⟨e1,rfl⟩⟩),by simp [ah]⟩
     .rename_i kk s es e1;simp only [Option.some.injEq] at hs;subst hs;exact ⟨TJ hE h1 (.inr ⟨_,h2⟩) ah iA ha hb (.inr ⟨⟨_,h2⟩,.inr (.inl ⟨kk,s,es,e1,rfl⟩)⟩),by simp [ah]⟩
     .rename_i id s off m e1;simp only [Option.some.injEq] at hs;subst hs;exact ⟨TJ hE h1 (.inr ⟨_,h2⟩) ah iA ha hb (.inr ⟨⟨_,h2⟩,.inr (.inr ⟨id,s,off,e1⟩)⟩),by simp [ah]⟩
     .simp at hs
    .rename_i x kt et h1 h2;simp at hc;subst hc;simp only [step] at hs
     split at hs
     .rename_i id e1
      split at hs
      .rename_i es hg;simp only [Option.some.injEq] at hs;subst hs;exact ⟨zmt hH hE h1 h2 ah iA ha hb e1 hg,by simp [ah]⟩
      .simp at hs
     .simp at hs
    .simp at hc
   .simp at hc
  ·-- cap
   rename_i iA
   split at hc
   .rename_i X t ha hb
    split at hc
    .rename_i x el h1 h2;simp at hc;subst hc;simp only [step] at hs
     split at hs
     .rename_i e1;simp only [Option.some.injEq] at hs;subst hs;exact ⟨zrD hE h1 h2 ah iA ha hb e1,by simp [ah]⟩
     .simp at hs
    .simp at hc
   .simp at hc
  ·-- append
   rename_i iA
   split at hc
   .rename_i X Y t u ha hb
    split at hc
    .rename_i x y el K3 h1 h2 h3 h4
     split at hc
     .rename_i s b s' z h5 h6 h7 h8
      split at hc
      .rename_i aB;simp at hc;subst hc;obtain ⟨c1,rfl,c3,c4⟩:=aB;simp only [step] at hs;exact ⟨znw hH hE h1 h2 ⟨⟨el,K3,h3,h4,h5,h6,z,h8,c3⟩,c1,c4⟩ ah iA ha hb (Wh hH) hs,by simp [ah]⟩
      .simp at hc
     .simp at hc
    .rename_i x y el k0 h1 h2 h3 h4
     split at hc
     .rename_i s b z h5 h6 h7
      split at hc
      .rename_i aB;simp at hc;subst hc;simp only [step] at hs
       split at hs
       .rename_i k n e1 e2
        split at hs
        .rename_i jf
         refine ⟨zl3 hE h1 h2 h3 h4 h5 h6 h7 aB.1 aB.2.1 aB.2.2 ah iA ha hb e1 e2 jf.1 jf.2.2.1 jf.2.2.2 ?_,by simp [ah]⟩
         split at hs
         .rename_i h0;simp at hs;exact .inl ⟨h0,hs.symm⟩
         .rename_i h0;simp only [Option.some.injEq] at hs;exact .inr ⟨h0,hs.symm⟩
        .simp at hs
       .simp at hs
      .simp at hc
     .simp at hc
    .simp at hc
   .simp at hc
  ·-- max
   rename_i iA
   cases hx:vW c.args.toList with
   | none=>simp [hx] at hc
   | some xs =>
    simp [hx] at hc;subst hc;simp only [step] at hs
    split at hs
    .rename_i k p rest e1
     cases hm:Eg true k p rest with
     | none=>simp [hm] at hs
     | some m =>
      simp [hm] at hs;subst hs;exact ⟨zhH (mx:=true) hE hx ah iA e1 hm,by simp [ah]⟩
    .simp at hs
  .rename_i iA
   cases hx:vW c.args.toList with
   | none=>simp [hx] at hc
   | some xs =>
    simp [hx] at hc;subst hc;simp only [step] at hs
    split at hs
    .rename_i k p rest e1
     cases hm:Eg false k p rest with
     | none=>simp [hm] at hs
     | some m =>
      simp [hm] at hs;subst hs;exact ⟨zhH (mx:=false) hE hx ah iA e1 hm,by simp [ah]⟩
    .simp at hs
  ·-- clear
   rename_i iA
   split at hc
   .rename_i X t ha hb
    split at hc
    .rename_i x el h1 h2
     split at hc
     .rename_i s z h3 h4
      split at hc
      .rename_i aB;simp at hc;subst hc;simp only [step] at hs
       refine ⟨zo4 hH hE h1 h2 h3 h4 aB.1 aB.2 ah iA ha hb ?_,by simp [ah]⟩
       split at hs
       .rename_i e1;simp only [Option.some.injEq] at hs;exact .inl ⟨e1,hs.symm⟩
       .rename_i id sz off len e1
        split at hs
        .rename_i hz
         split at hs
         .rename_i ds hg
          split at hs
          .rename_i hle;simp only [Option.some.injEq] at hs;have Wj:sz=s:=by rw [<- hz];exact aB.2
           subst Wj;exact .inr ⟨id,off,len,ds,e1,hg,hle,hs.symm⟩
          .simp at hs
         .simp at hs
        .simp at hs
       .simp at hs
      .simp at hc
     .simp at hc
    .simp at hc
   .simp at hc
  .simp at hc
 ·-- makeMap
  rename_i t ah;simp at hc;subst hc;simp [step] at hs;subst hs;exact ⟨zlx ah,by simp [ah]⟩
 ·-- lookup
  rename_i t M K ok ah
  split at hc
  .rename_i str z m k h1 h2 h3 h4;simp at hc;subst hc;simp only [step] at hs
   split at hs
   .rename_i id key e1 e2
    split at hs
    .rename_i es hg
     split at hs
     .rename_i v hf;simp only [Option.some.injEq] at hs;subst hs;exact ⟨zhI hH hE h1 h2 h3 h4 ah e1 e2 hg hf,by simp [ah]⟩
     .rename_i hf;simp only [Option.some.injEq] at hs;subst hs;exact ⟨zhI hH hE h1 h2 h3 h4 ah e1 e2 hg hf,by simp [ah]⟩
     .simp at hs
    .simp at hs
   .simp at hs
  .simp at hc
 ·-- mapUpdate
  rename_i t M K X ah
  split at hc
  .rename_i str m k x h1 h2 h3 h4;simp at hc;subst hc;simp only [step] at hs
   split at hs
   .rename_i id key v e1 e2 e3
    split at hs
    .rename_i es hg
     split at hs
     .rename_i es' hf;simp only [Option.some.injEq] at hs;subst hs;exact ⟨zia hH hE h1 h2 h3 h4 (.inl ah) e1 e2 e3 hg hf,by simp [ah]⟩
     .simp at hs
    .simp at hs
   .simp at hs
  .simp at hc
 ·-- insert
  rename_i t M K X ah
  split at hc
  .rename_i str m k x h1 h2 h3 h4;simp at hc;subst hc;simp only [step] at hs
   split at hs
   .rename_i id key v e1 e2 e3
    split at hs
    .rename_i es hg
     split at hs
     .rename_i es' hf;simp only [Option.some.injEq] at hs;subst hs;exact ⟨zia hH hE h1 h2 h3 h4 (.inr ah) e1 e2 e3 hg hf,by simp [ah]⟩
     .simp at hs
    .simp at hs
   .simp at hs
  .simp at hc
 .simp at hc
theorem zkC {f:aa} {xs:List aa} (hc:zG P Z o=some (.call f xs)):∃ c g,o.op=.call c/\c.callee=.value g/\zB g=some f/\vW c.args.toList=some xs:=by
 unfold zG at hc
 split at hc
 case h_23 =>
  rename_i c ah
  split at hc
  .rename_i g iA
   split at hc
   .rename_i f' xs' h1 h2;simp at hc;obtain ⟨rfl,rfl⟩:=hc;exact ⟨c,g,ah,iA,h1,h2⟩
   .simp at hc
  all_goals
   exfalso
   revert hc
   (repeat' split)<;>simp
 all_goals
  exfalso
  revert hc
  (repeat' split)<;>simp
theorem uZ {cl:Callee} {vo:jZ} (fe:bz C P cl) (hH:aN C S base φ H w) (hE:aV (aQ S base φ H w) φ w env a) (iK:vo=(zG P Z o).getD .stuck) (hs:step cl env H vo=some e)
  (hK:∀ v w',Ew C S base φ H w e v w'->K (a.put o.dst v) w'):o.wpIn (Fw ro) n P a w K Q:=by
 have hc:zG P Z o=some vo:=by
  cases h:zG P Z o with
  | none =>
   rw [h] at iK;subst iK;simp [step] at hs
  | some v =>
   rw [h] at iK;rw [iK];rfl
 by_cases JF:∃ f xs,vo=.call f xs
 .obtain ⟨f,xs,rfl⟩:=JF;obtain ⟨c,g,ah,iA,h1,h2⟩:=zkC hc;have hf:=zC hE h1;have EG:=Pv hE h2;simp only [step,zD] at hs
  split at hs
  .rename_i g' caps e1;rw [e1] at hf;obtain ⟨vs,hg,hl,hr⟩:=hf.au.jA;exact zje fe hH ah iA hg (az.nD (by simpa using hl) fun i p v hp hv=>hr i p v hp (by simpa using hv)) EG hs hK
  .rename_i g' caps e1;rw [e1] at hf;obtain ⟨vs,hg,hl,hr⟩:=hf.jA;exact zje fe hH ah iA hg (az.pG hl hr) EG hs hK
  .rename_i g' first e1
   rw [e1] at hf;obtain ⟨vs,hg,hl,hr⟩:=hf.au.En;exact zhQ fe hH ah iA hg (az.nD (by simpa using hl) fun i p v hp hv=>hr i p v hp (by simpa using hv)) (caps:=[]) ⟨rfl,fun i p v h=>by simp at h⟩ EG hs hK
  .rename_i id e1;rw [e1] at hf;obtain ⟨b,m,aj,hg⟩:=hf.CE
   split at hs
   .rename_i v H' hy;simp at hs;subst hs;obtain ⟨l,hl,hlen,Aa⟩:=fe.yield _ _ _ _ _ hy (n - 1) S base φ w b m _ aj hH EG;have xW:∀ c,o.op≠.defer c:=by simp [ah]
    refine ⟨fun _ _=>trivial,?_⟩
    have bC:(execOp a.eval o).run P w=.ok (.round b l.fn ((l.params.zip (c.args.toList.map a.eval).toArray).foldl (fun tmps (x:Tmp×Value)=>tmps.setIfInBounds x.1 x.2) l.tmps) l.assign l.body) w:=by
     have Wl:(getObj b).run P w=.ok (.loop l) w:=by
      simp only [getObj,Sem.run,hl]
     have um:(c.args.toList.map a.eval).toArray=c.args.map a.eval:=by apply Array.ext';simp
     simp only [execOp,ah,resolve,iA,hg,Deferred.ofValue,Sem.run_bind,Sem.run_pure,Result.andThen_ok,invoke,Instr.yield,Instr.getLoop,Wl];rw [if_neg (by simp at hlen ⊢;omega)];rw [um];simp
    rw [Oper.semAt_eq _ _ _ xW,bC,Oper.uponIn_round]
    refine ⟨fun hd=>by simp [Fw,Fence.wide] at hd,?_⟩
    have:=RoundIn.mono Aa (R':=fun
     | .returned v,w''=>K (a.put o.dst v) w''
     | .panicked chain,w''=>Q (.panic chain) a w''
     | .outgrown,_=>LetsOut Q) fun e w' ⟨v,φ',he,h1,h2,h3⟩=>by subst he;exact hK v w' ⟨φ',h1,h2,h3⟩
    exact this
   .simp at hs
  .simp at hs
 .have Wi:∀ f xs,vo≠.call f xs:=fun f xs h=>JF ⟨f,xs,h⟩;obtain ⟨h1,h2⟩:=zqe hH hE hc hs Wi;exact zq4 h2 h1 hK
theorem zfK {s:Nat} (hc:zG P Z o=some (.buildSlice s [] [])):∃ t e parts,o.op=.buildSlice t 0 parts/\parts.toList=[]/\P.underlying t=some (.slice e)/\zU P e=some s/\0 < s:=by
 unfold zG at hc
 split at hc
 case h_7 =>
  rename_i t len parts ah
  split at hc
  .rename_i e ht
   split at hc
   .rename_i s' z h1 h2
    split at hc
    .rename_i aB
     cases hp:CG (fun i=>some (i*s',s')) parts.toList with
     | none=>simp [hp] at hc
     | some ps =>
      simp [hp] at hc;obtain ⟨rfl,hz,rfl⟩:=hc;have uY:parts.toList=[]:=by
       cases hl:parts.toList with
       | nil=>rfl
       | cons q qs =>
        obtain ⟨i,x⟩:=q;rw [hl] at hp;simp only [CG] at hp
        revert hp
        (repeat' split)<;>simp
      have hlen:len=0:=by
       rcases Nat.eq_zero_or_pos len with h|h
       .exact h
       .have h9:=aB.2.2;rw [hz (by omega)] at h9;simp at h9;omega
      subst hlen;exact ⟨t,e,parts,ah,uY,ht,h1,aB.1⟩
    .simp at hc
   .simp at hc
  .simp at hc
 all_goals
  exfalso
  revert hc
  (repeat' split)<;>simp
theorem zik {s b:Nat} {x y:aa} (hc:zG P Z o=some (.append s b x y)):∃ c X Y t u,o.op=.call c/\c.callee=.builtin .append/\c.args.toList=[X,Y]/\c.argTypes.toList=[t,u]/\zB X=some x/\zB Y=some y/\EB P t u s b:=by
 unfold zG at hc
 split at hc
 case h_23 =>
  rename_i c ah
  split at hc
  case h_4 =>
   rename_i iA
   split at hc
   .rename_i X Y t u ha hb
    split at hc
    .rename_i x' y' el K3 h1 h2 h3 h4
     split at hc
     .rename_i s1 b1 s' z h5 h6 h7 h8
      split at hc
      .rename_i aB;simp at hc;obtain ⟨rfl,rfl,rfl,rfl⟩:=hc;obtain ⟨c1,rfl,c3,c4⟩:=aB;exact ⟨c,X,Y,t,u,ah,iA,ha,hb,h1,h2,⟨el,K3,h3,h4,h5,h6,z,h8,c3⟩,c1,c4⟩
      .simp at hc
     .simp at hc
    .revert hc
     (repeat' split)<;>simp
    .simp at hc
   .simp at hc
  all_goals
   exfalso
   revert hc
   (repeat' split)<;>simp
 all_goals
  exfalso
  revert hc
  (repeat' split)<;>simp
theorem ziU {t e:TypeId} {parts:Array (Nat×Operand)} {s:Nat} (ah:o.op=.buildSlice t 0 parts) (uY:parts.toList=[]) (ht:P.underlying t=some (.slice e)) (hs:zU P e=some s) (h0:0 < s) :
  iJ C S base φ H w (.new (.cells true []) fun id=>.void id s) ((execOp a.eval o).run P w):=by
 have hp:parts=#[]:=by rw [<- Array.toList_inj,uY]
 subst hp
 refine Py (c:=#[]) (t:=e) (v:=.slice (some ⟨w.heap.size,0,none⟩) 0 0) ?_ (by simp) (fun j a v ha hv=>by simp at ha) fun I' φ' w' id aj=>.void id s _ aj
 simp only [execOp,ah,Instr.buildSlice,Sem.run_bind,zf ht,Result.andThen_ok,zR hs];rw [if_neg (by omega)];have EA:Array.range 0=#[]:=rfl;simp only [Nat.zero_mul,if_true,Sem.run_pure,Result.andThen_ok,Sem.run_bind,EA,Array.map_empty,List.map_toArray,List.map_nil];have hf:∀ f:Nat->Option (Nat×Nat),Instr.fill f #[] []=some #[]:=fun f=>rfl;simp [newRow,hf]
theorem zlX {cl:Callee} (hH:aN C S base φ H w) (hE:aV (aQ S base φ H w) φ w env a) {X Y:Operand} {x y:aa} {t u:TypeId} {s b:Nat} {c:Call} (hx:zB X=some x) (hy:zB Y=some y) (hT:EB P t u s b)
  (ah:o.op=.call c) (hc:c.callee=.builtin .append) (h1:c.args.toList=[X,Y]) (h2:c.argTypes.toList=[t,u]) (h:step cl env H (.jN s b x y)=some e) :
  iJ C S base φ H w e ((execOp a.eval o).run P w):=by
 have sV:=zC hE hx;have xR:=zC hE hy;have nM:=hT.pos;simp only [step] at h
 split at h
 .simp at h
 .rename_i new m ED;obtain ⟨ad,cap',news,f1,f2,f3,f4,f5⟩:=VS hH nM xR ED;have wh:news.length=m*s:=by have:=f2.1;omega
  split at h
  .simp at h
  .rename_i bu;have F9:∀ w':World,(∀ a,ad=some a->∀ (j:Nat) v,news[j]?=some v->w'.cell? (a.add j)=some v)->(Builtin.firstCells s m (.slice ad m cap')).run P w'=.ok news.toArray w':=fun w' rG=>PI wh f4 rG
   split at h
   .rename_i id s' heq;rw [heq] at sV;obtain ⟨bb,aj,hX⟩:=sV.Em
    split at h
    .rename_i qd;subst qd
     split at h
     .rename_i hm;subst hm;simp only [Option.some.injEq] at h;subst h;have BD:news=[]:=List.eq_nil_of_length_eq_zero (by simpa using wh);subst BD
      refine zQ (v:=.slice (some ⟨bb,0,none⟩) (0+0) 0) (EC ah hc h1 h2 (VW hT hX f1 (Nat.le_refl 0) (by rw [f1];exact F9 w f5) rfl)) (.row id s' 0 0 bb 0 0 0 aj (by simp) (Nat.le_refl 0) (by simp))
     .rename_i hm
      split at h
      .rename_i G6;simp only [Option.some.injEq] at h;subst h;have jf:(0+m)*b<=140737488355328:=by rw [Nat.zero_add];have:=G6.2;simp only [zl] at this;omega
       obtain ⟨c',e,cp,g1,g2,g3,rest,g4⟩:=TL (ty:=o.type) (olds:=[]) hT hX f1 (by omega) (Nat.le_refl 0) jf (by rw [hX];exact PI (by simp) (fun h=>rfl) fun a ha j u hu=>by simp at hu) (by rw [f1];exact F9 _ f5) (by simp) wh;have hlen:new.length<=c'.size:=by
        have:c'.toList.length=c'.size:=by simp
        rw [g4] at this;simp at this;have:=f2.1;omega
       refine .inl ⟨_,_,EC ah hc h1 h2 g1,w.heap.size,c'.size,((Below.refl _ w).drew).alloc (Nat.le_refl _) _,Nat.le_refl _,PK w _,?_,fun I' φ' id aj=>?_⟩
       .refine ⟨c',e,(0,0),heap_alloc_new w.drew _,rfl,hlen,fun j _ hj=>by simp at hj,fun j av v ha hv=>?_⟩
        have hj:j < news.length:=by have:=(List.getElem?_eq_some_iff.1 ha).1;have:=f2.1;omega
        rw [<- Array.getElem?_toList,g4,List.nil_append,List.getElem?_append_left hj] at hv;exact aA.mono (w:=w) (fun _ b hb=>⟨hb,Below.heap_alloc w.drew _ b hb.2.1⟩) (fun _ _ h=>h) (f2.2 j av v ha hv)
       .have:(0+m)=m:=by omega
        rw [this] at g2 ⊢;exact .row id s' 0 m _ _ 0 cp aj (by simp) g2 (by simp [g3])
      .simp at h
    .simp at h
   .simp at h
theorem ziJ {s:Nat} {x y:aa} (hc:zG P Z o=some (.store s x y)):∃ t A X,o.op=.store t A X/\zB A=some x/\zB X=some y/\zU P t=some s/\s≠0:=by
 unfold zG at hc
 split at hc
 case h_9 =>
  rename_i t A X ah
  split at hc
  .rename_i s' x' y' h1 h2 h3
   split at hc
   .simp at hc
   .rename_i h0;simp at hc;obtain ⟨rfl,rfl,rfl⟩:=hc;exact ⟨t,A,X,ah,h2,h3,h1,h0⟩
  .simp at hc
 all_goals
  exfalso
  revert hc
  (repeat' split)<;>simp
theorem ziO {r:Result Next} {cs:List AV} {ps:List PV} {s len:Nat} (hH:aN C S base φ H w) (hp:nY cs=some ps) (hl:ps.length=len*s)
  (h:iJ C S base φ H w (.new (.cells true cs) fun id=>.row id s 0 len) r):iJ C S base φ H w (.val (.pure (.slice false s (chunks s len ps)))) r:=by
 have key:∀ v w',Ew C S base φ H w (.new (.cells true cs) fun id=>.row id s 0 len) v w'->Ew C S base φ H w (.val (.pure (.slice false s (chunks s len ps)))) v w':=by
  rintro v w' ⟨b,n,PW,wD,Wm,⟨c,e,fz,hh,Wn,fe,_,hv⟩,hr⟩
  refine ⟨PW,.pure _ _ ?_⟩
  obtain ⟨b',n',cap,aj,DI,sZ,hn⟩:=(hr (fun _ _=>True) (fun _=>some (b,n)) 0 rfl).iq;simp only [Option.some.injEq,Prod.mk.injEq] at aj;obtain ⟨rfl,rfl⟩:=aj;rw [Nat.zero_mul] at DI;subst DI;have sI:=NJ hp;subst sI;have G5:¬ Bo φ H b:=fun ⟨id,m,aj,_⟩=>by have:=(hH.lt _ _ _ aj).2;omega
  have Ab:aQ S base φ H w' false b:=⟨.inr (Nat.le_trans hH.sz wD),Wm,G5⟩
  have Ey:∀ k b,aQ S base φ H w k b->aQ S base φ H w' k b/\w'.heap[b]?=w'.heap[b]?:=fun k b hb =>
   ⟨⟨hb.1,Nat.lt_of_lt_of_le hb.2.1 PW.size,hb.2.2⟩,rfl⟩
  have aS:∀ (i:Nat) e (j:Nat) p,(chunks s len ps)[i]?=some e->e[j]?=some p->ps[i*s+j]?=some p:=fun i e j p he hp=>by
   obtain ⟨hi,rfl⟩:=La s len ps i e he;rw [List.getElem?_take] at hp
   split at hp
   .rw [List.getElem?_drop] at hp;exact hp
   .simp at hp
  have bI:∀ (k:Nat) p,ps[k]?=some p->k < c.size/\bA (aQ S base φ H w') w' p (c.getD k undef):=fun k p hk=>by
   have aK:=(List.getElem?_eq_some_iff.1 hk).1;have uj:k < c.size:=by simp at fe;omega
   refine ⟨uj,?_⟩
   have h1:=hv k (.pure p) c[k] (by simp [hk]) (by simp [uj]);have h2:=h1.au.mono Ey;rw [show c.getD k undef=c[k] from by simp [uj]];exact h2
  refine .slice false s _ b 0 len cap (fun i j=>c.getD (i*s+j) undef) (TQ _ _ _) sZ (fun i e he=>?_) (fun i e j p he hp=>⟨Ab,?_⟩) (fun i e j p he hp=>(bI _ _ (aS i e j p he hp)).2)
  .obtain ⟨hi,rfl⟩:=La s len ps i e he;have h5:(i+1)*s<=len*s:=Nat.mul_le_mul_right s hi;rw [Nat.add_mul,Nat.one_mul] at h5;rw [List.length_take,List.length_drop,hl];omega
  .obtain ⟨hk,_⟩:=bI _ _ (aS i e j p he hp);simp [World.cell?,hh,hk,Nat.add_assoc]
 rcases h with ⟨v,w',h1,h2⟩|⟨w',h1,h2⟩
 .exact .inl ⟨v,w',h1,key _ _ h2⟩
 .exact .inr ⟨w',h1,key _ _ h2⟩
theorem zjA {cl:Callee} {s:Nat} {x y:aa} (hH:aN C S base φ H w) (hE:aV (aQ S base φ H w) φ w env a) (iK:.store s x y=(zG P Z o).getD .stuck) (hs:step cl env H (.bq s x y)=some e) :
  ∃ H2,e=.upd (.aM []) H2/\((∀ w',bY φ H w φ H2 w'->aN C S base φ H2 w'->K (a.put o.dst undef) w')->o.wpIn (Fw ro) n P a w K Q):=by
 have hc:zG P Z o=some (.store s x y):=by
  cases h:zG P Z o with
  | none=>rw [h] at iK;simp at iK
  | some v=>rw [h] at iK;simpa using iK.symm
 obtain ⟨t,A,X,ah,h1,h2,h3,h4⟩:=ziJ hc;simp only [step] at hs
 split at hs
 .rename_i id off uS
  split at hs
  .rename_i z hg
   split at hs
   .rename_i aB;simp only [Option.some.injEq] at hs;subst hs
    refine ⟨_,rfl,fun hK=>?_⟩
    have hb:=zC hE h1;rw [uS] at hb;obtain ⟨b,m,aj,hv⟩:=hb.jP;have hu:=hH.write (o:=.cells true (z.map AV.pure)) (w':=w) aj (by rw [hg];rfl) rfl rfl rfl rfl (fun _ _=>rfl) (by have:=hH.obj _ _ _ aj;rw [hg] at this;exact this);obtain ⟨w',e1,e2,e3⟩:=run_store (P:=P) hu.2 (fun t=>hu.1.uQ (hE t)) h1 h2 h3 h4 ah uS (Jn (hH.nx _ _ aj)) aB.1 aB.2.2.1 aB.2.2.2;have EE:∀ o2,(H.set id (.cells true (z.map AV.pure))).set id o2=H.set id o2:=fun o2=>Heap.ext' rfl fun i=>by
     simp only [Heap.set,upd]
     by_cases hi:i=id<;>simp [hi]
    rw [EE] at e2 e3
    refine ⟨fun _ _=>trivial,?_⟩
    rw [Oper.semAt_eq _ _ _ (by simp [ah]),e1,Oper.uponIn_skip];exact hK w' (hu.1.trans e2) e3
   .simp at hs
  .simp at hs
 .simp at hs
theorem Wp {cl:Callee} {op:jZ} (h:step cl env H op=some e):step cl env H op.plain=some e:=by
 cases op<;>first|exact h|skip
 .simp only [step,jZ.plain] at h ⊢
  split at h
  .split at h
   .exact h
   .simp at h
  .simp at h
 .simp only [step,jZ.plain] at h ⊢
  split at h
  .rename_i v H2 hd
   split at h
   .rw [hd];exact h
   .simp at h
  .simp at h
theorem TU {cl:Callee} {vo:jZ} (fe:bz C P cl) (hH:aN C S base φ H w) (hE:aV (aQ S base φ H w) φ w env a) (iK:vo=Dz Z o.dst ((zG P Z o).getD .stuck)) (hs:step cl env H vo=some e)
  (hK:∀ v w',Ew C S base φ H w e v w'->K (a.put o.dst v) w'):o.wpIn (Fw ro) n P a w K Q:=by
 have Lc:(iJ C S base φ H w e ((execOp a.eval o).run P w)/\∀ c,o.op≠.defer c)->o.wpIn (Fw ro) n P a w K Q:=fun h=>zq4 h.2 h.1 hK;unfold Dz at iK
 split at iK
 .split at iK
  .rename_i s t x hx
   split at iK
   .subst iK;obtain ⟨H2,rfl,hw⟩:=zjA (ro:=ro) (n:=n) (K:=K) (Q:=Q) hH hE hx.symm hs;exact hw fun w' h1 h2=>hK _ w' ⟨φ,h1,h2,.aM [] #[] rfl fun i p v h=>by simp at h⟩
   .split at iK
    .subst iK;exact uZ fe hH hE hx.symm (Wp hs) hK
    .exact uZ fe hH hE (iK.trans hx.symm) hs hK
  .exact uZ fe hH hE iK hs hK
 .split at iK
  .rename_i z hx
   split at iK
   .subst iK;simp only [step,Option.some.injEq] at hs;subst hs;exact uZ (vo:=.alloc z) (e:=.new (.cells true (z.map .pure)) fun id=>.box id 0) fe hH hE hx.symm rfl fun v w' hp=>hK v w' hp
   .exact uZ fe hH hE (iK.trans hx.symm) hs hK
  .rename_i x hx
   refine uZ (vo:=.iw x) fe hH hE hx.symm ?_ hK
   split at iK<;>subst iK<;>exact hs
  .rename_i off x hx
   refine uZ (vo:=.fieldAddr off x) fe hH hE hx.symm ?_ hK
   split at iK<;>subst iK<;>exact hs
  .rename_i g s x hx
   refine uZ (vo:=.load g s x) fe hH hE hx.symm ?_ hK
   split at iK
   .subst iK;exact hs
   .split at iK
    .subst iK;simp only [step] at hs ⊢
     split at hs
     .rename_i k cs off hv
      split at hs
      .rename_i hle;rw [hv];simp only [zS,if_pos hle];exact hs
      .simp at hs
     .simp at hs
    .subst iK;exact hs
  .rename_i s x lo hi hx
   split at iK
   .subst iK
    refine uZ (vo:=.slice s x lo hi) fe hH hE hx.symm ?_ hK
    simp only [step] at hs ⊢
    split at hs
    .rename_i h1;rw [h1];exact hs
    .rename_i h1;rw [h1];exact hs
    .simp at hs
   .exact uZ fe hH hE (iK.trans hx.symm) hs hK
  .rename_i s hx
   split at iK
   .have hc:zG P Z o=some (.buildSlice s [] []):=by
     cases h:zG P Z o with
     | none=>rw [h] at hx;simp at hx
     | some v=>rw [h] at hx;simpa using hx
    obtain ⟨t,e',parts,ah,uY,ht,h1,h2⟩:=zfK hc;subst iK;simp only [step,Option.some.injEq] at hs;subst hs;exact Lc ⟨ziU ah uY ht h1 h2,by simp [ah]⟩
   .exact uZ fe hH hE (iK.trans hx.symm) hs hK
  .rename_i s z ps oL hx
   split at iK
   .have hc:zG P Z o=some (.buildSlice s z ps):=by
     cases h:zG P Z o with
     | none=>rw [h] at hx;simp at hx
     | some v=>rw [h] at hx;simpa using hx
    subst iK;simp only [step] at hs
    split at hs
    .rename_i cs hf
     split at hs
     .rename_i qs hq
      split at hs
      .rename_i hl;simp only [Option.some.injEq] at hs;subst hs;have h9:=zqe (cl:=cl) (e:=.new (.cells true cs) fun id=>.row id s 0 (if s=0 then 0 else cs.length / s)) hH hE hc (by simp only [step,hf]) (fun f xs h=>by simp at h);exact Lc ⟨ziO hH hq hl h9.1,h9.2⟩
      .simp at hs
     .simp at hs
    .simp at hs
   .exact uZ fe hH hE (iK.trans hx.symm) hs hK
  .rename_i s b x y hx
   split at iK
   .have hc:zG P Z o=some (.append s b x y):=by
     cases h:zG P Z o with
     | none=>rw [h] at hx;simp at hx
     | some v=>rw [h] at hx;simpa using hx
    obtain ⟨c,X,Y,t,u,ah,iA,h1,h2,h3,h4,h5⟩:=zik hc;subst iK;exact Lc ⟨zlX hH hE h3 h4 h5 ah iA h1 h2 hs,by simp [ah]⟩
   .exact uZ fe hH hE (iK.trans hx.symm) hs hK
  .rename_i f xs hx
   split at iK
   .subst iK;exact uZ fe hH hE hx.symm (Wp hs) hK
   .exact uZ fe hH hE (iK.trans hx.symm) hs hK
  .rename_i z ps hx
   refine uZ (vo:=.build z ps) fe hH hE hx.symm ?_ hK
   split at iK<;>subst iK<;>exact hs
  .exact uZ fe hH hE iK hs hK
theorem ziT {P:Program} {Z:List Nat} {dst:Option Nat} {o:Oper} {s:Nat} {x y:aa} {ls:List aa} (h:jZ.bP s x y ls=Dz Z dst ((zG P Z o).getD .stuck)):.store s x y=(zG P Z o).getD .stuck:=by
 have key:∀ v,(zG P Z o).getD .stuck=v->jZ.bP s x y ls≠v:=fun v hv he=>by
  subst he
  cases hc:zG P Z o with
  | none=>rw [hc] at hv;simp at hv
  | some u =>
   rw [hc] at hv;simp only [Option.getD_some] at hv;subst hv;unfold zG at hc
   revert hc
   (repeat' split)<;>simp
 unfold Dz at h
 split at h
 .split at h
  .rename_i s' t x' hx
   split at h
   .simp at h
   .split at h
    .simp only [jZ.bP.injEq] at h;obtain ⟨rfl,rfl,rfl,_⟩:=h;exact hx.symm
    .simp at h
  .exact absurd h (key _ rfl)
 .split at h<;>first|(exact absurd h (key _ rfl))|(split at h<;>simp at h;done)|(split at h<;>first|(simp at h;done)|(split at h<;>simp at h;done))
theorem zjS {P:Program} {Z:List Nat} {dst:Option Nat} {o:Oper} {f:aa} {xs ls:List aa} (h:jZ.iR f xs ls=Dz Z dst ((zG P Z o).getD .stuck)):.call f xs=(zG P Z o).getD .stuck:=by
 have key:∀ v,(zG P Z o).getD .stuck=v->jZ.iR f xs ls≠v:=fun v hv he=>by
  subst he
  cases hc:zG P Z o with
  | none=>rw [hc] at hv;simp at hv
  | some u =>
   rw [hc] at hv;simp only [Option.getD_some] at hv;subst hv;unfold zG at hc
   revert hc
   (repeat' split)<;>simp
 unfold Dz at h
 split at h
 .split at h
  .split at h
   .simp at h
   .split at h<;>simp at h
  .exact absurd h (key _ rfl)
 .split at h
  case h_11=>exact absurd h (key _ rfl)
  case h_9 =>
   rename_i f' xs' hx
   split at h
   .simp only [jZ.iR.injEq] at h;obtain ⟨rfl,rfl,_⟩:=h;exact hx.symm
   .simp at h
  all_goals first|(exact absurd h (key _ rfl))|(split at h<;>simp at h;done)|(split at h<;>first|(simp at h;done)|(split at h<;>simp at h;done))
theorem ztu {cl:Callee} {vo:jZ} (fe:bz C P cl) (hH:aN C S base φ H w) (hE:aV (aQ S base φ H w) φ w env a) (iK:vo=Dz Z o.dst ((zG P Z o).getD .stuck)) (hs:step cl env H vo.plain=some e)
  (hK:∀ v w',Ew C S base φ H w e v w'->K (a.put o.dst v) w'):o.wpIn (Fw ro) n P a w K Q:=by
 by_cases hx:∃ s x y ls,vo=.bP s x y ls
 .obtain ⟨s,x,y,ls,rfl⟩:=hx;exact uZ fe hH hE (ziT iK) hs hK
 .by_cases hy:∃ f xs ls,vo=.iR f xs ls
  .obtain ⟨f,xs,ls,rfl⟩:=hy;exact uZ fe hH hE (zjS iK) hs hK
  refine TU fe hH hE iK ?_ hK
  have:vo.plain=vo:=by
   cases vo<;>first|rfl|exact absurd ⟨_,_,_,_,rfl⟩ hx|exact absurd ⟨_,_,_,rfl⟩ hy
  rwa [this] at hs
end
section
variable {env env':Env} {H H':Heap} {cl:Callee}
theorem zt {x:aa} (h:∀ t∈oC x,env t=env' t):x.eval env=x.eval env':=by
 cases x with
 | tmp t=>exact h t (by simp [oC])
 | const p=>rfl
theorem PX {xs:List aa} (h:∀ t∈xs.flatMap oC,env t=env' t):xs.map (fun x=>x.eval env)=xs.map (fun x=>x.eval env') :=
 List.map_congr_left fun x hx=>zt fun t ht=>h t (List.mem_flatMap.2 ⟨x,hx,ht⟩)
theorem TV {ps:List (Nat×Nat×aa)} (h:∀ t∈ps.flatMap (fun p=>oC p.2.2),env t=env' t):sG env ps=sG env' ps :=
 List.map_congr_left fun p hp=>by
  obtain ⟨o,s,x⟩:=p;simp only;rw [zt (x:=x) fun t ht=>h t (List.mem_flatMap.2 ⟨_,hp,ht⟩)]
theorem Hf {n d:Nat} {x:Option aa} (h:∀ t∈(x.map oC).getD [],env t=env' t):bound env n d x=bound env' n d x:=by
 cases x with
 | none=>rfl
 | some x =>
  unfold bound;simp only;rw [zt (x:=x) fun t ht=>h t (by simpa using ht)]
theorem PY {op:jZ} (h:∀ t∈op.reads,env t=env' t):step cl env H op=step cl env' H op:=by
 cases op<;>simp only [jZ.reads] at h<;>simp only [step]
 case iw x=>rw [zt h]
 case pick c a b =>
  rw [zt (x:=c) fun t ht=>h t (by simp [ht]),zt (x:=a) fun t ht=>h t (by simp [ht]),zt (x:=b) fun t ht=>h t (by simp [ht])]
 case box x=>rw [zt h]
 case build z ps=>rw [TV h]
 case buildSlice sz z ps=>rw [TV h]
 case mI sz z ps=>rw [TV h]
 case nL z ps=>rw [TV h]
 case load g s x=>rw [zt h]
 case store s a x=>rw [zt (x:=a) fun t ht=>h t (by simp [ht]),zt (x:=x) fun t ht=>h t (by simp [ht])]
 case nilCheck x=>rw [zt h]
 case bin op d a x=>rw [zt (x:=a) fun t ht=>h t (by simp [ht]),zt (x:=x) fun t ht=>h t (by simp [ht])]
 case mH n s o a x=>rw [zt (x:=a) fun t ht=>h t (by simp [ht]),zt (x:=x) fun t ht=>h t (by simp [ht])]
 case un op x=>rw [zt h]
 case toInt k x=>rw [zt h]
 case qQ x=>rw [zt h]
 case qU x=>rw [zt h]
 case toStr x=>rw [zt h]
 case makeFunc f xs=>rw [PX h]
 case fJ f xs=>rw [PX h]
 case makeSlice s b z a x=>rw [zt (x:=a) fun t ht=>h t (by simp [ht]),zt (x:=x) fun t ht=>h t (by simp [ht])]
 case slice sz x lo hi =>
  have e1:=zt (x:=x) (env:=env) (env':=env') fun t ht=>h t (by simp [ht]);have e2:∀ n d,bound env n d lo=bound env' n d lo:=fun n d=>Hf fun t ht=>h t (by simp [ht]);have e3:∀ n d,bound env n d hi=bound env' n d hi:=fun n d=>Hf fun t ht=>h t (by simp [ht]);simp only [e1,e2,e3]
 case substr x lo hi =>
  have e1:=zt (x:=x) (env:=env) (env':=env') fun t ht=>h t (by simp [ht]);have e2:∀ n d,bound env n d lo=bound env' n d lo:=fun n d=>Hf fun t ht=>h t (by simp [ht]);have e3:∀ n d,bound env n d hi=bound env' n d hi:=fun n d=>Hf fun t ht=>h t (by simp [ht]);simp only [e1,e2,e3]
 case slice3 sz x lo hi mx =>
  have e1:=zt (x:=x) (env:=env) (env':=env') fun t ht=>h t (by simp [ht]);have e2:∀ n d,bound env n d lo=bound env' n d lo:=fun n d=>Hf fun t ht=>h t (by simp [ht]);have e3:∀ n d,bound env n d (some hi)=bound env' n d (some hi):=fun n d=>Hf fun t ht=>h t (by simp at ht;simp [ht]);have e4:∀ n d,bound env n d (some mx)=bound env' n d (some mx):=fun n d=>Hf fun t ht=>h t (by simp at ht;simp [ht]);simp only [e1,e2,e3,e4]
 case Bh x=>rw [zt h]
 case CB x=>rw [zt h]
 case qV s b z a x=>rw [zt (x:=a) fun t ht=>h t (by simp [ht]),zt (x:=x) fun t ht=>h t (by simp [ht])]
 case idle i x=>rw [zt h]
 case vS x=>rw [zt h]
 case jv off x=>rw [zt h]
 case fV g s x=>rw [zt h]
 case rD g s x=>rw [zt h]
 case bP s a x ls =>
  have e3:ls.all (fun l=>beside 0 (l.eval env))=ls.all (fun l=>beside 0 (l.eval env)):=rfl;have e4:∀ id,ls.all (fun l=>beside id (l.eval env))=ls.all (fun l=>beside id (l.eval env')):=fun id=>by
   rw [Bool.eq_iff_iff,List.all_eq_true,List.all_eq_true]
   constructor
   .intro hh l hl;rw [<- zt (x:=l) fun t ht=>h t (by simp only [List.mem_append,List.mem_flatMap];exact .inr ⟨l,hl,ht⟩)];exact hh l hl
   .intro hh l hl;rw [zt (x:=l) fun t ht=>h t (by simp only [List.mem_append,List.mem_flatMap];exact .inr ⟨l,hl,ht⟩)];exact hh l hl
  simp only [e4];rw [zt (x:=a) fun t ht=>h t (by simp [ht]),zt (x:=x) fun t ht=>h t (by simp [ht])]
 case rA sz x lo hi =>
  have e1:=zt (x:=x) (env:=env) (env':=env') fun t ht=>h t (by simp [ht]);have e2:∀ n d,bound env n d lo=bound env' n d lo:=fun n d=>Hf fun t ht=>h t (by simp [ht]);have e3:∀ n d,bound env n d hi=bound env' n d hi:=fun n d=>Hf fun t ht=>h t (by simp [ht]);simp only [e1,e2,e3]
 case jN s b a x=>rw [zt (x:=a) fun t ht=>h t (by simp [ht]),zt (x:=x) fun t ht=>h t (by simp [ht])]
 case bq s a x=>rw [zt (x:=a) fun t ht=>h t (by simp [ht]),zt (x:=x) fun t ht=>h t (by simp [ht])]
 case fieldAddr off x=>rw [zt h]
 case field off s g x=>rw [zt h]
 case indexAddr sz arr x i=>rw [zt (x:=x) fun t ht=>h t (by simp [ht]),zt (x:=i) fun t ht=>h t (by simp [ht])]
 case index sz l g x i=>rw [zt (x:=x) fun t ht=>h t (by simp [ht]),zt (x:=i) fun t ht=>h t (by simp [ht])]
 case byteAt x i=>rw [zt (x:=x) fun t ht=>h t (by simp [ht]),zt (x:=i) fun t ht=>h t (by simp [ht])]
 case extract i x=>rw [zt h]
 case iR f xs ls =>
  have e1:∀ H2,ls.all (fun l=>keeps H H2 (l.eval env))=ls.all (fun l=>keeps H H2 (l.eval env')):=fun H2=>by
   rw [Bool.eq_iff_iff,List.all_eq_true,List.all_eq_true]
   constructor
   .intro hh l hl;rw [<- zt (x:=l) fun t ht=>h t (by simp only [List.mem_append,List.mem_flatMap];exact .inr ⟨l,hl,ht⟩)];exact hh l hl
   .intro hh l hl;rw [zt (x:=l) fun t ht=>h t (by simp only [List.mem_append,List.mem_flatMap];exact .inr ⟨l,hl,ht⟩)];exact hh l hl
  rw [zt (x:=f) fun t ht=>h t (by simp [ht]),PX (xs:=xs) fun t ht=>h t (by simp only [List.mem_append];exact .inl (.inr ht))];simp only [e1]
 case call f xs=>rw [zt (x:=f) fun t ht=>h t (by simp [ht]),PX (xs:=xs) fun t ht=>h t (by simp only [List.mem_append];exact .inr ht)]
 case uP x=>rw [zt h]
 case ug x=>rw [zt h]
 case append s b a x=>rw [zt (x:=a) fun t ht=>h t (by simp [ht]),zt (x:=x) fun t ht=>h t (by simp [ht])]
 case bE m xs=>rw [PX h]
 case clear z x=>rw [zt h]
 case lookup s z ok a x=>rw [zt (x:=a) fun t ht=>h t (by simp [ht]),zt (x:=x) fun t ht=>h t (by simp [ht])]
 case pE s c a b =>
  rw [zt (x:=c) fun t ht=>h t (by simp [ht]),zt (x:=a) fun t ht=>h t (by simp [ht]),zt (x:=b) fun t ht=>h t (by simp [ht])]
 case rC x=>rw [zt h]
def mf (H H':Heap):Prop:=∀ id,H.get id≠.dead->(∀ z,H.get id≠.raw z)->H'.get id=H.get id
theorem mf.cells (h:mf H H') {id:Nat} {b:Bool} {cs:List AV} (hg:H.get id=.cells b cs):H'.get id=.cells b cs:=(h id (by rw [hg];simp) (by rw [hg];simp)).trans hg
theorem mf.iC (h:mf H H') {id:Nat} {es:List (PV×PV)} (hg:H.get id=.iC es):H'.get id=.iC es:=(h id (by rw [hg];simp) (by rw [hg];simp)).trans hg
theorem JG {fr fr':AV->Option (PV×List Nat)} (oz:∀ v r,fr v=some r->fr' v=some r):∀ {cs:List AV} {r:List PV×List Nat},zO fr cs=some r->zO fr' cs=some r
 | [],r,h=>h
 | c::cs,r,h=>by
  unfold zO at h ⊢
  split at h
  .simp at h
  .rename_i p is hp;rw [oz _ _ hp];simp only
   split at h
   .simp at h
   .rename_i qs js hq;rw [JG oz hq];exact h
theorem zmg {k:Bool} (h:mf H H'):∀ (n:Nat) (v:AV) (r:PV×List Nat),freeze H k n v=some r->freeze H' k n v=some r:=by
 intro n
 induction n with
 | zero=>intro v r h;simp [freeze] at h
 | succ n ih =>
  intro v r hf;unfold freeze at hf ⊢
  split at hf
  .exact hf
  .split at hf
   .rename_i e;rw [JG ih e];exact hf
   .simp at hf
  .split at hf
   .rename_i e;rw [JG ih e];exact hf
   .simp at hf
  .split at hf
   .rename_i e;rw [JG ih e];exact hf
   .simp at hf
  .split at hf
   .rename_i hg;rw [h.cells hg];simp only
    split at hf
    .rename_i e;rw [JG ih e];exact hf
    .simp at hf
   .simp at hf
  .split at hf
   .rename_i hg;rw [h.cells hg];simp only
    split at hf
    .rename_i e;rw [JG ih e];exact hf
    .simp at hf
   .simp at hf
  .split at hf
   .rename_i hg;rw [h.cells hg];simp only
    split at hf
    .rename_i e;rw [JG ih e];exact hf
    .simp at hf
   .simp at hf
  .simp at hf
theorem zeI (h:mf H H') {s:Nat} {v:AV} {cs:List AV} (hl:zS H s v=some cs):zS H' s v=some cs:=by
 unfold zS at hl ⊢
 split at hl
 .exact hl
 .split at hl
  .rename_i hg;rw [h.cells hg];exact hl
  .simp at hl
 .simp at hl
theorem Wq (h:mf H H') {s:Nat} {v:AV} {r:List AV×Nat} (hl:zH H s v=some r):zH H' s v=some r:=by
 unfold zH at hl ⊢
 split at hl
 .exact hl
 .exact hl
 .split at hl
  .rename_i hs;rw [if_pos hs]
   split at hl
   .rename_i hg;rw [h.cells hg];exact hl
   .simp at hl
  .simp at hl
 .simp at hl
theorem zjf (h:mf H H') {op:jZ} {e:Eff} (he:qm e=false) (hs:step cl env H op=some e):step cl env H' op=some e:=by
 cases op<;>simp only [step] at hs ⊢
 case load g s x =>
  split at hs
  .rename_i cs hl;rw [zeI h hl];exact hs
  .simp at hs
 case fV g s x =>
  split at hs
  .rename_i cs hl;rw [zeI h hl];exact hs
  .simp at hs
 case store s a x =>
  split at hs
  .split at hs
   .split at hs
    .simp at hs;subst hs;simp [qm] at he
    .simp at hs
   .simp at hs
  .simp at hs
 case iR f xs ls =>
  split at hs
  .split at hs
   .simp at hs;subst hs;simp [qm] at he
   .simp at hs
  .simp at hs
 case bP s a x ls =>
  split at hs
  .split at hs
   .split at hs
    .split at hs
     .simp at hs;subst hs;simp [qm] at he
     .simp at hs
    .simp at hs
   .simp at hs
  .simp at hs
 case slice sz x lo hi =>
  split at hs
  .exact hs
  .exact hs
  .rename_i id s off len hx
   split at hs
   .rename_i qd;rw [if_pos qd]
    split at hs
    .rename_i N hN;have:Jl H' id sz off len=some N:=by
      unfold Jl at hN ⊢
      split at hN
      .rename_i own cs hg;rw [h.cells hg];exact hN
      .simp at hN
     rw [this];exact hs
    .simp at hs
   .simp at hs
  .simp at hs
 case toStr x =>
  split at hs
  .rename_i cs m hl;rw [Wq h hl];exact hs
  .simp at hs
 case call f xs =>
  unfold zD at hs ⊢;have go:∀ (g:Nat) (ys:List AV),(if cl.shared g then
    match cl.run g ys H with
    | some (v,H')=>some (.upd v H')
    | none=>none
   else
    match zO (freeze H true nZ) ys with
    | none=>none
    | some (ps,ids) =>
     match cl.pure g ps with
     | none=>none
     | some r=>if ids.isEmpty||r.cold then some (.val (.pure r)) else some (.upd (.pure r) (H.freeze ids)):Option Eff)=some e ->
    (if cl.shared g then
    match cl.run g ys H' with
    | some (v,H')=>some (.upd v H')
    | none=>none
   else
    match zO (freeze H' true nZ) ys with
    | none=>none
    | some (ps,ids) =>
     match cl.pure g ps with
     | none=>none
     | some r=>if ids.isEmpty||r.cold then some (.val (.pure r)) else some (.upd (.pure r) (H'.freeze ids)):Option Eff)=some e:=by
   intro g ys hg
   split at hg
   .split at hg
    .simp at hg;subst hg;simp [qm] at he
    .simp at hg
   .rename_i hsh;rw [if_neg hsh]
    split at hg
    .simp at hg
    .rename_i ps ids hf;rw [JG (zmg h nZ) hf];simp only
     split at hg
     .simp at hg
     .rename_i r hr
      split at hg
      .rename_i hc;rw [if_pos hc];exact hg
      .simp at hg;subst hg;simp [qm] at he
  split at hs
  .exact go _ _ hs
  .exact go _ _ hs
  .exact go _ _ hs
  .split at hs
   .simp at hs;subst hs;simp [qm] at he
   .simp at hs
  .simp at hs
 case bq s a x =>
  split at hs
  .split at hs
   .split at hs
    .simp at hs;subst hs;simp [qm] at he
    .simp at hs
   .simp at hs
  .simp at hs
 case jN s b a x =>
  split at hs
  .simp at hs
  .rename_i new m hl;rw [Wq h hl];exact hs
 case append s b a x =>
  unfold zk at hs ⊢
  split at hs
  .simp at hs
  .rename_i new m hl;rw [Wq h hl];simp only
   split at hs
   .simp at hs
   .rename_i bu;rw [if_neg bu]
    split at hs
    .exact hs
    .split at hs
     .split at hs
      .split at hs
       .simp at hs;subst hs;simp [qm] at he
       .split at hs
        .simp at hs;subst hs;simp [qm] at he
        .simp at hs
      .simp at hs
     .simp at hs
    .split at hs
     .rename_i nE;rw [if_pos nE]
      split at hs
      .rename_i xQ;rw [if_pos xQ];exact hs
      .rename_i xQ;rw [if_neg xQ]
       split at hs
       .rename_i hg;rw [h.cells hg];exact hs
       .simp at hs
     .simp at hs
    .simp at hs
 case clear z x =>
  split at hs
  .exact hs
  .split at hs
   .split at hs
    .split at hs
     .simp at hs;subst hs;simp [qm] at he
     .simp at hs
    .simp at hs
   .simp at hs
  .simp at hs
 case lookup s z ok m k =>
  split at hs
  .rename_i id key e1 e2
   split at hs
   .rename_i es hg;simp only [h.iC hg];exact hs
   .simp at hs
  .simp at hs
 case pE s m k x =>
  split at hs
  .split at hs
   .split at hs
    .simp at hs;subst hs;simp [qm] at he
    .simp at hs
   .simp at hs
  .simp at hs
 case rC x =>
  split at hs
  .rename_i id e1
   split at hs
   .rename_i es hg;simp only [h.iC hg];exact hs
   .simp at hs
  .simp at hs
 all_goals exact hs
end
abbrev EK (r:Nat):Deferred:={ target:=.collected r,args:=#[] }
structure R (C:iT) (S:Bool->Nat->Prop) (base lo nt:Nat) (φ:iX) (H:Heap) (env:Env) (a:Act) (w:World):Prop where
 heap:aN C S base φ H w
 env:aV (aQ S base φ H w) φ w env a
 size:a.tmps.size=nt
 tu:lo<=w.heap.size
 defs:∃ marks:List Nat,a.defers=marks.map EK/\marks.Nodup/\∀ r∈marks,lo<=r/\w.heap[r]?=some (.deferred (some []))
section
variable {C:iT} {P:Program} {Z:List Nat} {S:Bool->Nat->Prop} {base lo nt:Nat} {φ φ':iX} {H H':Heap} {w w':World} {env env':Env} {a:Act} {e:Eff} {o:Oper}
variable {ro:Option Nat} {n:Nat} {K:Act->World->Prop} {Q:Exit->Act->World->Prop}
theorem zgt (hH:aN C S base φ H w) {r:Nat} {x:Option (List Deferred)} (h:w.heap[r]?=some (.deferred x)):¬ Bo φ H r:=by
 rintro ⟨id,m,aj,hl⟩;have ho:=hH.obj _ _ _ aj
 cases hg:H.get id with
 | dead=>rw [hg] at hl;simp [aR.live] at hl
 | cells own cs =>
  rw [hg] at ho;obtain ⟨c,t,fz,h1,_⟩:=ho;rw [h] at h1;simp at h1
 | raw z =>
  rw [hg] at ho;obtain ⟨c,t,fz,h1,_⟩:=ho;rw [h] at h1;simp at h1
 | iC es =>
  rw [hg] at ho;obtain ⟨ms,ck,h1,_⟩:=ho;rw [h] at h1;simp at h1
 | loop l =>
  rw [hg] at ho;obtain ⟨l',h1,_⟩:=ho;rw [h] at h1;simp at h1
theorem NR (hH:aN C S base φ H w) (j4:bY φ H w φ' H' w') {ds:List Deferred} (h:∃ marks:List Nat,ds=marks.map EK/\marks.Nodup/\∀ r∈marks,lo<=r/\w.heap[r]?=some (.deferred (some []))) :
  ∃ marks:List Nat,ds=marks.map EK/\marks.Nodup/\∀ r∈marks,lo<=r/\w'.heap[r]?=some (.deferred (some [])):=by
 obtain ⟨marks,h1,h2,h3⟩:=h
 refine ⟨marks,h1,h2,fun r hr=>?_⟩
 obtain ⟨h4,h5⟩:=h3 r hr;have aK:r < w.heap.size:=by
  rcases Nat.lt_or_ge r w.heap.size with h|h
  .exact h
  .rw [Array.getElem?_eq_none h] at h5;simp at h5
 exact ⟨h4,(j4.same r aK (zgt hH h5)).trans h5⟩
theorem zkQ {d:Option Nat} {v:Value} (hd:∀ i,d=some i->i < a.tmps.size) (t:Nat):(a.put d v).tmps.getD t undef=if d=some t then v else a.tmps.getD t undef:=by
 cases d with
 | none=>simp [Act.put]
 | some i =>
  have hi:=hd i rfl;simp only [Act.put]
  by_cases h:i=t
  .subst h;simp [hi]
  .simp [h]
theorem zkI {d:Option Nat} {v:Value}:(a.put d v).tmps.size=a.tmps.size:=by cases d<;>simp [Act.put]
theorem zg7 {d:Option Nat} {v:Value}:(a.put d v).defers=a.defers:=by cases d<;>rfl
theorem R.put (h:R C S base lo nt φ H env a w) (j4:bY φ H w φ' H' w') (hH:aN C S base φ' H' w') {d:Option Nat} {av:AV} {v:Value} (hd:∀ i,d=some i->i < nt) (hv:aA (aQ S base φ' H' w') φ' w' av v) :
  R C S base lo nt φ' H' (mY env d av) (a.put d v) w':=by
 refine ⟨hH,fun t=>?_,by rw [zkI];exact h.size,Nat.le_trans h.tu j4.size,?_⟩
 .rw [zkQ (by rw [h.size];exact hd)]
  by_cases ht:d=some t
  .subst ht;simp [mY,upd];exact hv
  .rw [if_neg ht];have e:mY env d av t=env t:=by
    cases d with
    | none=>rfl
    | some i=>simp only [mY,upd];rw [if_neg (fun e=>ht (by rw [e]))]
   rw [e];exact j4.uQ (h.env t)
 .rw [zg7];exact NR h.heap j4 h.defs
theorem R.after (h:R C S base lo nt φ H env a w) {d:Option Nat} {v:Value} (hd:∀ i,d=some i->i < nt) (hp:Ew C S base φ H w e v w') :
  ∃ φ',bY φ H w φ' (apply H e).2 w'/\R C S base lo nt φ' (apply H e).2 (mY env d (apply H e).1) (a.put d v) w':=by
 cases e with
 | val av =>
  obtain ⟨h1,h2⟩:=hp;exact ⟨φ,bY.of_below h1,h.put (bY.of_below h1) (h.heap.below h1) hd h2⟩
 | new ob f =>
  obtain ⟨b,m,h1,h2,h3,h4,h5⟩:=hp;have:=h.heap.new (H':=H.alloc ob) (id:=H.nx) h1 (Wh h.heap) KT (fun i hi _=>Jm hi) (Nat.lt_succ_self _) (Nat.le_succ _) h2 h3 h4;exact ⟨_,this.1,h.put this.1 this.2 hd (h5 _ _ _ (yx _ _))⟩
 | upd av H1 =>
  obtain ⟨φ',h1,h2,h3⟩:=hp;exact ⟨φ',h1,h.put h1 h2 hd h3⟩
theorem PZ {I:Bool->Nat->Prop}:aA I φ w (.aM []) undef:=.aM [] #[] rfl fun i p v h=>by simp at h
theorem JH {I:Bool->Nat->Prop} (hE:aV I φ w env a) {ops:Array Oper} {g:Option (Nat×Bool)} {g':Option (Option Nat×Bool)} (hg:Tz ops g=some g') {b:Bool} (hw:wanted env g'=some b) (qX:o.guard=g) :
  Region.wanted o (yielded ops a.tmps)=b:=by
 unfold Tz at hg
 split at hg
 .simp at hg;subst hg;simp [wanted] at hw;subst hw;simp [Region.wanted,qX]
 .rename_i j want
  split at hg
  .rename_i oj hj
   split at hg
   .rename_i d hd;simp at hg;subst hg;simp only [wanted] at hw;have hv:=hE d;simp only [Region.wanted,qX,yielded,hj,Option.bind_some,hd]
    split at hw
    .rename_i x e1;rw [e1] at hv;simp at hw;subst hw;have:=hv.fM;have aK:d < a.tmps.size:=by
      rcases Nat.lt_or_ge d a.tmps.size with h|h
      .exact h
      .simp [Array.getElem?_eq_none h,undef] at this
     have:a.tmps[d]?=some (.bool x):=by simpa [aK] using this
     rw [this];rfl
    .rename_i e1;rw [e1] at hv;simp at hw;subst hw;obtain ⟨vs,e2,e3,_⟩:=hv.qW;have yU:vs=#[]:=Array.eq_empty_of_size_eq_zero (by simpa using e3.symm);subst yU;rcases Nat.lt_or_ge d a.tmps.size with h|h
     .have:a.tmps[d]?=some (.tuple #[]):=by simpa [h] using e2
      rw [this];rfl
     .simp [Array.getElem?_eq_none h]
    .simp at hw
   .simp at hg
  .simp at hg
theorem Ws {ops:Array Oper} {v:ae} (h:TA P Z nt ops o=some v):v.op=Dz Z o.dst ((zG P Z o).getD .stuck)/\Tz ops o.guard=some v.guard/\v.dst=o.dst/\∀ i,o.dst=some i->i < nt:=by
 unfold TA at h
 split at h
 .rename_i g' h2
  split at h
  .rename_i d hd
   split at h
   .rename_i aK;simp at h;subst h;exact ⟨by rw [hd],h2,hd.symm,fun i hi=>by rw [hd] at hi;simp at hi;rw [<- hi];exact aK⟩
   .simp at h
  .rename_i hd;simp at h;subst h;exact ⟨by rw [hd],h2,hd.symm,fun i hi=>by rw [hd] at hi;simp at hi⟩
 .simp at h
theorem znq {cl:Callee} (fe:bz C P cl) {ops:Array Oper}:∀ (l:List Oper) (vs:List ae) (k:Nat) (env:Env) (H:Heap) (φ:iX) (a:Act) (w:World) (env':Env) (H':Heap),
  (∀ j,l[j]?=ops[k+j]?)->yH P Z nt ops l=some vs->zY cl 0 vs env H=some (env',H')->R C S base lo nt φ H env a w ->
  (∀ φ' a' w',bY φ H w φ' H' w'->R C S base lo nt φ' H' env' a' w'->Q .normal a' w')->wpOpsIn (Fw ro) n P ops Q (List.range' k l.length) a w:=by
 intro l
 induction l with
 | nil =>
  intro vs k env H φ a w env' H' hl hc hr hR hQ;simp [yH] at hc;subst hc;simp [zY] at hr;obtain ⟨rfl,rfl⟩:=hr;simp only [List.length_nil,List.range'_zero,wpOpsIn];exact hQ φ a w bY.refl hR
 | cons o l ih =>
  intro vs k env H φ a w env' H' hl hc hr hR hQ;unfold yH at hc
  split at hc
  .simp at hc
  .rename_i v hv
   split at hc
   .simp at hc
   .rename_i vs' nG;simp at hc;subst hc;obtain ⟨p1,p2,p3,p4⟩:=Ws hv;have h0:ops[k]?=some o:=by simpa using (hl 0).symm
    have TW:∀ j,l[j]?=ops[k+1+j]?:=fun j=>by have:=hl (j+1);simpa [Nat.add_assoc,Nat.add_comm 1 j] using this
    unfold zY at hr
    split at hr
    .simp at hr
    .rename_i hw;have oW:=JH hR.env p2 hw rfl;simp only [List.length_cons,List.range'_succ,wpOpsIn,h0,oW,Bool.false_eq_true,if_false]
     refine ⟨fun _ _=>trivial,?_⟩
     have qh:=hR.put bY.refl hR.heap (d:=o.dst) p4 (PZ (φ:=φ) (w:=w));rw [p3] at hr;exact ih _ _ _ _ _ _ _ _ _ TW nG hr qh hQ
    .rename_i hw;have oW:=JH hR.env p2 hw rfl;simp only [List.length_cons,List.range'_succ,wpOpsIn,h0,oW,if_true]
     split at hr
     .simp at hr
     .rename_i e he
      split at hr
      .rename_i hc;exact absurd rfl hc.1
      .refine TU fe hR.heap hR.env p1 he fun v w' hp=>?_
       obtain ⟨φ',h1,h2⟩:=hR.after (d:=o.dst) p4 hp;rw [p3] at hr;exact ih _ _ _ _ _ _ _ _ _ TW nG hr h2 fun φ'' a' w'' h3 h4=>hQ φ'' a' w'' (h1.trans h3) h4
structure Sol (cl:Callee) (vs:List ae) (pre:Nat) (env:Env) (H:Heap) (aO:Env) (Hp:Heap) (ids:Nat->Nat):Prop where
 ext:mf H Hp
 nx:H.nx<=Hp.nx
 keep:∀ id,id < H.nx->Hp.get id=H.get id
 old:∀ t,(∀ (i:Nat) (v:ae),i < pre->vs[i]?=some v->v.dst≠some t)->aO t=env t
 Hg:∀ i,i < pre->H.nx<=ids i
 EL:∀ i j,i < pre->j < pre->(∃ v o f,vs[i]?=some v/\step cl aO Hp v.op=some (.new o f)/\wanted aO v.guard=some true)->(∃ v o f,vs[j]?=some v/\step cl aO Hp v.op=some (.new o f)/\wanted aO v.guard=some true)->ids i=ids j->i=j
 each:∀ (i:Nat) (v:ae),i < pre->vs[i]?=some v->(wanted aO v.guard=some false/\(∀ d,v.dst=some d->aO d=.aM [])) \/
  (wanted aO v.guard=some true/\∃ e,step cl aO Hp v.op=some e/\qm e=false /\
   (match e with
    | .val av=>∀ d,v.dst=some d->aO d=av
    | .new o f=>ids i < Hp.nx/\Hp.get (ids i)=o/\∀ d,v.dst=some d->aO d=f (ids i)
    | .upd _ _=>False))
theorem zja:mf H H:=fun _ _ _=>rfl
theorem znC {H1 H2 H3:Heap} (h:mf H1 H2) (k:mf H2 H3):mf H1 H3:=fun id aj hr=>(k id (by rw [h id aj hr];exact aj) (by rw [h id aj hr];exact hr)).trans (h id aj hr)
theorem zna (o:aR):mf H (H.alloc o):=fun id aj _=>Jm (fun e=>by
 subst e;exact absurd (O5 aj) (Nat.lt_irrefl _))
theorem Wt (cl:Callee) (pre:Nat) (v:ae) (vs:List ae) (env:Env) (H:Heap):zY cl pre (v::vs) env H=match wanted env v.guard with
  | none=>none
  | some false=>zY cl (pre - 1) vs (mY env v.dst (.aM [])) H
  | some true=>match step cl env H v.op with
   | none=>none
   | some e=>if pre≠0/\qm e then none else zY cl (pre - 1) vs (mY env v.dst (apply H e).1) (apply H e).2:=rfl
theorem Wu (cl:Callee):∀ (pre:Nat) (vs:List ae) (env:Env) (H:Heap) (r:Env×Heap),pre<=vs.length->zY cl pre vs env H=some r ->
  ∃ aO Hp,zY cl pre (vs.take pre) env H=some (aO,Hp)/\zY cl 0 (vs.drop pre) aO Hp=some r
 | 0,vs,env,H,r,hl,h=>⟨env,H,by simp [zY],by simpa using h⟩
 | pre+1,[],env,H,r,hl,h=>by simp at hl
 | pre+1,v::vs,env,H,r,hl,h=>by
  simp only [List.take_succ_cons,List.drop_succ_cons,Wt] at h ⊢
  split at h
  .simp at h
  .exact Wu cl pre vs _ _ r (by simpa using hl) h
  .split at h
   .simp at h
   .split at h
    .simp at h
    .rename_i hc;rw [if_neg hc];exact Wu cl pre vs _ _ r (by simpa using hl) h
def Once (vs:List ae):Prop:=∀ (i j:Nat) (a b:ae),vs[i]?=some a->vs[j]?=some b->∀ d,b.dst=some d->(i≠j->a.dst≠some d)/\(d∈a.reads->j < i)
theorem Once.tail {v:ae} {vs:List ae} (h:Once (v::vs)):Once vs:=fun i j a b ha hb d hd=>by
 have:=h (i+1) (j+1) a b (by simpa using ha) (by simpa using hb) d hd;exact ⟨fun EM=>this.1 (fun e=>EM (Nat.succ.inj e)),fun hm=>by have:=this.2 hm;omega⟩
theorem NS {v:ae} {env env':Env} (h:∀ t∈v.reads,env t=env' t):wanted env v.guard=wanted env' v.guard:=by
 obtain ⟨dst,op,g⟩:=v
 cases g with
 | none=>rfl
 | some g =>
  obtain ⟨d,want⟩:=g
  cases d with
  | none=>rfl
  | some d =>
   simp only [wanted];rw [h d (by simp [ae.reads])]
theorem Wv (cl:Callee):∀ (vs:List ae) (env:Env) (H:Heap) (aO:Env) (Hp:Heap) (pre:Nat),vs.length<=pre->Once vs->zY cl pre vs env H=some (aO,Hp)->∃ ids,Sol cl vs vs.length env H aO Hp ids
 | [],env,H,aO,Hp,pre,hl,ho,h=>by
  simp [zY] at h;obtain ⟨rfl,rfl⟩:=h;exact ⟨fun _=>H.nx,⟨zja,Nat.le_refl _,fun _ _=>rfl,fun _ _=>rfl,fun i hi=>by simp at hi,fun i j hi=>by simp at hi,fun i v hi=>by simp at hi⟩⟩
 | v::vs,env,H,aO,Hp,pre,hl,ho,h=>by
  simp only [List.length_cons] at hl;have rJ:pre≠0:=by omega
  -- slots: what this one reads and writes is not written any more
  have JI:∀ t∈v.reads,∀ (j:Nat) b,vs[j]?=some b->b.dst≠some t:=fun t ht j b hb hd=>by
   have:=(ho 0 (j+1) v b rfl (by simpa using hb) t hd).2 ht;omega
  have Hl:∀ d,v.dst=some d->∀ (j:Nat) b,vs[j]?=some b->b.dst≠some d:=fun d hd j b hb oJ=>by
   have:=(ho 0 (j+1) v b rfl (by simpa using hb) d oJ).1 (by omega);exact this hd
  have Bt:∀ d,v.dst=some d->d ∉ v.reads:=fun d hd hm=>by
   have:=(ho 0 0 v v rfl rfl d hd).2 hm;omega
  rw [Wt] at h
  split at h
  .simp at h
  .rename_i hw;obtain ⟨ids,hs⟩:=Wv cl vs _ _ _ _ (pre - 1) (by omega) ho.tail h;have hold:∀ t∈v.reads,aO t=env t:=fun t ht=>by
    rw [hs.old t fun i b hi hb=>JI t ht i b hb]
    cases hd:v.dst with
    | none=>rfl
    | some d=>simp only [mY,upd];rw [if_neg (fun (e:t=d)=>Bt d hd (e ▸ ht))]
   have oW:wanted aO v.guard=some false:=by rw [NS hold];exact hw
   refine ⟨fun i=>match i with|0=>H.nx|i+1=>ids i,⟨hs.ext,hs.nx,hs.keep,fun t ht=>?_,fun i hi=>?_,fun i j hi hj jX vK EM=>?_,fun i b hi hb=>?_⟩⟩
   .rw [hs.old t fun i b hi hb=>ht (i+1) b (by simp;omega) (by simpa using hb)];have:=ht 0 v (by simp) rfl
    cases hd:v.dst with
    | none=>rfl
    | some d=>simp only [mY,upd];rw [if_neg (fun e=>this (by rw [hd,e]))]
   .cases i with
    | zero=>exact Nat.le_refl _
    | succ i=>exact hs.Hg i (by simpa using hi)
   .cases i with
    | zero=>obtain ⟨b,o,f,e1,_,e3⟩:=jX;simp at e1;subst e1;rw [oW] at e3;simp at e3
    | succ i =>
     cases j with
     | zero=>obtain ⟨b,o,f,e1,_,e3⟩:=vK;simp at e1;subst e1;rw [oW] at e3;simp at e3
     | succ j=>rw [hs.EL i j (by simpa using hi) (by simpa using hj) (by simpa using jX) (by simpa using vK) EM]
   .cases i with
    | zero =>
     simp at hb;subst hb
     refine .inl ⟨oW,fun d hd=>?_⟩
     rw [hs.old d fun i b hi hb=>Hl d hd i b hb,hd];simp [mY,upd]
    | succ i =>
     simp only [List.length_cons] at hi;exact hs.each i b (by omega) (by simpa using hb)
  .rename_i hw
   split at h
   .simp at h
   .rename_i e he
    split at h
    .simp at h
    .rename_i aB;have Ld:qm e=false:=by
      cases hb:qm e with
      | false=>rfl
      | true=>exact absurd ⟨rJ,hb⟩ aB
     obtain ⟨ids,hs⟩:=Wv cl vs _ _ _ _ (pre - 1) (by omega) ho.tail h;have hold:∀ t∈v.reads,aO t=env t:=fun t ht=>by
      rw [hs.old t fun i b hi hb=>JI t ht i b hb]
      cases hd:v.dst with
      | none=>rfl
      | some d=>simp only [mY,upd];rw [if_neg (fun (e:t=d)=>Bt d hd (e ▸ ht))]
     have oW:wanted aO v.guard=some true:=by rw [NS hold];exact hw
     have wE:mf H (apply H e).2/\H.nx<=(apply H e).2.nx:=by
      cases e with
      | val av=>exact ⟨zja,Nat.le_refl _⟩
      | new o f=>exact ⟨zna o,Nat.le_succ _⟩
      | upd av H'=>simp [qm] at Ld
     have JJ:=znC wE.1 hs.ext;have uo:∀ id,id < H.nx->(apply H e).2.get id=H.get id:=fun id aj=>by
      cases e with
      | val av=>rfl
      | new o f=>exact Jm (by omega)
      | upd av H'=>simp [qm] at Ld
     have Gh:step cl aO Hp v.op=some e:=by
      refine zjf JJ Ld ?_
      rw [PY (env':=env) fun t ht=>hold t (by simp [ae.reads,ht])];exact he
     have lq:∀ d,v.dst=some d->aO d=(apply H e).1:=fun d hd=>by
      rw [hs.old d fun i b hi hb=>Hl d hd i b hb,hd];simp [mY,upd]
     refine ⟨fun i=>match i with|0=>H.nx|i+1=>ids i,⟨JJ,Nat.le_trans wE.2 hs.nx,fun id aj=>(hs.keep id (Nat.lt_of_lt_of_le aj wE.2)).trans (uo id aj),fun t ht=>?_,fun i hi=>?_,fun i j hi hj jX vK EM=>?_,fun i b hi hb=>?_⟩⟩
     .rw [hs.old t fun i b hi hb=>ht (i+1) b (by simp;omega) (by simpa using hb)];have:=ht 0 v (by simp) rfl
      cases hd:v.dst with
      | none=>rfl
      | some d=>simp only [mY,upd];rw [if_neg (fun e=>this (by rw [hd,e]))]
     .cases i with
      | zero=>exact Nat.le_refl _
      | succ i=>exact Nat.le_trans wE.2 (hs.Hg i (by simpa using hi))
     ·-- a fresh name is not given again
      have first:∀ j,j < vs.length->(∃ b o f,(v::vs)[0]?=some b/\step cl aO Hp b.op=some (.new o f)/\wanted aO b.guard=some true)->H.nx≠ids j:=by
       rintro j hj ⟨b,o,f,e1,e2,_⟩;simp at e1;subst e1;rw [Gh] at e2;simp at e2;subst e2;have h1:=hs.Hg j hj;have h2:(apply H (.new o f)).2.nx=H.nx+1:=rfl;omega
      cases i with
      | zero =>
       cases j with
       | zero=>rfl
       | succ j=>exact absurd EM (first j (by simpa using hj) jX)
      | succ i =>
       cases j with
       | zero=>exact absurd EM.symm (first i (by simpa using hi) vK)
       | succ j=>rw [hs.EL i j (by simpa using hi) (by simpa using hj) (by simpa using jX) (by simpa using vK) EM]
     .cases i with
      | zero =>
       simp at hb;subst hb
       refine .inr ⟨oW,e,Gh,Ld,?_⟩
       cases e with
       | val av=>exact lq
       | new o f =>
        refine ⟨Nat.lt_of_lt_of_le (Nat.lt_succ_self _) hs.nx,?_,lq⟩
        have h1:(H.alloc o).get H.nx=o:=KT;have h2:=hs.keep H.nx (Nat.lt_succ_self _);exact h2.trans h1
       | upd av H'=>simp [qm] at Ld
      | succ i =>
       simp only [List.length_cons] at hi;exact hs.each i b (by omega) (by simpa using hb)
end
theorem zhK {p q:Nat->Bool} {i:Nat} (hi:p i=true) (hq:∀ j,q j=if j=i then false else p j):∀ n,i < n->(List.range n).countP p=(List.range n).countP q+1
 | 0,h=>by omega
 | n+1,h=>by
  rw [List.range_succ,List.countP_append,List.countP_append]
  by_cases hn:n=i
  .subst hn;have:(List.range n).countP p=(List.range n).countP q:=by
    apply List.countP_congr;intro j hj;have:j≠n:=by have:=List.mem_range.1 hj;omega
    rw [hq,if_neg this]
   rw [this];simp [hi,hq]
  .rw [zhK hi hq n (by omega)];have:q n=p n:=by rw [hq,if_neg hn]
   simp only [List.countP_cons,List.countP_nil,this];omega
section
variable {C:iT} {P:Program} {Z:List Nat} {S:Bool->Nat->Prop} {base lo nt:Nat} {φ φ' φ0:iX} {H H':Heap} {w w' w0:World} {env env' aO:Env} {a:Act} {e:Eff} {o:Oper} {Hp:Heap}
variable {ro:Option Nat} {n:Nat} {K:Act->World->Prop} {Q:Exit->Act->World->Prop}
theorem P5 {ops:Array Oper}:∀ {l:List Oper} {vs:List ae},yH P Z nt ops l=some vs->vs.length=l.length/\∀ (i:Nat) v,vs[i]?=some v->∃ o,l[i]?=some o/\TA P Z nt ops o=some v
 | [],vs,h=>by simp [yH] at h;subst h;exact ⟨rfl,fun i v h=>by simp at h⟩
 | o::l,vs,h=>by
  unfold yH at h
  split at h
  .simp at h
  .rename_i v hv
   split at h
   .simp at h
   .rename_i vs' nG;simp at h;subst h;have ih:=P5 nG
    refine ⟨by simp [ih.1],fun i u hu=>?_⟩
    cases i with
    | zero=>simp at hu;subst hu;exact ⟨o,rfl,hv⟩
    | succ i=>simp at hu;simpa using ih.2 i u hu
inductive jC (ops:Array Oper):Nat->Nat->Prop
 | edge (i:Nat) (o:Oper) (e:Edge) (h:ops[i]?=some o) (he:e∈o.after) (hb:Region.binds .any e=true):jC ops i e.on
 | trans (i j:Nat) (o:Oper) (e:Edge) (h:ops[i]?=some o) (he:e∈o.after) (hb:Region.binds .any e=true) (ht:jC ops e.on j):jC ops i j
theorem jC.done {ops:Array Oper} {L:Array Bool} (hc:∀ i o,ops[i]?=some o->L.getD i true=true->∀ e∈o.after,Region.binds .any e=true->L.getD e.on true=true)
  {i j:Nat} (h:jC ops i j):(∀ o,ops[i]?=some o->∀ e∈o.after,Region.binds .any e=true->L.getD e.on true=true)->L.getD j true=true:=by
 induction h with
 | edge i o e h he hb=>intro hd;exact hd o h e he hb
 | trans i j o e h he hb ht ih=>intro hd;exact ih fun o' DJ=>hc _ o' DJ (hd o h e he hb)
theorem zlD {ops:Array Oper} {ms:List Nat} (Gi:∀ i j,(ms.getD i 0).testBit j=true->jC ops i j) {i:Nat} {o:Oper} (ho:ops[i]?=some o) {j:Nat} (h:(zq8 ms o).testBit j=true):jC ops i j:=by
 have main:∀ (l:List Edge) (m:Nat),(∀ e∈l,e∈o.after)->(m.testBit j=true->jC ops i j) ->
   (l.foldl (fun m e=>if Region.binds .any e then m ||| (2 ^ e.on) ||| ms.getD e.on 0 else m) m).testBit j=true->jC ops i j:=by
  intro l
  induction l with
  | nil=>intro m _ hm h;exact hm h
  | cons e l ih =>
   intro m hl hm h
   refine ih _ (fun e' Gh=>hl e' (List.mem_cons_of_mem _ Gh)) (fun hb=>?_) h
   simp only at hb
   split at hb
   .rename_i hbi;rw [Nat.testBit_or,Nat.testBit_or,Bool.or_eq_true,Bool.or_eq_true] at hb;rcases hb with (hb|hb)|hb
    .exact hm hb
    .rw [Nat.testBit_two_pow] at hb;simp at hb;subst hb;exact .edge i o e ho (hl e (List.mem_cons_self ..)) hbi
    .exact .trans i j o e ho (hl e (List.mem_cons_self ..)) hbi (Gi _ _ hb)
   .exact hm hb
 exact main o.after.toList 0 (fun e he=>by simpa using he) (fun h=>by simp at h) h
theorem P6 {ops:Array Oper}:∀ (os:List Oper) (ms:List Nat),(∀ k,os[k]?=ops[ms.length+k]?)->(∀ i j,(ms.getD i 0).testBit j=true->jC ops i j) ->
  ∀ i j,((masks os ms).getD i 0).testBit j=true->jC ops i j
 | [],ms,_,Gi=>Gi
 | o::os,ms,ho,Gi=>by
  unfold masks
  refine P6 os _ (fun k=>?_) fun i j h=>?_
  .have:=ho (k+1);simp only [List.getElem?_cons_succ] at this;rw [this];simp only [List.length_append,List.length_cons,List.length_nil]
   congr 1
   omega
  .have h0:=ho 0;simp only [List.getElem?_cons_zero,Nat.add_zero] at h0;rcases Nat.lt_trichotomy i ms.length with aK|heq|hgt
   .refine Gi i j ?_
    simpa [List.getD_eq_getElem?_getD,List.getElem?_append_left aK] using h
   .subst heq
    refine zlD Gi h0.symm ?_
    simpa [List.getD_eq_getElem?_getD] using h
   .rw [List.getD_eq_getElem?_getD,List.getElem?_eq_none (by simp;omega)] at h;simp at h
structure Ac (ops:Array Oper) (vs:List ae) (pre:Nat):Prop where
 back:∀ i o,ops[i]?=some o->∀ e∈o.after,Region.binds .any e=true->e.on < i
 wait:∀ i o,ops[i]?=some o->pre+inits vs pre<=i->∀ j,j < i->Bw vs j=false->jC ops i j
 TY:∀ i,pre<=i->i < pre+inits vs pre->i < ops.size/\∃ s a x,vs[i]?=some ⟨none,.bq s (.tmp a) x,none⟩ /\
  ∀ o,ops[i]?=some o->∀ (j:Nat) (y:ae) d,j < pre->vs[j]?=some y->y.dst=some d->d∈ae.reads ⟨none,.bq s (.tmp a) x,none⟩->∃ e∈o.after,Region.binds .any e=true/\e.on=j
 idle:∀ (i:Nat) v,vs[i]?=some v->sU v=true->i < pre/\v.guard=none/\∃ d,v.dst=some d/\∀ (j:Nat) b,pre<=j->vs[j]?=some b->b.dst≠some d/\(∀ t∈v.op.reads,b.dst≠some t)/\(d∈b.plain.reads->jC ops j i)
 mem:∀ (i j:Nat) (v b:ae) (x:aa),vs[i]?=some v->Js v=some x->pre<=j->vs[j]?=some b->Pm b=true\/TC b x=true\/jC ops j i
 once:∀ (i j:Nat) (x y:ae) o,i < pre->j < pre->vs[i]?=some x->vs[j]?=some y->ops[i]?=some o->∀ d,y.dst=some d->(i≠j->x.dst≠some d)/\(d∈x.reads->j < i/\∃ e∈o.after,Region.binds .any e=true/\e.on=j)
theorem zfX {α:Type} {p:α->Bool}:∀ {l:List α} {i:Nat},i < (l.takeWhile p).length->∃ a,l[i]?=some a/\p a=true
 | [],i,h=>by simp at h
 | b::l,i,h=>by
  rw [List.takeWhile_cons] at h
  split at h
  .rename_i hb
   cases i with
   | zero=>exact ⟨b,rfl,hb⟩
   | succ i=>simpa using zfX (l:=l) (i:=i) (by simpa using h)
  .simp at h
theorem zlZ {ops:Array Oper} {vs:List ae} {pre:Nat} (JA:vs.length=ops.size) (h:F5 ops vs pre=true):Ac ops vs pre:=by
 unfold F5 at h;simp only [Bool.and_eq_true,List.all_eq_true,List.mem_range] at h;obtain ⟨⟨⟨⟨⟨⟨h1,h2⟩,h6⟩,h8⟩,h7⟩,h4⟩,h3⟩:=h;have aS:∀ i o,ops[i]?=some o->i < ops.size/\ops.getD i default=o:=fun i o ho=>by
  have aK:=(Array.getElem?_eq_some_iff.1 ho).1
  refine ⟨aK,?_⟩
  have:=(Array.getElem?_eq_some_iff.1 ho).2;simp [aK,this]
 have Wx:∀ (o:Oper) j,TB o j=true->∃ e∈o.after,Region.binds .any e=true/\e.on=j:=fun o j hm=>by
  unfold TB at hm;rw [Array.any_eq_true'] at hm;obtain ⟨e,he,hb⟩:=hm;simp at hb;exact ⟨e,he,hb.2,hb.1⟩
 refine ⟨fun i o ho e he hb=>?_,fun i o ho P7 j hj jQ=>?_,fun i P7 Wy=>?_,fun i v hv jQ=>?_,fun i j v b x hv hm hj hb=>?_,fun i j x y o hi hj hx hy ho d hd=>?_⟩
 .obtain ⟨aK,hg⟩:=aS i o ho;have:=h1 i aK;rw [hg,Array.all_eq_true'] at this;have:=this e he;simp [hb] at this;exact this
 .obtain ⟨aK,hg⟩:=aS i o ho;have:=h2 i aK;simp only [Bool.or_eq_true,decide_eq_true_eq] at this;rcases this with h|h
  .omega
  .refine P6 (ops:=ops) ops.toList [] (fun k=>by simp) (fun i j h=>by simp at h) i j ?_
   unfold Vy at h;have:=List.all_eq_true.1 h j (List.mem_range.2 hj);rw [jQ,Bool.or_false] at this;exact this
 .have hx:i - pre < ((vs.drop pre).takeWhile NC).length:=by unfold inits at Wy;omega
  obtain ⟨v,hv,BH⟩:=zfX hx;rw [List.getElem?_drop,show pre+(i - pre)=i by omega] at hv;unfold NC at BH
  split at BH
  .rename_i s a x;have iN:i < ops.size:=by
    rcases Nat.lt_or_ge i ops.size with h|h
    .exact h
    .exfalso;have:=JA;have:=(List.getElem?_eq_some_iff.1 hv).1;omega
   refine ⟨iN,s,a,x,hv,?_⟩
   have:=h6 i iN;simp only [Bool.or_eq_true,decide_eq_true_eq] at this;rcases this with (h|h)|h
   .omega
   .omega
   .unfold zru at h;rw [hv] at h;simp only [List.all_eq_true,List.mem_range] at h;have h9:=h
    refine fun o ho j y d hj hy hd hm=>?_
    have:=h9 j hj;rw [hy] at this;simp only [hd] at this;rw [(aS i o ho).2] at this;simp only [Bool.or_eq_true,Bool.not_eq_true',List.contains_eq_mem,decide_eq_false_iff_not] at this;rcases this with h|h
    .exact absurd hm h
    .exact Wx o j h
  .simp at BH
 .have aK:i < vs.length:=(List.getElem?_eq_some_iff.1 hv).1;have:=h4 i aK;rw [hv] at this;simp only [jQ,Bool.not_true,Bool.false_or,Bool.and_eq_true,decide_eq_true_eq] at this
  refine ⟨this.1,?_⟩
  have h5:=this.2;unfold zqp at h5
  split at h5
  .rename_i d hd JK
   refine ⟨JK,d,hd,fun j b hj hb=>?_⟩
   have jm:j < vs.length:=(List.getElem?_eq_some_iff.1 hb).1;have:=List.all_eq_true.1 h5 j (List.mem_range.2 jm);rw [hb] at this;simp only [Bool.or_eq_true,decide_eq_true_eq,Bool.and_eq_true,bne_iff_ne,ne_eq,List.all_eq_true,Bool.not_eq_true',List.contains_eq_mem,decide_eq_false_iff_not] at this;rcases this with h|h
   .omega
   .refine ⟨h.1.1,h.1.2,fun hm=>?_⟩
    rcases h.2 with h6|h6
    .exact absurd hm h6
    .exact P6 (ops:=ops) ops.toList [] (fun k=>by simp) (fun i j h=>by simp at h) j i h6
  .simp at h5
 .have aU:i < vs.length:=(List.getElem?_eq_some_iff.1 hv).1;have jm:j < vs.length:=(List.getElem?_eq_some_iff.1 hb).1;have h9:=h8 i aU;rw [hv] at h9;simp only [hm,List.all_eq_true,List.mem_range] at h9;have h10:=h9 j jm;rw [hb] at h10;simp only [Bool.or_eq_true,decide_eq_true_eq] at h10;rcases h10 with h|(h|h)|h
  .omega
  .exact .inl h
  .exact .inr (.inl h)
  .exact .inr (.inr (P6 (ops:=ops) ops.toList [] (fun k=>by simp) (fun i j h=>by simp at h) j i h))
 .obtain ⟨aK,hg⟩:=aS i o ho;have:=h3 i hi j hj;rw [hx,hy] at this;simp only [hd] at this;rw [hg] at this;simp at this
  refine ⟨fun EM=>?_,fun hm=>?_⟩
  .rcases this.1 with h|h
   .exact absurd h EM
   .exact h
  .rcases this.2 with h|h
   .exact absurd hm h
   .exact ⟨h.1,Wx o j h.2⟩
theorem Wz {ops:Array Oper} {vs:List ae} {pre:Nat} (h:F5 ops vs pre=true):pre<=ops.size:=by
 unfold F5 at h;simp only [Bool.and_eq_true,decide_eq_true_eq] at h;exact h.1.1.2
theorem aN.ext' (h:aN C S base φ H w) (hk:∀ id,id < H.nx->Hp.get id=H.get id) (fD:H.nx<=Hp.nx):bY φ H w φ Hp w/\aN C S base φ Hp w:=by
 have aS:∀ id x,φ id=some x->Hp.get id=H.get id:=fun id x hx=>hk id (h.nx _ _ hx);have j4:bY φ H w φ Hp w:=⟨fun _ _ h=>h,rfl,rfl,rfl,Nat.le_refl _,fun _ _ _=>rfl,fun b _ ⟨id,m,aj,hl⟩=>⟨id,m,aj,by rw [<- aS _ _ aj];exact hl⟩,fD⟩
 refine ⟨j4,h.sz,h.out,fun id x hx=>Nat.lt_of_lt_of_le (h.nx _ _ hx) fD,h.lt,fun id b m aj=>?_,fun i j b m m' hi hj di dj=>h.inj _ _ _ _ _ hi hj (by rw [<- aS _ _ hi];exact di) (by rw [<- aS _ _ hj];exact dj)⟩
 rw [aS _ _ aj];exact (h.obj _ _ _ aj).mono (fun _ b hb=>j4.Bq hb) (fun _ _ h=>h) rfl
def TZ (cl:Callee) (vs:List ae) (aO:Env) (Hp:Heap) (i:Nat):Prop:=∃ v o f,vs[i]?=some v/\step cl aO Hp v.op=some (.new o f)/\wanted aO v.guard=some true
structure Le (ops:Array Oper) (C:iT) (S:Bool->Nat->Prop) (base lo nt:Nat) (cl:Callee) (vs:List ae) (pre:Nat) (aO:Env) (Hp:Heap) (hc:Array Bool->Heap) (ids:Nat->Nat) (φ0:iX) (H:Heap) (w0:World) (L:Array Bool) (φ:iX) (a:Act) (w:World):Prop where
 heap:aN C S base φ (hc L) w
 env:∀ t,(∀ (i:Nat) v,i < pre->L.getD i true=false->vs[i]?=some v->v.dst≠some t)->aA (aQ S base φ (hc L) w) φ w (aO t) (a.tmps.getD t undef)
 size:a.tmps.size=nt
 tu:lo<=w.heap.size
 defs:∃ marks:List Nat,a.defers=marks.map EK/\marks.Nodup/\∀ r∈marks,lo<=r/\w.heap[r]?=some (.deferred (some []))
 phi:∀ i,i < pre->L.getD i true=false->TZ cl vs aO Hp i->φ (ids i)=none
 closed:∀ i o,ops[i]?=some o->L.getD i true=true->∀ e∈o.after,Region.binds .any e=true->L.getD e.on true=true
 WA:bY φ0 H w0 φ (hc L) w
theorem WB {L:Array Bool} {i j:Nat} (d:Bool):(L.setIfInBounds i true).getD j d=if i=j/\j < L.size then true else L.getD j d:=by
 by_cases h:i=j
 .subst h
  by_cases hl:i < L.size
  .simp [hl]
  .simp [hl]
 .simp [h]
structure uq (cl:Callee) (vs:List ae) (pre k:Nat) (aO:Env) (Hp:Heap) (tgt:Nat->Nat) (obj:Nat->aR):Prop where
 each:∀ i,pre<=i->i < pre+k->∀ s a x,vs[i]?=some ⟨none,.bq s (.tmp a) x,none⟩->∃ off z,aO a=.box (tgt i) off/\Hp.get (tgt i)=.raw z/\∀ Hq,Hq.get (tgt i)=.raw z->step cl aO Hq (.bq s (.tmp a) x)=some (.upd (.aM []) (Hq.set (tgt i) (obj i)))
 inj:∀ i j,pre<=i->i < pre+k->pre<=j->j < pre+k->tgt i=tgt j->i=j
 cells:∀ i,pre<=i->i < pre+k->(∃ cs,obj i=.cells true cs)/\∃ z,Hp.get (tgt i)=.raw z
theorem znN {cl:Callee} {s:Nat} {x y:aa} (h:step cl env H (.bq s x y)=some e):∃ id off z cs,x.eval env=.box id off/\H.get id=.raw z/\(∀ H2,H2.get id=.raw z->step cl env H2 (.bq s x y)=some (.upd (.aM []) (H2.set id (.cells true cs))))/\e=.upd (.aM []) (H.set id (.cells true cs)):=by
 simp only [step] at h
 split at h
 .rename_i id off h1
  split at h
  .rename_i z h2
   split at h
   .rename_i h3;simp only [Option.some.injEq] at h;exact ⟨id,off,z,_,h1,h2,fun H2 h4=>by simp only [step,h1,h4];rw [if_pos h3],h.symm⟩
   .simp at h
  .simp at h
 .simp at h
noncomputable def fO (Hp:Heap) (pre k:Nat) (tgt:Nat->Nat) (obj:Nat->aR) (L:Array Bool):Heap :=
 ⟨Hp.nx,fun id=>open Classical in if h:∃ i,pre<=i/\i < pre+k/\L.getD i true=true/\tgt i=id then obj (Classical.choose h) else Hp.arr id⟩
section
variable {cl:Callee} {vs:List ae} {pre k:Nat} {tgt:Nat->Nat} {obj:Nat->aR} {L:Array Bool}
theorem WC {id:Nat} (h:∀ i,pre<=i->i < pre+k->L.getD i true=true->tgt i≠id):(fO Hp pre k tgt obj L).get id=Hp.get id:=by
 unfold Heap.get fO;simp only;rw [dif_neg (by rintro ⟨i,h1,h2,h3,h4⟩;exact h i h1 h2 h3 h4)]
theorem NT (hi:uq cl vs pre k aO Hp tgt obj) {i:Nat} (h1:pre<=i) (h2:i < pre+k) (h3:L.getD i true=true):(fO Hp pre k tgt obj L).arr (tgt i)=obj i:=by
 unfold fO;simp only;have h:∃ j,pre<=j/\j < pre+k/\L.getD j true=true/\tgt j=tgt i:=⟨i,h1,h2,h3,rfl⟩
 rw [dif_pos h];obtain ⟨q1,q2,q3,q4⟩:=Classical.choose_spec h;rw [hi.inj _ _ q1 q2 h1 h2 q4]
theorem NU {id:Nat} (h:∀ i,pre<=i->i < pre+k->L.getD i true=true->tgt i≠id):(fO Hp pre k tgt obj L).arr id=Hp.arr id:=by
 unfold fO;simp only;rw [dif_neg (by rintro ⟨i,h1,h2,h3,h4⟩;exact h i h1 h2 h3 h4)]
theorem zm6 {L':Array Bool} (hi:uq cl vs pre k aO Hp tgt obj) (h:∀ i,pre<=i->i < pre+k->L'.getD i true=L.getD i true):fO Hp pre k tgt obj L'=fO Hp pre k tgt obj L:=by
 refine Heap.ext' rfl fun id=>?_
 by_cases hx:∃ i,pre<=i/\i < pre+k/\L.getD i true=true/\tgt i=id
 .obtain ⟨i,h1,h2,h3,rfl⟩:=hx;rw [NT hi h1 h2 h3,NT hi h1 h2 (by rw [h i h1 h2];exact h3)]
 .rw [NU (fun i h1 h2 h3 h4=>hx ⟨i,h1,h2,h3,h4⟩),NU (fun i h1 h2 h3 h4=>hx ⟨i,h1,h2,by rw [<- h i h1 h2];exact h3,h4⟩)]
theorem zqG (hi:uq cl vs pre k aO Hp tgt obj) {i:Nat} (h1:pre<=i) (h2:i < pre+k) (hL:i < L.size):(fO Hp pre k tgt obj L).set (tgt i) (obj i)=fO Hp pre k tgt obj (L.setIfInBounds i true):=by
 refine Heap.ext' rfl fun id=>?_
 show upd _ _ _ id=_;simp only [upd]
 split
 .rename_i he;subst he;rw [NT hi h1 h2 (by rw [WB,if_pos ⟨rfl,hL⟩])]
 .rename_i bL
  by_cases hx:∃ j,pre<=j/\j < pre+k/\L.getD j true=true/\tgt j=id
  .obtain ⟨j,q1,q2,q3,rfl⟩:=hx;have q5:(L.setIfInBounds i true).getD j true=true:=by
    rw [WB]
    split
    .rfl
    .exact q3
   rw [NT hi q1 q2 q3,NT hi q1 q2 q5]
  .rw [NU (fun j q1 q2 q3 q4=>hx ⟨j,q1,q2,q3,q4⟩),NU (fun j q1 q2 q3 q4=>?_)];rw [WB] at q3
   split at q3
   .rename_i hh;obtain ⟨rfl,_⟩:=hh;exact bL q4.symm
   .exact hx ⟨j,q1,q2,q3,q4⟩
theorem zmc (hi:uq cl vs pre k aO Hp tgt obj):mf Hp (fO Hp pre k tgt obj L):=fun id _ hr=>WC fun i h1 h2 _ he=>by
 obtain ⟨_,z,hz⟩:=hi.cells i h1 h2;rw [he] at hz;exact hr z hz
theorem zkc (JA:∀ i,pre<=i->i < pre+k->∃ s a x,vs[i]?=some ⟨none,.bq s (.tmp a) x,none⟩) {r:Env×Heap} (hr:zY cl 0 (vs.drop pre) aO Hp=some r) :
  ∃ tgt obj HI,uq cl vs pre k aO Hp tgt obj/\HI.nx=Hp.nx/\(∀ id,(∀ i,pre<=i->i < pre+k->tgt i≠id)->HI.arr id=Hp.arr id)/\(∀ i,pre<=i->i < pre+k->HI.arr (tgt i)=obj i)/\zY cl 0 (vs.drop (pre+k)) aO HI=some r:=by
 induction k with
 | zero=>exact ⟨fun _=>0,fun _=>.dead,Hp,⟨fun i h1 h2=>by omega,fun i j h1 h2=>by omega,fun i h1 h2=>by omega⟩,rfl,fun _ _=>rfl,fun i h1 h2=>by omega,hr⟩
 | succ k ih =>
  obtain ⟨tgt,obj,HI,hi,hn,ha,hb,bC⟩:=ih fun i h1 h2=>JA i h1 (by omega);obtain ⟨s,a,x,hv⟩:=JA (pre+k) (by omega) (by omega);have hd:vs.drop (pre+k)=⟨none,.bq s (.tmp a) x,none⟩::vs.drop (pre+(k+1)):=by
   have aK:=(List.getElem?_eq_some_iff.1 hv)
   rw [List.drop_eq_getElem_cons aK.1,aK.2];rfl
  rw [hd] at bC;simp only [zY,wanted,mY] at bC
  split at bC
  .simp at bC
  .rename_i ee hs;obtain ⟨id,off,z,cs,q1,q2,q3,rfl⟩:=znN hs;simp only [qm,apply] at bC;rw [if_neg (by simp)] at bC;have aK:id < HI.nx:=O5 (by rw [q2];simp);have lu:HI.arr id=.raw z:=by unfold Heap.get at q2;rw [if_pos aK] at q2;exact q2
   have u6:∀ i,pre<=i->i < pre+k->tgt i≠id:=fun i h1 h2 he=>by
    have:=hb i h1 h2;rw [he,lu] at this;obtain ⟨⟨cs',rG⟩,_⟩:=hi.cells i h1 h2;rw [rG] at this;simp at this
   have hHp:Hp.get id=.raw z:=by
    unfold Heap.get;rw [if_pos (by omega),<- ha id u6];exact lu
   have t1:∀ i,i < pre+k->upd tgt (pre+k) id i=tgt i:=fun i h=>by simp only [upd];rw [if_neg (by omega)]
   have t2:upd tgt (pre+k) id (pre+k)=id:=by simp [upd]
   have o1:∀ i,i < pre+k->upd obj (pre+k) (.cells true cs) i=obj i:=fun i h=>by simp only [upd];rw [if_neg (by omega)]
   have o2:upd obj (pre+k) (.cells true cs) (pre+k)=.cells true cs:=by simp [upd]
   refine ⟨upd tgt (pre+k) id,upd obj (pre+k) (.cells true cs),HI.set id (.cells true cs),⟨fun i h1 h2 s' a' x' og=>?_,fun i j h1 h2 h3 h4 he=>?_,fun i h1 h2=>?_⟩,hn,fun WE h=>?_,fun i h1 h2=>?_,bC⟩
   .rcases Nat.lt_or_ge i (pre+k) with h|h
    .rw [t1 i h,o1 i h];exact hi.each i h1 h s' a' x' og
    .have:i=pre+k:=by omega
     subst this;rw [hv] at og;simp only [Option.some.injEq,ae.mk.injEq,jZ.bq.injEq,aa.tmp.injEq,true_and,and_true] at og;obtain ⟨rfl,rfl,rfl⟩:=og;rw [t2,o2];exact ⟨off,z,q1,hHp,q3⟩
   .rcases Nat.lt_or_ge i (pre+k) with h|h<;>rcases Nat.lt_or_ge j (pre+k) with h'|h'
    .rw [t1 i h,t1 j h'] at he;exact hi.inj i j h1 h h3 h' he
    .rw [t1 i h,show j=pre+k by omega,t2] at he;exact absurd he (u6 i h1 h)
    .rw [t1 j h',show i=pre+k by omega,t2] at he;exact absurd he.symm (u6 j h3 h')
    .omega
   .rcases Nat.lt_or_ge i (pre+k) with h|h
    .rw [t1 i h,o1 i h];exact hi.cells i h1 h
    .rw [show i=pre+k by omega,t2,o2];exact ⟨⟨cs,rfl⟩,z,hHp⟩
   .have bL:=h (pre+k) (by omega) (by omega);rw [t2] at bL;show upd _ _ _ WE=_;simp only [upd];rw [if_neg (fun e=>bL e.symm)];exact ha WE fun i h1 h2=>by have:=h i h1 (by omega);rwa [t1 i h2] at this
   .show upd _ _ _ _=_;rcases Nat.lt_or_ge i (pre+k) with h|h
    .rw [t1 i h,o1 i h];simp only [upd];rw [if_neg (u6 i h1 h)];exact hb i h1 h
    .rw [show i=pre+k by omega,t2,o2];simp [upd]
theorem ziN {P:Program} {Z:List Nat} {o:Oper} {s:Nat} {x y:aa} (h:jZ.bq s x y=Dz Z none ((zG P Z o).getD .stuck)):.store s x y=(zG P Z o).getD .stuck:=by
 unfold Dz at h;simp only at h
 split at h
 .rename_i s' t x' hx
  split at h
  .simp only [jZ.bq.injEq] at h;obtain ⟨rfl,rfl,rfl⟩:=h;exact hx.symm
  .split at h<;>simp at h
 .exfalso
  cases hc:zG P Z o with
  | none=>rw [hc] at h;simp at h
  | some v =>
   rw [hc] at h;simp only [Option.getD_some] at h;subst h;unfold zG at hc
   revert hc
   (repeat' split)<;>simp
end
theorem zP {L:Array Bool} {i j:Nat} (d:Bool):(L.setIfInBounds i true).getD j d=if i=j/\j < L.size then true else L.getD j d:=by
 by_cases h:i=j
 .subst h
  by_cases hl:i < L.size
  .simp [hl]
  .simp [hl]
 .simp [h]
theorem WG {ops:Array Oper} {L:Array Bool} (hL:L.size=ops.size) (EN:∀ i o,ops[i]?=some o->∀ e∈o.after,Region.binds .any e=true->e.on < i)
  (hex:∃ i,i < ops.size/\L.getD i true=false):Region.ready .any ops L≠[]:=by
 have key:∀ k,(∃ i,i < k/\L.getD i true=false/\i < ops.size)->∃ i,L.getD i true=false/\i < ops.size/\∀ j,j < i->L.getD j true=true:=by
  intro k
  induction k with
  | zero=>rintro ⟨i,hi,_⟩;omega
  | succ k ihk =>
   rintro ⟨i,hi,hl,hs⟩
   by_cases qp:∃ i,i < k/\L.getD i true=false/\i < ops.size
   .exact ihk qp
   .refine ⟨i,hl,hs,fun j hj=>?_⟩
    cases jm:L.getD j true with
    | true=>rfl
    | false=>exact absurd ⟨j,by omega,jm,by omega⟩ qp
 obtain ⟨i0,T9,yL⟩:=hex;obtain ⟨i,hl,hs,WH⟩:=key (i0+1) ⟨i0,by omega,yL,by omega⟩;intro EF;have hg:ops[i]?=some ops[i]:=Array.getElem?_eq_getElem hs;have:i∈Region.ready .any ops L:=mem_ready.2 ⟨hl,_,hg,fun e he hb=>by
  have aK:=EN i _ hg e he hb;have:=WH e.on aK;simp [hL,show e.on < ops.size by omega] at this ⊢;exact this⟩
 rw [EF] at this
 cases this
abbrev Closed (ops:Array Oper) (L:Array Bool):Prop:=∀ i o,ops[i]?=some o->L.getD i true=true->∀ e∈o.after,Region.binds .any e=true->L.getD e.on true=true
theorem NV {ops:Array Oper} {L:Array Bool} (hL:L.size=ops.size) (EN:∀ i o,ops[i]?=some o->∀ e∈o.after,Region.binds .any e=true->e.on < i) {i:Nat} (hi:i∈Region.ready .any ops L) :
  L.getD i true=false/\i < ops.size/\∀ o,ops[i]?=some o->∀ e∈o.after,Region.binds .any e=true->L.getD e.on true=true:=by
 obtain ⟨hu,oi,ho,bM⟩:=mem_ready.1 hi;have bT:i < ops.size:=(Array.getElem?_eq_some_iff.1 ho).1
 refine ⟨hu,bT,fun o DJ e he hb=>?_⟩
 rw [ho] at DJ;simp only [Option.some.injEq] at DJ;subst DJ;have vZ:=EN i _ ho e he hb;have:=bM e he hb;simp [hL,show e.on < ops.size by omega] at this ⊢;exact this
theorem WI {ops:Array Oper} {L:Array Bool} (hL:L.size=ops.size) (hc:Closed ops L) {i:Nat} (hi:∀ o,ops[i]?=some o->∀ e∈o.after,Region.binds .any e=true->L.getD e.on true=true):Closed ops (L.setIfInBounds i true):=by
 intro i1 o1 hq hd e he hb;rw [zP]
 split
 .rfl
 .by_cases oU:i1=i
  .subst oU;exact hi o1 hq e he hb
  .rw [zP,if_neg (fun h=>oU h.1.symm)] at hd;exact hc i1 o1 hq hd e he hb
theorem WK {ops:Array Oper} {L:Array Bool} (hL:L.size=ops.size) {i m:Nat} (hi:i < ops.size) (hu:L.getD i true=false) (hm:m+1=(List.range ops.size).countP (fun i=>!L.getD i true)) :
  m=(List.range ops.size).countP (fun j=>!(L.setIfInBounds i true).getD j true):=by
 have:=zhK (p:=fun j=>!L.getD j true) (q:=fun j=>!(L.setIfInBounds i true).getD j true) (i:=i) (by simp only [hu];rfl) (fun j=>by
  simp only [zP]
  by_cases hj:j=i
  .subst hj;simp [hL,hi]
  .rw [if_neg hj,if_neg (fun h=>hj h.1.symm)]) ops.size hi
 omega
def jo (H H2:Heap):Prop:=∀ id own cs,H.get id=.cells own cs->H2.get id=.cells own cs
theorem mf.same {H2:Heap} (h:mf H H2):jo H H2:=fun _ _ _ hg=>h.cells hg
theorem zqg {cl:Callee} {v:ae} (hv:Pm v=true) (h:step cl env H v.op=some e):jo H (apply H e).2:=by
 obtain ⟨dst,op,guard⟩:=v
 cases op<;>simp only [Pm] at hv<;>first|contradiction|skip
 simp only [step] at h
 split at h
 .rename_i id key x e1 e2 e3
  split at h
  .rename_i es hg
   split at h
   .simp only [Option.some.injEq] at h;subst h;intro i own cs hi;have bL:i≠id:=fun he=>by subst he;rw [hg] at hi;simp at hi
    show Heap.get (Heap.set _ _ _) _=_;unfold Heap.get Heap.set at *;simp only [upd];rw [if_neg bL];exact hi
   .simp at h
  .simp at h
 .simp at h
theorem zhP {H2:Heap} (h:jo H H2) {s:Nat} {v:AV} {cs:List AV} (hl:zS H s v=some cs):zS H2 s v=some cs:=by
 unfold zS at hl ⊢
 split at hl
 .exact hl
 .split at hl
  .rename_i hg;rw [h _ _ _ hg];exact hl
  .simp at hl
 .simp at hl
def NW (v:ae) (env:Env) (H H2:Heap):Prop:=∀ x,Js v=some x->∀ s cs,zS H s (x.eval env)=some cs->zS H2 s (x.eval env)=some cs
theorem zh5 {v:ae}:NW v env H H:=fun _ _ _ _ h=>h
theorem jo.reads {v:ae} {H2:Heap} (h:jo H H2):NW v env H H2:=fun _ _ _ _ hl=>zhP h hl
theorem zhX:∀ {p q:PV},p.ik q=true->p=q
 | .int k a,.int k' b,h=>by simp [PV.ik] at h;rw [h.1,h.2]
 | .bool a,.bool b,h=>by simp [PV.ik] at h;rw [h]
 | .str _,_,h|.agg _,_,h|.aM _,_,h|.nils,_,h|.slice _ _ _,_,h|.jU,_,h|.ptr _ _ _,_,h|.func _ _,_,h|.jV,_,h|.jH _ _,_,h=>by simp [PV.ik] at h
 | .int _ _,.bool _,h|.int _ _,.str _,h|.int _ _,.agg _,h|.int _ _,.aM _,h|.int _ _,.nils,h|.int _ _,.slice _ _ _,h|.int _ _,.jU,h|.int _ _,.ptr _ _ _,h|.int _ _,.func _ _,h|.int _ _,.jV,h|.int _ _,.jH _ _,h=>by simp [PV.ik] at h
 | .bool _,.int _ _,h|.bool _,.str _,h|.bool _,.agg _,h|.bool _,.aM _,h|.bool _,.nils,h|.bool _,.slice _ _ _,h|.bool _,.jU,h|.bool _,.ptr _ _ _,h|.bool _,.func _ _,h|.bool _,.jV,h|.bool _,.jH _ _,h=>by simp [PV.ik] at h
theorem P8 {α:Type} {f:α->α->Bool} (hf:∀ a b,f a b=true->a=b):∀ {l m:List α},all2 f l m=true->l=m
 | [],[],_=>rfl
 | a::l,[],h=>by simp [all2] at h
 | [],b::m,h=>by simp [all2] at h
 | a::l,b::m,h=>by
  simp only [all2,Bool.and_eq_true] at h;rw [hf a b h.1,P8 hf h.2]
theorem WL:∀ (n:Nat) (p q:PV),PV.iE n p q=true->p=q
 | 0,_,_,h=>by simp [PV.iE] at h
 | n+1,p,q,h=>by
  unfold PV.iE at h
  split at h
  .split at h
   .simp only [Bool.and_eq_true,beq_iff_eq] at h;rw [h.1.1,h.1.2,P8 (fun _ _ h=>P8 (WL n) h) h.2]
   .simp at h
  .split at h
   .simp only [Bool.and_eq_true,beq_iff_eq] at h;rw [h.1.1,h.1.2,P8 (WL n) h.2]
   .simp at h
  .split at h
   .rfl
   .simp at h
  .exact zhX h
theorem zne (a b:AV) (h:AV.jO a b=true):a=b:=by
 unfold AV.jO at h
 split at h
 .rw [WL _ _ _ h]
 .simp only [Bool.and_eq_true,beq_iff_eq] at h;rw [h.1,h.2]
 .simp at h
theorem WM:∀ {l m:List AV},Bl l m=true->l=m
 | [],[],_=>rfl
 | a::l,[],h=>by cases a<;>simp [Bl] at h
 | [],b::m,h=>by simp [Bl] at h
 | a::l,b::m,h=>by
  cases a<;>cases b<;>first|(simp [Bl] at h;done)|skip
  .simp only [Bl,Bool.and_eq_true] at h;rw [zhX h.1,WM h.2]
  .simp only [Bl,Bool.and_eq_true,beq_iff_eq] at h;rw [h.1.1,P8 zne h.1.2,WM h.2]
theorem zlQ {cl:Callee} {b v:ae} (hb:∀ x,Js v=some x->TC b x=true) (h:step cl env H b.op=some e):NW v env H (apply H e).2:=by
 intro x hx s cs hl;have h1:=hb x hx;obtain ⟨dst,op,guard⟩:=b;unfold TC at h1;simp only at h1 h
 split at h1
 .rename_i sz a y ls;rw [List.any_eq_true] at h1;obtain ⟨l,Hm,h2⟩:=h1;have xV:l=x:=by
   unfold Vx at h2
   split at h2
   .simp only [beq_iff_eq] at h2;rw [h2]
   .simp at h2
  subst xV;simp only [step] at h
  split at h
  .rename_i id off ha
   split at h
   .rename_i bM
    split at h
    .rename_i cs0 hg
     split at h
     .simp only [Option.some.injEq] at h;subst h;have WN:=List.all_eq_true.1 bM l Hm;unfold zS at hl ⊢
      split at hl
      .exact hl
      .rename_i i2 o2 hv;rw [hv] at WN;simp only [beside,bne_iff_ne,ne_eq] at WN;have e:(Heap.set H id (.cells true (cs0.take off++(y.eval env).cells++cs0.drop (off+sz)))).get i2=H.get i2:=by
        unfold Heap.get Heap.set;simp only [upd];rw [if_neg WN]
       simp only [apply];rw [e];exact hl
      .simp at hl
     .simp at h
    .simp at h
   .simp at h
  .simp at h
 .rename_i f xs ls;rw [List.any_eq_true] at h1;obtain ⟨l,Hm,h2⟩:=h1;have xV:l=x:=by
   unfold Vx at h2
   split at h2
   .simp only [beq_iff_eq] at h2;rw [h2]
   .simp at h2
  subst xV;simp only [step] at h
  split at h
  .rename_i v H2 hd
   split at h
   .rename_i bM;simp only [Option.some.injEq] at h;subst h;have hk:=List.all_eq_true.1 bM l Hm;show zS H2 s (l.eval env)=some cs;unfold keeps at hk
    split at hk
    .rename_i id off hv
     split at hk
     .rename_i o c1 o2 c2 g1 g2;simp only [Bool.and_eq_true,beq_iff_eq] at hk;have hc:=WM hk.2;subst hc;rw [hv] at hl ⊢;simp only [zS] at hl ⊢;rw [g1] at hl;rw [g2];exact hl
     .simp at hk
    .simp at hk
   .simp at h
  .simp at h
 .simp only [step] at h
  split at h
  .simp only [Option.some.injEq] at h;subst h;exact hl
  .simp only [Option.some.injEq] at h;subst h;exact hl
  .simp at h
 .simp at h1
theorem Ua {cl:Callee} {v:ae} (hv:sU v=true) {e:Eff} (h:step cl env H v.op=some e):∃ av,e=.val av/\∀ iM H2,NW v env H H2->(∀ t∈v.op.reads,iM t=env t)->step cl iM H2 v.op=some (.val av):=by
 obtain ⟨dst,op,guard⟩:=v;have bI:∃ av,e=.val av:=by
  cases op<;>simp only [sU] at hv<;>first|contradiction|skip
  all_goals
   simp only [step] at h
   revert h
   (repeat' split)<;>(intro h;simp at h)<;>first|exact ⟨_,h.symm⟩|exact ⟨_,h.2.symm⟩|exact ⟨_,h.choose_spec.2.symm⟩
 obtain ⟨av,rfl⟩:=bI
 refine ⟨av,rfl,fun iM H2 hm h3=>?_⟩
 rw [PY h3]
 cases sK:Js ⟨dst,op,guard⟩ with
 | none =>
  have hH:step cl env H2 op=step cl env H op:=by
   cases op<;>first|rfl|(exfalso;simp [Js] at sK;done)|(exfalso;simp [sU] at hv;done)
  simp only at h ⊢;rw [hH,h]
 | some x =>
  have hs:=hm x sK
  cases op<;>simp only [Js] at sK<;>first|contradiction|skip
  simp only [Option.some.injEq] at sK;subst sK;simp only [step] at h ⊢
  split at h
  .rename_i cs hl;rw [hs _ _ hl];exact h
  .simp at h
noncomputable def mask (vs:List ae) (L:Array Bool) (env:Env):Env:=fun t =>
 open Classical in if ∃ (i:Nat) (v:ae),vs[i]?=some v/\sU v=true/\L.getD i true=false/\v.dst=some t then .undef else env t
theorem P9 {vs:List ae} {L:Array Bool} {t:Nat} (h:∀ (i:Nat) (v:ae),vs[i]?=some v->sU v=true->v.dst=some t->L.getD i true=true):mask vs L env t=env t:=by
 unfold mask;rw [if_neg];rintro ⟨i,v,h1,h2,h3,h4⟩;rw [h i v h1 h2 h4] at h3;simp at h3
theorem zhS {vs:List ae} {L L':Array Bool} {env':Env} {t:Nat} (h:∀ (i:Nat) (v:ae),vs[i]?=some v->sU v=true->v.dst=some t->L'.getD i true=L.getD i true) (he:env' t=env t):mask vs L' env' t=mask vs L env t:=by
 have Qa:(∃ (i:Nat) (v:ae),vs[i]?=some v/\sU v=true/\L'.getD i true=false/\v.dst=some t)↔(∃ (i:Nat) (v:ae),vs[i]?=some v/\sU v=true/\L.getD i true=false/\v.dst=some t):=by
  constructor
  .rintro ⟨i,v,h1,h2,h3,h4⟩;exact ⟨i,v,h1,h2,by rw [<- h i v h1 h2 h4];exact h3,h4⟩
  .rintro ⟨i,v,h1,h2,h3,h4⟩;exact ⟨i,v,h1,h2,by rw [h i v h1 h2 h4];exact h3,h4⟩
 unfold mask
 by_cases hx:∃ (i:Nat) (v:ae),vs[i]?=some v/\sU v=true/\L.getD i true=false/\v.dst=some t
 .rw [if_pos (Qa.2 hx),if_pos hx]
 .rw [if_neg (fun h=>hx (Qa.1 h)),if_neg hx];exact he
theorem zpi {cl:Callee} (fe:bz C P cl) {ops:Array Oper} {vs:List ae} {pre:Nat} (bG:Ac ops vs pre) (iB:yH P Z nt ops ops.toList=some vs):∀ (m:Nat) (k:Nat) (L:Array Bool) (env:Env) (H:Heap) (φ:iX) (a:Act) (w:World) (env':Env) (H':Heap),
  m=(List.range ops.size).countP (fun i=>!L.getD i true)->pre+inits vs pre<=k->k<=ops.size->L.size=ops.size->(∀ i,i < k->Bw vs i=false->L.getD i true=true)->(∀ i,k<=i->i < ops.size->L.getD i true=false)->Closed ops L ->
  (∀ (i:Nat) v,vs[i]?=some v->sU v=true->L.getD i true=false->∀ d,v.dst=some d->step cl env H v.op=some (.val (env d))) ->
  zY cl 0 (vs.drop k) env H=some (env',H')->R C S base lo nt φ H (mask vs L env) a w ->
  (∀ φ' a' w',bY φ H w φ' H' w'->R C S base lo nt φ' H' env' a' w'->Q .normal a' w')->wpAnyIn (Fw ro) n P .any ops Q m L a w:=by
 have aS:=P5 iB;have Qb:vs.length=ops.size:=by simpa using aS.1
 intro m
 induction m with
 | zero =>
  intro k L env H φ a w env' H' hm Lh hks hL h1 h2 EO aj hr hR hQ;have bM:∀ i,i < ops.size->L.getD i true=true:=fun i hi=>by
   have:=List.countP_eq_zero.1 hm.symm i (List.mem_range.2 hi)
   simpa using this
  have hk:k=ops.size:=by
   rcases Nat.lt_or_ge k ops.size with h|h
   .have h3:=h2 k (Nat.le_refl _) h;rw [bM k h] at h3;simp at h3
   .omega
  have WO:vs.drop k=[]:=by rw [List.drop_eq_nil_iff];omega
  rw [WO] at hr;simp [zY] at hr;obtain ⟨rfl,rfl⟩:=hr;have Qc:mask vs L env=env:=funext fun t=>P9 fun i v hv _ _=>bM i (by have:=(List.getElem?_eq_some_iff.1 hv).1;omega);rw [Qc] at hR
  refine ⟨?_,hQ _ _ _ bY.refl hR⟩
  rw [List.eq_nil_iff_forall_not_mem];intro i hi;obtain ⟨hu,aK,_⟩:=NV hL bG.back hi;rw [bM i aK] at hu;simp at hu
 | succ m ih =>
  intro k L env H φ a w env' H' hm Lh hks hL h1 h2 EO aj hr hR hQ;have hex:∃ i,i < ops.size/\L.getD i true=false:=by
   have:0 < (List.range ops.size).countP (fun i=>!L.getD i true):=by omega
   obtain ⟨i,hi,hp⟩:=List.countP_pos_iff.1 this;exact ⟨i,List.mem_range.1 hi,by simpa using hp⟩
  refine ⟨fun h=>absurd h (WG hL bG.back hex),fun i hi=>?_⟩
  obtain ⟨hu,aK,jR⟩:=NV hL bG.back hi;have BI:(L.setIfInBounds i true).size=ops.size:=by simpa using hL
  have F4:=WK hL aK hu hm;have EP:=WI hL EO jR;have ER:ops[i]?=some ops[i]:=Array.getElem?_eq_getElem aK;have jX:vs[i]?=some vs[i]:=List.getElem?_eq_getElem (by omega);obtain ⟨o',DJ,JL⟩:=aS.2 i _ jX;rw [Array.getElem?_toList,ER] at DJ;simp only [Option.some.injEq] at DJ;subst DJ;obtain ⟨p1,p2,p3,p4⟩:=Ws JL;have Lj:∀ j,(L.setIfInBounds i true).getD j true=false->L.getD j true=false:=fun j hj=>by
   rw [zP] at hj
   split at hj
   .simp at hj
   .exact hj
  cases jQ:sU vs[i] with
  | true =>
   obtain ⟨wF,DK,d,hd,uu⟩:=bG.idle i _ jX jQ;have WQ:=aj i _ jX jQ hu d hd;obtain ⟨av,Qd,nI⟩:=Ua jQ WQ;simp only [Eff.val.injEq] at Qd;subst Qd;have fF:step cl (mask vs L env) H vs[i].op=some (.val (env d)):=nI _ _ zh5 fun t ht=>P9 fun i' v' og uW oJ=>by
    obtain ⟨Ll,_⟩:=bG.idle i' v' og uW;obtain ⟨_,h3⟩:=bG.once i i' _ v' _ wF Ll jX og ER t oJ;obtain ⟨_,e,he,hb,DL⟩:=h3 (by simp [ae.reads,ht]);have:=jR _ ER e he hb;rw [DL] at this;exact this
   have oW:=JH hR.env p2 (b:=true) (by rw [DK];rfl) rfl;unfold wpOpIn;simp only [ER];rw [oW];simp only [if_true]
   refine TU fe hR.heap hR.env p1 fF fun u w' hp=>?_
   obtain ⟨φ',g1,g2⟩:=hR.after (d:=ops[i].dst) p4 hp;have WR:mY (mask vs L env) ops[i].dst (apply H (.val (env d))).1=mask vs (L.setIfInBounds i true) env:=by
    rw [<- p3,hd]
    funext t
    simp only [mY,upd,apply]
    split
    .rename_i ht;subst ht
     refine (P9 fun i' v' og uW oJ=>?_).symm
     obtain ⟨Ll,_⟩:=bG.idle i' v' og uW;have oU:i=i':=by
      rcases Decidable.em (i=i') with h|h
      .exact h
      .exact absurd hd ((bG.once i i' _ v' _ wF Ll jX og ER t oJ).1 h)
     rw [zP,if_pos ⟨oU,by omega⟩]
    .rename_i ht
     refine (zhS (fun i' v' og uW oJ=>?_) rfl).symm
     rw [zP,if_neg];rintro ⟨rfl,_⟩;rw [jX] at og;simp only [Option.some.injEq] at og;subst og;rw [hd] at oJ;simp only [Option.some.injEq] at oJ;exact ht oJ.symm
   rw [WR] at g2
   refine ih k _ env H φ' _ w' env' H' F4 Lh hks BI (fun j hj DN=>?_) (fun j hj DR=>?_) EP (fun j v hv hi hl=>aj j v hv hi (Lj j hl)) hr g2 fun φ'' a' w'' h3 h4=>hQ φ'' a' w'' (g1.trans h3) h4
   .rw [zP]
    split
    .rfl
    .exact h1 j hj DN
   .rw [zP,if_neg (by omega)];exact h2 j hj DR
  | false =>
   have Gj:i=k:=by
    rcases Nat.lt_trichotomy i k with h|h|h
    .have:=h1 i h (by unfold Bw;rw [jX];exact jQ);rw [hu] at this;simp at this
    .exact h
    .exfalso;have hki:Bw vs k=false:=by
      unfold Bw;have Ub:vs[k]?=some vs[k]:=List.getElem?_eq_getElem (by omega);rw [Ub]
      cases hq:sU vs[k] with
      | false=>exact hq
      | true=>have:=(bG.idle k _ Ub hq).1;omega
     have:=(bG.wait i _ ER (by omega) k h hki).done EO jR;rw [h2 k (Nat.le_refl _) (by omega)] at this;simp at this
   subst Gj;have oV:∀ j,j < i+1->Bw vs j=false->(L.setIfInBounds i true).getD j true=true:=fun j hj DN=>by
    rw [zP]
    split
    .rfl
    .rename_i bL;exact h1 j (by rw [hL] at bL;omega) DN
   have JM:∀ j,i+1<=j->j < ops.size->(L.setIfInBounds i true).getD j true=false:=fun j hj DR=>by
    rw [zP,if_neg (by omega)];exact h2 j (by omega) DR
   have uW:∀ (H2:Heap) (av:AV),(∀ (j:Nat) v,vs[j]?=some v->(L.setIfInBounds i true).getD j true=false->NW v env H H2)->∀ (j:Nat) v,vs[j]?=some v->sU v=true->(L.setIfInBounds i true).getD j true=false->∀ d,v.dst=some d->step cl (mY env vs[i].dst av) H2 v.op=some (.val (mY env vs[i].dst av d)):=by
    intro H2 av ag j v hv Lm Uc d hd;obtain ⟨_,_,d',oJ,uu⟩:=bG.idle j _ hv Lm;have Qe:d=d':=by rw [hd] at oJ;simpa using oJ
    subst Qe;have fF:=aj j _ hv Lm (Lj j Uc) d hd;have bL:=uu i _ (by omega) jX;have lq:∀ t,vs[i].dst≠some t->mY env vs[i].dst av t=env t:=fun t ht=>by
     cases hd:vs[i].dst with
     | none=>rfl
     | some y=>simp only [mY,upd];rw [if_neg (fun e=>ht (by rw [hd,e]))]
    rw [lq d bL.1];obtain ⟨av',Qd,nI⟩:=Ua Lm fF;simp only [Eff.val.injEq] at Qd;subst Qd;exact nI _ _ (ag j v hv Uc) fun t ht=>lq t (bL.2.1 t ht)
   have WS:∀ t∈vs[i].plain.reads,mask vs L env t=env t:=fun t ht=>P9 fun i' v' og jJ oJ=>by
    obtain ⟨_,_,d',Ha,uu⟩:=bG.idle i' _ og jJ;have Qe:t=d':=by rw [oJ] at Ha;simpa using Ha
    subst Qe;exact ((uu i _ (by omega) jX).2.2 ht).done EO jR
   have JN:∀ av,mY (mask vs L env) ops[i].dst av=mask vs (L.setIfInBounds i true) (mY env vs[i].dst av):=by
    intro av;rw [<- p3]
    funext t
    have JO:∀ iM:Env,iM t=env t->mask vs (L.setIfInBounds i true) iM t=mask vs L env t:=fun iM he=>zhS (fun i' v' og jJ oJ=>by
     rw [zP,if_neg];rintro ⟨rfl,_⟩;rw [jX] at og;simp only [Option.some.injEq] at og;subst og;rw [jQ] at jJ;simp at jJ) he
    cases NY:vs[i].dst with
    | none=>exact (JO env rfl).symm
    | some y =>
     simp only [mY,upd]
     split
     .rename_i ht;subst ht;have:mask vs (L.setIfInBounds i true) (upd env t av) t=upd env t av t:=P9 fun i' v' og jJ oJ=>by
       obtain ⟨_,_,d',Ha,uu⟩:=bG.idle i' _ og jJ;have Qe:t=d':=by rw [oJ] at Ha;simpa using Ha
       subst Qe;exact absurd NY (uu i _ (by omega) jX).1
      simpa [upd] using this.symm
     .rename_i ht;exact (JO _ (by simp only [upd];rw [if_neg ht])).symm
   have Lp:vs.drop i=vs[i]::vs.drop (i+1):=List.drop_eq_getElem_cons (by omega);rw [Lp,Wt] at hr;unfold wpOpIn;simp only [ER]
   split at hr
   .simp at hr
   .rename_i hw;have oW:=JH hR.env p2 (b:=false) (by rw [show wanted (mask vs L env) vs[i].guard=wanted env vs[i].guard from NS (v:=vs[i].plain) WS];exact hw) rfl;rw [oW];simp only [Bool.false_eq_true,if_false]
    refine ⟨fun _ _=>trivial,?_⟩
    have qh:=hR.put bY.refl hR.heap (d:=ops[i].dst) p4 (PZ (φ:=φ) (w:=w));rw [JN] at qh;exact ih (i+1) _ _ _ _ _ _ _ _ F4 (by omega) (by omega) BI oV JM EP (uW _ _ fun _ _ _ _=>zh5) hr qh hQ
   .rename_i hw;have oW:=JH hR.env p2 (b:=true) (by rw [show wanted (mask vs L env) vs[i].guard=wanted env vs[i].guard from NS (v:=vs[i].plain) WS];exact hw) rfl;rw [oW];simp only [if_true]
    split at hr
    .simp at hr
    .rename_i e he
     split at hr
     .rename_i uU;exact absurd rfl uU.1
     .have Gh:step cl (mask vs L env) H vs[i].op.plain=some e:=by
       rw [PY (env':=env) fun t ht=>WS t (by simp [ae.reads,ae.plain,ht])];exact Wp he
      have BB:∀ (j:Nat) v,vs[j]?=some v->(L.setIfInBounds i true).getD j true=false->NW v env H (apply H e).2:=fun j v hv Uc=>by
       cases WT:Js v with
       | none=>exact fun x hx=>by rw [WT] at hx;simp at hx
       | some x =>
        rcases bG.mem j i v _ x hv WT (by omega) jX with h|h|h
        .exact (zqg h he).reads
        .exact zlQ (fun y hy=>by rw [WT] at hy;simp only [Option.some.injEq] at hy;rw [<- hy];exact h) he
        .have:=h.done EO jR;rw [Lj j Uc] at this;simp at this
      refine ztu fe hR.heap hR.env p1 Gh fun u w' hp=>?_
      obtain ⟨φ',g1,g2⟩:=hR.after (d:=ops[i].dst) p4 hp;rw [JN] at g2;exact ih (i+1) _ _ _ _ _ _ _ _ F4 (by omega) (by omega) BI oV JM EP (uW _ _ BB) hr g2 fun φ'' a' w'' h3 h4=>hQ φ'' a' w'' (g1.trans h3) h4
theorem zpS {cl:Callee} (fe:bz C P cl) {ops:Array Oper} {vs:List ae} {pre:Nat} (bG:Ac ops vs pre) (rJ:pre<=ops.size) (iB:yH P Z nt ops ops.toList=some vs) {aO:Env} {Hp HI:Heap} {ids:Nat->Nat} {w0:World} {tgt:Nat->Nat} {obj:Nat->aR}
  (tC:Sol cl (vs.take pre) pre env H aO Hp ids) (tF:uq cl vs pre (inits vs pre) aO Hp tgt obj) (Gj:pre+inits vs pre<=ops.size)
  (WU:∀ L:Array Bool,(∀ i,pre<=i->i < pre+inits vs pre->L.getD i true=true)->fO Hp pre (inits vs pre) tgt obj L=HI) (Qf:zY cl 0 (vs.drop (pre+inits vs pre)) aO HI=some (env',H'))
  (hQ:∀ φ' a' w',bY φ0 H w0 φ' H' w'->R C S base lo nt φ' H' env' a' w'->Q .normal a' w'):∀ (m:Nat) (L:Array Bool) (φ:iX) (a:Act) (w:World),
  m=(List.range ops.size).countP (fun i=>!L.getD i true)->L.size=ops.size->(∀ i,pre+inits vs pre<=i->i < ops.size->L.getD i true=false) ->
  Le ops C S base lo nt cl vs pre aO Hp (fO Hp pre (inits vs pre) tgt obj) ids φ0 H w0 L φ a w->wpAnyIn (Fw ro) n P .any ops Q m L a w:=by
 have aS:=P5 iB;have Qb:vs.length=ops.size:=by simpa using aS.1
 have WV:∀ (i:Nat) v,vs[i]?=some v->sU v=true->∀ d,v.dst=some d->step cl aO Hp v.op=some (.val (aO d)):=by
  intro i v hv jQ d hd;obtain ⟨wF,DK,_⟩:=bG.idle i v hv jQ;have WW:(vs.take pre)[i]?=some v:=by rw [List.getElem?_take_of_lt wF];exact hv
  rcases tC.each i v wF WW with ⟨hw,_⟩|⟨_,e,he,_,aY⟩
  .rw [DK] at hw;simp [wanted] at hw
  .obtain ⟨av,rfl,_⟩:=Ua jQ he;rw [he,aY d hd]
 have ES:∀ (m:Nat) (L:Array Bool) (φ:iX) (a:Act) (w:World),m=(List.range ops.size).countP (fun i=>!L.getD i true)->L.size=ops.size->(∀ i,pre+inits vs pre<=i->i < ops.size->L.getD i true=false) ->
   Le ops C S base lo nt cl vs pre aO Hp (fO Hp pre (inits vs pre) tgt obj) ids φ0 H w0 L φ a w->(∀ i,i < pre+inits vs pre->Bw vs i=false->L.getD i true=true)->wpAnyIn (Fw ro) n P .any ops Q m L a w:=by
  intro m L φ a w hm hL h2 hD bM;have WX:∀ i,pre<=i->i < pre+inits vs pre->Bw vs i=false:=fun i h1 h2=>by
   obtain ⟨_,s,b,x,hv,_⟩:=bG.TY i h1 h2;unfold Bw;rw [hv];rfl
  have Ho:fO Hp pre (inits vs pre) tgt obj L=HI:=WU L fun i h1 h2=>bM i h2 (WX i h1 h2);have hR:R C S base lo nt φ HI (mask vs L aO) a w:=⟨by rw [<- Ho];exact hD.heap,fun t=>by
   rw [<- Ho]
   by_cases ht:∃ (i:Nat) (v:ae),vs[i]?=some v/\sU v=true/\L.getD i true=false/\v.dst=some t
   .have:mask vs L aO t=.undef:=by unfold mask;rw [if_pos ht]
    rw [this];exact .undef _
   .have:mask vs L aO t=aO t:=by unfold mask;rw [if_neg ht]
    rw [this]
    refine hD.env t fun i v hi hl hv hd=>ht ⟨i,v,hv,?_,hl,hd⟩
    cases hq:sU v with
    | true=>rfl
    | false =>
     have:=bM i (by omega) (by unfold Bw;rw [hv];exact hq);rw [hl] at this;simp at this,hD.size,hD.tu,hD.defs⟩
  have j4:=hD.WA;rw [Ho] at j4;exact zpi fe bG iB m (pre+inits vs pre) L aO HI φ a w env' H' hm (Nat.le_refl _) Gj hL bM h2 hD.closed (fun i v hv aj _ d hd=>by
   have h:=WV i v hv aj d hd;obtain ⟨av,h5,h6⟩:=Ua aj h;rw [h6 aO HI (jo.reads (by rw [<- Ho];exact (zmc tF).same)) (fun _ _=>rfl),h5]) Qf hR fun φ' a' w' h3 h4=>hQ φ' a' w' (j4.trans h3) h4
 intro m
 induction m with
 | zero =>
  intro L φ a w hm hL h2 hD
  refine ES 0 L φ a w hm hL h2 hD fun i hi _=>?_
  have:=List.countP_eq_zero.1 hm.symm i (List.mem_range.2 (by omega))
  simpa using this
 | succ m ih =>
  intro L φ a w hm hL h2 hD
  by_cases JP:∀ i,i < pre+inits vs pre->Bw vs i=false->L.getD i true=true
  .exact ES (m+1) L φ a w hm hL h2 hD JP
  have hex:∃ i,i < pre+inits vs pre/\Bw vs i=false/\L.getD i true=false:=by
   rcases Classical.em (∃ i,i < pre+inits vs pre/\Bw vs i=false/\L.getD i true=false) with h|h
   .exact h
   .refine absurd (fun i hi jQ=>?_) JP
    cases hq:L.getD i true with
    | true=>rfl
    | false=>exact absurd ⟨i,hi,jQ,hq⟩ h
  have rM:∀ i∈Region.ready .any ops L,i < pre+inits vs pre:=fun i hi=>by
   obtain ⟨hu,aK,jR⟩:=NV hL bG.back hi;rcases Nat.lt_or_ge i (pre+inits vs pre) with h|h
   .exact h
   .exfalso;obtain ⟨j,hj,Qg,jm⟩:=hex;have:=(bG.wait i _ (Array.getElem?_eq_getElem aK) h j (by omega) Qg).done hD.closed jR;rw [jm] at this;simp at this
  have rO:Region.ready .any ops L≠[]:=by
   obtain ⟨j,hj,Qg,jm⟩:=hex;exact WG hL bG.back ⟨j,by omega,jm⟩
  refine ⟨fun h=>absurd h rO,fun i hi=>?_⟩
  have Hr:=rM i hi;obtain ⟨hu,o,ho,bM⟩:=mem_ready.1 hi;have aU:i < vs.length:=by omega
  have jX:vs[i]?=some vs[i]:=List.getElem?_eq_getElem aU;obtain ⟨o',DJ,JL⟩:=aS.2 i _ jX;have Qh:o'=o:=by
   rw [Array.getElem?_toList] at DJ;rw [DJ] at ho
   simpa using ho
  subst Qh;obtain ⟨p1,p2,p3,p4⟩:=Ws JL;have pI:=WK hL (show i < ops.size by omega) hu hm;have BI:(L.setIfInBounds i true).size=ops.size:=by simpa using hL
  have JM:∀ j,pre+inits vs pre<=j->j < ops.size->(L.setIfInBounds i true).getD j true=false:=fun j hj DR=>by
   rw [zP,if_neg (by omega)];exact h2 j hj DR
  have Ht:∀ j,(L.setIfInBounds i true).getD j true=false->j≠i/\L.getD j true=false:=fun j hj=>by
   rw [zP] at hj
   split at hj
   .simp at hj
   .rename_i bL
    refine ⟨fun e=>bL ⟨e.symm,by rw [e,hL];omega⟩,hj⟩
  have BJ:=WI hL hD.closed (NV hL bG.back hi).2.2;have JQ:∀ e∈o'.after,Region.binds .any e=true->L.getD e.on true=true:=fun e he hb=>(NV hL bG.back hi).2.2 o' ho e he hb;rcases Nat.lt_or_ge i pre with wF|wF
  .have WW:(vs.take pre)[i]?=some vs[i]:=by rw [List.getElem?_take_of_lt wF];exact jX
   -- what it reads is there
   have Ad:∀ t∈vs[i].reads,aA (aQ S base φ (fO Hp pre (inits vs pre) tgt obj L) w) φ w (aO t) (a.tmps.getD t undef):=fun t ht=>by
    refine hD.env t fun j v hj jm vK hd=>?_
    obtain ⟨_,h3⟩:=bG.once i j _ v o' wF hj jX vK ho t hd;obtain ⟨_,e,he,hb,DL⟩:=h3 ht;have:=JQ e he hb;rw [DL,jm] at this;simp at this
   let u7:Env:=fun t=>if t∈vs[i].reads then aO t else .undef
   have hE:aV (aQ S base φ (fO Hp pre (inits vs pre) tgt obj L) w) φ w u7 a:=fun t=>by
    show aA _ _ _ (if t∈vs[i].reads then aO t else .undef) _
    split
    .rename_i h;exact Ad t h
    .exact .undef _
   have wG:∀ t∈vs[i].reads,u7 t=aO t:=fun t ht=>if_pos ht;have ag:fO Hp pre (inits vs pre) tgt obj (L.setIfInBounds i true)=fO Hp pre (inits vs pre) tgt obj L:=zm6 tF fun j h3 h4=>by
    rw [zP,if_neg (by omega)]
   have sS:∀ (φ':iX) (v:Value) (w':World),bY φ (fO Hp pre (inits vs pre) tgt obj L) w φ' (fO Hp pre (inits vs pre) tgt obj L) w'->aN C S base φ' (fO Hp pre (inits vs pre) tgt obj L) w'->(∀ d,vs[i].dst=some d->aA (aQ S base φ' (fO Hp pre (inits vs pre) tgt obj L) w') φ' w' (aO d) v)->(∀ j,j < pre->(L.setIfInBounds i true).getD j true=false->TZ cl vs aO Hp j->φ' (ids j)=none) ->
     Le ops C S base lo nt cl vs pre aO Hp (fO Hp pre (inits vs pre) tgt obj) ids φ0 H w0 (L.setIfInBounds i true) φ' (a.put o'.dst v) w':=by
    intro φ' v w' j4 WY Hl WZ
    refine ⟨by rw [ag];exact WY,fun t ht=>?_,by rw [zkI];exact hD.size,Nat.le_trans hD.tu j4.size,by rw [zg7];exact NR hD.heap j4 hD.defs,WZ,BJ,by rw [ag];exact hD.WA.trans j4⟩
    rw [ag,zkQ (by rw [hD.size];exact p4)]
    by_cases Hu:o'.dst=some t
    .rw [if_pos Hu];exact Hl t (by rw [p3];exact Hu)
    .rw [if_neg Hu]
     refine j4.uQ (hD.env t fun j v' hj jm vK=>?_)
     by_cases DN:j=i
     .subst DN;rw [jX] at vK;simp at vK;subst vK;rw [p3];exact Hu
     .refine ht j v' hj ?_ vK
      rw [zP,if_neg (fun h=>DN h.1.symm)];exact jm
   have aux:∀ k,k < pre->TZ cl vs aO Hp k->∃ v o f,(vs.take pre)[k]?=some v/\step cl aO Hp v.op=some (.new o f)/\wanted aO v.guard=some true:=fun k hk ⟨v,o,f,h1,h2,h3⟩=>⟨v,o,f,by rw [List.getElem?_take_of_lt hk];exact h1,h2,h3⟩
   unfold wpOpIn;rw [ho];simp only;rcases tC.each i _ wF WW with ⟨hw,hd⟩|⟨hw,e,he,Ld,aY⟩
   .have oW:wanted u7 vs[i].guard=some false:=by rw [NS wG];exact hw
    rw [JH hE p2 oW rfl];simp only [Bool.false_eq_true,if_false]
    refine ⟨fun _ _=>trivial,ih _ φ _ w pI BI JM (sS φ undef w bY.refl hD.heap (fun d oJ=>by rw [hd d oJ];exact PZ) fun j hj jm hn=>hD.phi j hj (Ht j jm).2 hn)⟩
   .have oW:wanted u7 vs[i].guard=some true:=by rw [NS wG];exact hw
    rw [JH hE p2 oW rfl];simp only [if_true];have Gh:step cl u7 (fO Hp pre (inits vs pre) tgt obj L) vs[i].op=some e:=by
     rw [PY (env':=aO) fun t ht=>wG t (by simp [ae.reads,ht])];exact zjf (zmc tF) Ld he
    refine TU fe hD.heap hE p1 Gh fun v w' hp=>?_
    cases e with
    | val av =>
     obtain ⟨g1,g2⟩:=hp;exact ih _ φ _ w' pI BI JM (sS φ v w' (bY.of_below g1) (hD.heap.below g1) (fun d oJ=>by rw [aY d oJ];exact g2) fun j hj jm hn=>hD.phi j hj (Ht j jm).2 hn)
    | new ob f =>
     obtain ⟨b,mm,g1,g2,g3,g4,g5⟩:=hp;obtain ⟨r1,r2,r3⟩:=aY;have aW:TZ cl vs aO Hp i:=⟨_,ob,f,jX,he,hw⟩
     have JR:=hD.phi i wF hu aW
     -- nothing was written there yet
     have r2':(fO Hp pre (inits vs pre) tgt obj L).get (ids i)=ob:=by
      rw [WC fun j PG DF Ud W9=>?_]
      .exact r2
      .obtain ⟨DR,s,b',x,vK,jR⟩:=bG.TY j PG DF;obtain ⟨off,z',jf,_⟩:=tF.each j PG DF s b' x vK;have hgj:ops[j]?=some ops[j]:=Array.getElem?_eq_getElem DR;have hbr:=hD.env b' fun i' v bT Xa Xb WO=>by
        obtain ⟨e2,DT,Wm,DL⟩:=jR _ hgj i' _ b' bT Xb WO (by simp [ae.reads,jZ.reads,oC]);have:=hD.closed j _ hgj Ud e2 DT Wm;rw [DL,Xa] at this;simp at this
       rw [jf] at hbr;obtain ⟨b2,n2,jJ,_⟩:=hbr.jP;rw [W9,JR] at jJ;simp at jJ
     have hn:=hD.heap.new (H':=fO Hp pre (inits vs pre) tgt obj L) (id:=ids i) g1 JR r2' (fun _ _ _=>rfl) r1 (Nat.le_refl _) g2 g3 g4
     refine ih _ _ _ w' pI BI JM (sS _ v w' hn.1 hn.2 (fun d oJ=>by rw [r3 d oJ];exact g5 _ _ _ (yx _ _)) fun j hj jm hnj=>?_)
     obtain ⟨DN,Xc⟩:=Ht j jm;rw [zW _ fun e=>DN (tC.EL j i hj wF (aux j hj hnj) (aux i wF aW) e)];exact hD.phi j hj Xc hnj
    | upd av H1=>exact aY.elim
  ·-- a first write
   obtain ⟨oh,s,b,x,Xd,jR⟩:=bG.TY i wF Hr;obtain ⟨off,z,hb,hz,fF⟩:=tF.each i wF Hr s b x Xd;have Xe:vs[i]=⟨none,.bq s (.tmp b) x,none⟩:=by rw [jX] at Xd;simpa using Xd
   rw [Xe] at p1 p2 p3;simp only at p1 p2 p3;have Ad:∀ t∈ae.reads ⟨none,.bq s (.tmp b) x,none⟩,aA (aQ S base φ (fO Hp pre (inits vs pre) tgt obj L) w) φ w (aO t) (a.tmps.getD t undef):=fun t ht=>by
    refine hD.env t fun j v hj jm vK hd=>?_
    obtain ⟨e,he,hb3,DL⟩:=jR o' ho j v t hj vK hd ht;have:=JQ e he hb3;rw [DL,jm] at this;simp at this
   let u7:Env:=fun t=>if t∈ae.reads ⟨none,.bq s (.tmp b) x,none⟩ then aO t else .undef
   have hE:aV (aQ S base φ (fO Hp pre (inits vs pre) tgt obj L) w) φ w u7 a:=fun t=>by
    show aA _ _ _ (if t∈ae.reads ⟨none,.bq s (.tmp b) x,none⟩ then aO t else .undef) _
    split
    .rename_i h;exact Ad t h
    .exact .undef _
   have wG:∀ t∈ae.reads ⟨none,.bq s (.tmp b) x,none⟩,u7 t=aO t:=fun t ht=>if_pos ht;have Xf:(fO Hp pre (inits vs pre) tgt obj L).get (tgt i)=.raw z:=by
    rw [WC fun j PG DF Ud W9=>?_]
    .exact hz
    .have:=tF.inj j i PG DF wF Hr W9;subst this;rw [hu] at Ud;simp at Ud
   have JS:step cl u7 (fO Hp pre (inits vs pre) tgt obj L) (.bq s (.tmp b) x)=some (.upd (.aM []) ((fO Hp pre (inits vs pre) tgt obj L).set (tgt i) (obj i))):=by
    rw [PY (env':=aO) fun t ht=>wG t (by simp [ae.reads,ht])];exact fF _ Xf
   rw [zqG tF wF Hr (by omega)] at JS;unfold wpOpIn;rw [ho];simp only;rw [JH hE p2 (b:=true) rfl rfl];simp only [if_true];rw [<- p3] at p1;obtain ⟨H2,DU,hw⟩:=zjA (ro:=ro) (n:=n) (Q:=Q) (K:=fun a' w'=>wpAnyIn (Fw ro) n P .any ops Q m (L.setIfInBounds i true) a' w') hD.heap hE (ziN p1) JS;simp only [Eff.upd.injEq,true_and] at DU;subst DU
   refine hw fun w' j4 WY=>?_
   rw [<- p3]
   refine ih _ φ _ w' pI BI JM ⟨WY,fun t ht=>?_,hD.size,Nat.le_trans hD.tu j4.size,NR hD.heap j4 hD.defs,fun j hj jm hn=>hD.phi j hj (Ht j jm).2 hn,BJ,hD.WA.trans j4⟩
   refine j4.uQ (hD.env t fun j v' hj jm vK=>ht j v' hj ?_ vK)
   rw [zP,if_neg (by omega)];exact jm
theorem Xg {cl:Callee} (fe:bz C P cl) {ops:Array Oper} {vs:List ae} {pre:Nat} (bG:F5 ops vs pre=true) (rJ:pre<=ops.size) (iB:yH P Z nt ops ops.toList=some vs)
  (hr:zY cl pre vs env H=some (env',H')) (hR:R C S base lo nt φ H env a w) (hQ:∀ φ' a' w',bY φ H w φ' H' w'->R C S base lo nt φ' H' env' a' w'->Q .normal a' w') :
  wpAnyIn (Fw ro) n P .any ops Q ops.size (Array.replicate ops.size false) a w:=by
 have hlen:vs.length=ops.size:=by have:=(P5 iB).1;simpa using this
 have hD:=zlZ hlen bG;obtain ⟨aO,Hp,h1,h2⟩:=Wu cl pre vs env H _ (by omega) hr;have aS:=P5 iB;have Qi:Once (vs.take pre):=fun i j x y hx hy d hd=>by
  have hi:i < pre:=by have:=(List.getElem?_eq_some_iff.1 hx).1;simp at this;omega
  have hj:j < pre:=by have:=(List.getElem?_eq_some_iff.1 hy).1;simp at this;omega
  rw [List.getElem?_take_of_lt hi] at hx;rw [List.getElem?_take_of_lt hj] at hy;obtain ⟨o,ho,_⟩:=aS.2 i _ hx;rw [Array.getElem?_toList] at ho;have:=hD.once i j x y o hi hj hx hy ho d hd;exact ⟨this.1,fun hm=>(this.2 hm).1⟩
 obtain ⟨ids,tC⟩:=Wv cl (vs.take pre) env H aO Hp pre (by simp;omega) Qi h1;have hl:(vs.take pre).length=pre:=by rw [List.length_take];omega
 rw [hl] at tC;have yV:Below w.heap.size w w:=Below.refl _ w;have qh:R C S base lo nt φ H env a w:=hR;have wE:=qh.heap.ext' tC.keep tC.nx;obtain ⟨tgt,obj,HI,tF,fD,ha,hb,bC⟩:=zkc (k:=inits vs pre) (fun i h3 h4=>by obtain ⟨_,s,b,x,hv,_⟩:=hD.TY i h3 h4;exact ⟨s,b,x,hv⟩) h2;have Gj:pre+inits vs pre<=ops.size:=by
  unfold inits;have:=(List.takeWhile_sublist NC (l:=vs.drop pre)).length_le;simp only [List.length_drop] at this;omega
 have Lr:fO Hp pre (inits vs pre) tgt obj (Array.replicate ops.size false)=Hp:=Heap.ext' rfl fun id=>NU fun i h3 h4 h5=>by
  simp [show i < ops.size by omega] at h5
 have WU:∀ L:Array Bool,(∀ i,pre<=i->i < pre+inits vs pre->L.getD i true=true)->fO Hp pre (inits vs pre) tgt obj L=HI:=fun L hL=>by
  refine Heap.ext' fD.symm fun id=>?_
  by_cases hx:∃ i,pre<=i/\i < pre+inits vs pre/\tgt i=id
  .obtain ⟨i,h3,h4,rfl⟩:=hx;rw [NT tF h3 h4 (hL i h3 h4),hb i h3 h4]
  .rw [NU (fun i h3 h4 _ h5=>hx ⟨i,h3,h4,h5⟩),ha id fun i h3 h4 h5=>hx ⟨i,h3,h4,h5⟩]
 have pI:(List.range ops.size).countP (fun i=>!(Array.replicate ops.size false).getD i true)=ops.size:=by
  have:(List.range ops.size).countP (fun i=>!(Array.replicate ops.size false).getD i true)=(List.range ops.size).length:=List.countP_eq_length.2 fun i hi=>by
   have:=List.mem_range.1 hi;simp [this]
  simpa using this
 have:=zpS (ro:=ro) (n:=n) (Q:=Q) fe hD rJ iB tC tF Gj WU bC (φ0:=φ) (w0:=w) (fun φ' a' w' h3 h4=>hQ φ' a' w' h3 h4) ops.size (Array.replicate ops.size false) φ a w pI.symm (by simp) (fun i _ hi=>by simp [hi]) ⟨by rw [Lr];exact wE.2,fun t ht=>?_,qh.size,qh.tu,qh.defs,fun i hi _ _=>?_,fun i o ho hd=>?_,by rw [Lr];exact (bY.of_below yV).trans wE.1⟩
 .exact this
 .rw [Lr];have hold:aO t=env t:=tC.old t fun i v hi hv=>by
   rw [List.getElem?_take_of_lt hi] at hv;exact ht i v hi (by simp [show i < ops.size by omega]) hv
  rw [hold];exact wE.1.uQ (qh.env t)
 .cases hc:φ (ids i) with
  | none=>rfl
  | some x =>
   have h3:=hR.heap.nx _ _ hc;have h4:=tC.Hg i hi;omega
 .have bT:i < ops.size:=(Array.getElem?_eq_some_iff.1 ho).1;simp [bT] at hd
theorem wH:bY φ H w φ H w.drew:=bY.of_below ((Below.refl _ w).drew)
theorem Xh (hR:R C S base lo nt φ H env a w):R C S base lo nt φ H env a w.drew :=
 ⟨hR.heap.below ((Below.refl _ w).drew),fun t=>(bY.of_below ((Below.refl _ w).drew)).uQ (hR.env t),hR.size,hR.tu,NR hR.heap (bY.of_below ((Below.refl _ w).drew)) hR.defs⟩
theorem zrk {cl:Callee} (fe:bz C P cl) {ops:Array Oper} {vs:List ae} {pre:Nat} (bG:F5 ops vs pre=true) (rJ:pre<=ops.size) (iB:yH P Z nt ops ops.toList=some vs)
  (hr:zY cl pre vs env H=some (env',H')) (hR:R C S base lo nt φ H env a w) (hQ:∀ φ' a' w',bY φ H w φ' H' w'->R C S base lo nt φ' H' env' a' w'->Q .normal a' w') :
  wpAnyIn (Fw ro) n P .any ops Q ops.size (Array.replicate ops.size false) a w.drew :=
 Xg fe bG rJ iB hr (Xh hR) fun φ' a' w' he qh=>hQ φ' a' w' ((bY.of_below ((Below.refl _ w).drew)).trans he) qh
theorem zrS {cl:Callee} (fe:bz C P cl) (nN:P.follows .mixedOrders=true) {id:Nat} {ops:Array Oper} {vs:List ae} {pre:Nat} (bG:F5 ops vs pre=true) (rJ:pre<=ops.size) (iB:yH P Z nt ops ops.toList=some vs)
  (hr:zY cl pre vs env H=some (env',H')) (hR:R C S base lo nt φ H env a w) (hQ:∀ φ' a' w',bY φ H w φ' H' w'->R C S base lo nt φ' H' env' a' w'->Q .normal a' w') :
  (Code.region id ops true).wpIn (Fw ro) n P Q a w:=by
 refine wpIn_region_any nN ?_
 exact zrk fe bG rJ iB hr hR hQ
end
open Go
structure Perm (pos inv:Nat->Nat) (n:Nat):Prop where
 lt:∀ i,i < n->pos i < n
 out:∀ i,n<=i->pos i=i
 li:∀ i,inv (pos i)=i
 ri:∀ i,pos (inv i)=i
section
variable {pos inv:Nat->Nat} {ops ops':Array Oper} {F:Fence} {n:Nat} {P:Program} {Q:Exit->Act->World->Prop}
theorem Perm.Ls (h:Perm pos inv n) {i:Nat} (hi:i < n):inv i < n:=by
 rcases Nat.lt_or_ge (inv i) n with h1|h1
 .exact h1
 .have:=h.out _ h1;rw [h.ri] at this;omega
theorem zqS {L L':Array Bool} (hp:Perm pos inv ops.size) (hL:L.size=ops.size) (BI:L'.size=ops.size) (h:∀ i d,L'.getD (pos i) d=L.getD i d) {i:Nat} (hi:i < ops.size) :
  ∀ j d,(L'.setIfInBounds (pos i) true).getD (pos j) d=(L.setIfInBounds i true).getD j d:=by
 intro j d;rw [zP,zP,h j d]
 by_cases e:i=j
 .subst e;rw [if_pos ⟨rfl,by rw [BI];exact hp.lt i hi⟩,if_pos ⟨rfl,by rw [hL];exact hi⟩]
 .rw [if_neg (fun h1=>e (by have:=congrArg inv h1.1;rwa [hp.li,hp.li] at this)),if_neg (fun h1=>e h1.1)]
theorem iZ {L:Array Bool} {i:Nat}:i∈Region.ready .any ops L↔i < ops.size/\L.getD i true=false/\∃ o,ops[i]?=some o/\∀ e∈o.after,Region.binds .any e=true->L.getD e.on false=true:=by
 unfold Region.ready;simp only [List.mem_filter,List.mem_range,Bool.and_eq_true,Bool.not_eq_true']
 constructor
 .rintro ⟨h1,h2,h3⟩
  refine ⟨h1,h2,ops[i],Array.getElem?_eq_getElem h1,?_⟩
  rw [Array.getElem?_eq_getElem h1] at h3;simp only [Option.map_some,Option.getD_some,Array.all_eq_true_iff_forall_mem] at h3;intro e he hb;have:=h3 e he
  simpa [hb] using this
 .rintro ⟨h1,h2,o,h3,h4⟩
  refine ⟨h1,h2,?_⟩
  rw [h3];simp only [Option.map_some,Option.getD_some,Array.all_eq_true_iff_forall_mem];intro e he
  cases hb:Region.binds .any e with
  | false=>rfl
  | true=>simp [h4 e he hb]
theorem Xi {L L':Array Bool} (hp:Perm pos inv ops.size) (hs:ops'.size=ops.size) (ah:∀ i o,ops[i]?=some o->ops'[pos i]?=some (Et pos o)) (h:∀ i d,L'.getD (pos i) d=L.getD i d) {i:Nat} :
  i∈Region.ready .any ops L↔pos i∈Region.ready .any ops' L':=by
 rw [iZ,iZ,hs]
 constructor
 .rintro ⟨h1,h2,o,h3,h4⟩
  refine ⟨hp.lt i h1,by rw [h];exact h2,_,ah i o h3,?_⟩
  intro e he hb;simp only [Et,Array.mem_map] at he;obtain ⟨e0,Xj,rfl⟩:=he;have:=h4 e0 Xj hb;simp only [Vz];rw [h];exact this
 .rintro ⟨h1,h2,o,h3,h4⟩;have hi:i < ops.size:=by
   have:=hp.Ls h1;rwa [hp.li] at this
  refine ⟨hi,by rw [<- h i];exact h2,ops[i],Array.getElem?_eq_getElem hi,?_⟩
  have h5:=ah i _ (Array.getElem?_eq_getElem hi);rw [h3] at h5;obtain rfl:=Option.some.inj h5;intro e he hb;have:=h4 (Vz pos e) (by simp only [Et,Array.mem_map];exact ⟨e,he,rfl⟩) hb;rw [<- h e.on];exact this
theorem zkE {tmps:Array Value} (hp:Perm pos inv ops.size) (hs:ops'.size=ops.size) (ah:∀ i o,ops[i]?=some o->ops'[pos i]?=some (Et pos o)) (j:Nat):yielded ops' tmps (pos j)=yielded ops tmps j:=by
 unfold yielded
 by_cases hj:j < ops.size
 .rw [Array.getElem?_eq_getElem hj,ah j _ (Array.getElem?_eq_getElem hj)];rfl
 .rw [hp.out j (by omega),Array.getElem?_eq_none (by omega),Array.getElem?_eq_none (by omega)]
theorem zmb {tmps:Array Value} (hp:Perm pos inv ops.size) (hs:ops'.size=ops.size) (ah:∀ i o,ops[i]?=some o->ops'[pos i]?=some (Et pos o)) (o:Oper):Region.wanted (Et pos o) (yielded ops' tmps)=Region.wanted o (yielded ops tmps):=by
 unfold Region.wanted;simp only [Et]
 cases o.guard with
 | none=>rfl
 | some g=>simp only [Option.map_some];rw [zkE hp hs ah]
theorem zpe {i:Nat} (hp:Perm pos inv ops.size) (hs:ops'.size=ops.size) (ah:∀ i o,ops[i]?=some o->ops'[pos i]?=some (Et pos o)) (hi:i < ops.size) {K:Act->World->Prop} {a:Act} {w:World} (h:wpOpIn F n P ops' Q (pos i) K a w):wpOpIn F n P ops Q i K a w:=by
 unfold wpOpIn at *;have hg:=Array.getElem?_eq_getElem hi;rw [ah i _ hg] at h;rw [hg];simp only at h ⊢;rw [zmb hp hs ah] at h;exact h
theorem zmK (hp:Perm pos inv ops.size) (hs:ops'.size=ops.size) (ah:∀ i o,ops[i]?=some o->ops'[pos i]?=some (Et pos o)):∀ (m:Nat) (L L':Array Bool) (a:Act) (w:World),L.size=ops.size->L'.size=ops.size->(∀ i d,L'.getD (pos i) d=L.getD i d) ->
  wpAnyIn F n P .any ops' Q m L' a w->wpAnyIn F n P .any ops Q m L a w:=by
 intro m
 induction m with
 | zero =>
  intro L L' a w hL BI h hw
  refine ⟨?_,hw.2⟩
  rw [List.eq_nil_iff_forall_not_mem];intro i hi;have:=(Xi hp hs ah h).1 hi;rw [hw.1] at this;simp at this
 | succ m ih =>
  intro L L' a w hL BI h hw
  refine ⟨fun hr=>hw.1 ?_,fun i hi=>?_⟩
  .rw [List.eq_nil_iff_forall_not_mem];intro p Xk;have h1:pos (inv p)∈Region.ready .any ops' L':=by rw [hp.ri];exact Xk
   have:=(Xi hp hs ah h).2 h1;rw [hr] at this;simp at this
  .have bT:=(iZ.1 hi).1;have h1:=zpe hp hs ah bT (hw.2 _ ((Xi hp hs ah h).1 hi))
   refine wpOpIn_mono (fun a' w' hk=>?_) h1
   exact ih _ _ _ _ (by simpa using hL) (by simpa using BI) (zqS hp hL BI h bT) hk
end
theorem zle {n:Nat} {order pos:List Nat} (h:VA n order pos=true):Perm (vY pos) (vY order) n/\order.length=n:=by
 unfold VA at h;simp only [Bool.and_eq_true,beq_iff_eq,List.all_eq_true,List.mem_range,decide_eq_true_eq] at h;obtain ⟨⟨h1,h2⟩,h3⟩:=h;have nM:∀ i,i < n->vY pos i=pos.getD i 0:=fun i hi=>by unfold vY;rw [if_pos (by omega)]
 have Qj:∀ i,i < n->vY order i=order.getD i 0:=fun i hi=>by unfold vY;rw [if_pos (by omega)]
 have bZ:∀ i,n<=i->vY pos i=i:=fun i hi=>by unfold vY;rw [if_neg (by omega)]
 have JU:∀ i,n<=i->vY order i=i:=fun i hi=>by unfold vY;rw [if_neg (by omega)]
 refine ⟨⟨fun i hi=>by rw [nM i hi];exact (h3 i hi).1.1.1,bZ,fun i=>?_,fun i=>?_⟩,h1⟩
 .rcases Nat.lt_or_ge i n with hi|hi
  .rw [nM i hi,Qj _ (h3 i hi).1.1.1];exact (h3 i hi).1.2
  .rw [bZ i hi,JU i hi]
 .rcases Nat.lt_or_ge i n with hi|hi
  .rw [Qj i hi,nM _ (h3 i hi).1.1.2];exact (h3 i hi).2
  .rw [JU i hi,bZ i hi]
section
variable {C:iT} {P:Program} {Z:List Nat} {S:Bool->Nat->Prop} {base lo nt:Nat} {φ:iX} {H H':Heap} {w:World} {env env':Env} {a:Act}
variable {ro:Option Nat} {n:Nat} {Q:Exit->Act->World->Prop}
theorem zjr {cl:Callee} (fe:bz C P cl) {ops:Array Oper} {vs:List ae} {c:aP} (hc:ND P Z nt ops vs=some c) :
  ∃ pre vs',c=.region (some pre) vs'/\∀ (env:Env) (H:Heap) (env':Env) (H':Heap) (φ:iX) (a:Act) (w:World) (Q:Exit->Act->World->Prop),zY cl pre vs' env H=some (env',H')->R C S base lo nt φ H env a w->(∀ φ' a' w',bY φ H w φ' H' w'->R C S base lo nt φ' H' env' a' w'->Q .normal a' w') ->
  wpAnyIn (Fw ro) n P .any ops Q ops.size (Array.replicate ops.size false) a w:=by
 unfold ND at hc
 split at hc
 .simp at hc
 .rename_i order pos Z' _;simp only at hc
  split at hc
  .simp at hc
  .rename_i vs' nG
   split at hc
   .rename_i bG;simp only [Option.some.injEq] at hc;subst hc;simp only [Bool.and_eq_true] at bG;obtain ⟨hp,hl⟩:=zle bG.1
    refine ⟨_,_,rfl,fun env H env' H' φ a w Q hr hR hQ=>?_⟩
    have fE:(reorder ops order pos).size=ops.size:=by simp [reorder,hl]
    have ah:∀ i o,ops[i]?=some o->(reorder ops order pos)[vY pos i]?=some (Et (vY pos) o):=fun i o ho=>by
     have hi:i < ops.size:=(Array.getElem?_eq_some_iff.1 ho).1;have h1:vY order (vY pos i)=i:=hp.li i;have h2:=hp.lt i hi;generalize vY pos i=k at h1 h2 ⊢;unfold vY at h1;rw [if_pos (by rw [hl];exact h2)] at h1;have h3:order[k]?=some i:=by
      rw [List.getD_eq_getElem?_getD] at h1;have h4:order[k]?=some order[k]:=List.getElem?_eq_getElem (by rw [hl];exact h2);rw [h4] at h1 ⊢
      simpa using h1
     simp only [reorder,List.getElem?_toArray,List.getElem?_map,h3,Option.map_some];rw [Array.getD_eq_getD_getElem?,ho];rfl
    have:=Xg (ro:=ro) (n:=n) (Q:=Q) fe bG.2 (Wz bG.2) nG hr hR hQ;rw [fE] at this
    refine zmK hp fE ah ops.size _ _ a _ (by simp) (by simp) (fun i d=>?_) this
    by_cases hi:i < ops.size
    .simp [hi,hp.lt i hi]
    .rw [hp.out i (by omega)]
   .simp at hc
theorem zrc {cl:Callee} (fe:bz C P cl) (nN:P.follows .mixedOrders=true) {id:Nat} {ops:Array Oper} {vs:List ae} {c:aP} (hc:ND P Z nt ops vs=some c) :
  ∃ pre vs',c=.region (some pre) vs'/\(zY cl pre vs' env H=some (env',H')->R C S base lo nt φ H env a w->(∀ φ' a' w',bY φ H w φ' H' w'->R C S base lo nt φ' H' env' a' w'->Q .normal a' w') ->
  (Code.region id ops true).wpIn (Fw ro) n P Q a w):=by
 obtain ⟨pre,vs',h1,h2⟩:=zjr (S:=S) (base:=base) (lo:=lo) (ro:=ro) (n:=n) fe hc;exact ⟨pre,vs',h1,fun hr hR hQ=>wpIn_region_any nN (h2 _ _ _ _ _ _ _ _ hr (Xh hR) fun φ' a' w' he qh=>hQ φ' a' w' (wH.trans he) qh)⟩
end
section
variable {ops:Array Oper} {F:Fence} {n s:Nat} {P:Program} {Q:Exit->Act->World->Prop}
theorem Xl (ops:Array Oper) (s i:Nat):(uR ops s)[i]?=(ops[s+i]?).map (KW s):=by
 simp [uR]
theorem Xm (ops:Array Oper) {s i:Nat} (h:i < s):(yJ ops s)[i]?=ops[i]?:=by
 simp [yJ,List.getElem?_take_of_lt h]
theorem zjg (ops:Array Oper) (s:Nat):(uR ops s).size=ops.size - s:=by simp [uR]
theorem NZ {ops:Array Oper} {s:Nat} (h:s<=ops.size):(yJ ops s).size=s:=by simp [yJ,h]
structure uw (ops:Array Oper) (s:Nat):Prop where
 le:s<=ops.size
 back:∀ i o,ops[i]?=some o->∀ e∈o.after,Region.binds .any e=true->e.on < i
 gh:∀ i o g,ops[i]?=some o->o.guard=some g->i < s->g.1 < s
 gt:∀ i o g,ops[i]?=some o->o.guard=some g->s<=i->s<=g.1
 wait:∀ i,s<=i->i < ops.size->∀ j,j < s->jC ops i j
theorem znG (h:VB ops s=true):uw ops s:=by
 unfold VB at h;simp only [Bool.and_eq_true,decide_eq_true_eq,List.all_eq_true,List.mem_range] at h;obtain ⟨h1,h2⟩:=h;have aS:∀ i o,ops[i]?=some o->i < ops.size/\ops.getD i default=o:=fun i o ho=>by
  have aK:=(Array.getElem?_eq_some_iff.1 ho).1
  refine ⟨aK,?_⟩
  have:=(Array.getElem?_eq_some_iff.1 ho).2;simp [aK,this]
 refine ⟨h1,fun i o ho e he hb=>?_,fun i o g ho hg hi=>?_,fun i o g ho hg hi=>?_,fun i hi hn j hj=>?_⟩
 .obtain ⟨a,b⟩:=aS i o ho;have:=(h2 i a).1;rw [b,Array.all_eq_true_iff_forall_mem] at this;have:=this e he;rw [hb] at this
  simpa using this
 .obtain ⟨a,b⟩:=aS i o ho;have:=(h2 i a).2;rw [b,if_pos hi,hg] at this
  simpa using this
 .obtain ⟨a,b⟩:=aS i o ho;have:=(h2 i a).2;rw [b,if_neg (by omega),hg] at this;simp only [Bool.and_eq_true,decide_eq_true_eq] at this;exact this.1
 .have:=(h2 i hn).2;rw [if_neg (by omega)] at this;simp only [Bool.and_eq_true,List.all_eq_true,List.mem_range] at this;exact P6 ops.toList [] (fun k=>by simp) (fun a b h=>by simp at h) i j (this.2 j hj)
theorem zj2 {tmps:Array Value} {j:Nat} (h:s<=j):yielded (uR ops s) tmps (j - s)=yielded ops tmps j:=by
 unfold yielded;rw [Xl,show s+(j - s)=j by omega]
 cases ops[j]?<;>rfl
theorem zj5 {tmps:Array Value} {j:Nat} (h:j < s):yielded (yJ ops s) tmps j=yielded ops tmps j:=by
 unfold yielded;rw [Xm ops h]
theorem zpy (hc:uw ops s) {i:Nat} (hi:s<=i) (hn:i < ops.size) {K:Act->World->Prop} {a:Act} {w:World} (h:wpOpIn F n P (uR ops s) Q (i - s) K a w):wpOpIn F n P ops Q i K a w:=by
 unfold wpOpIn at *;have hg:=Array.getElem?_eq_getElem hn;rw [Xl,show s+(i - s)=i by omega,hg] at h;rw [hg];simp only [Option.map_some] at h ⊢;have hw:Region.wanted (KW s ops[i]) (yielded (uR ops s) a.tmps)=Region.wanted ops[i] (yielded ops a.tmps):=by
  unfold Region.wanted KW
  cases N7:ops[i].guard with
  | none=>rfl
  | some g =>
   simp only [Option.map_some];rw [zj2 (hc.gt i _ g hg N7 hi)]
 rw [hw] at h;exact h
theorem zoM {o:Oper} {a:Act} {w:World} {K K1:Act->World->Prop} (h:o.wpIn F n P a w K (Exit.then K1 Q)):o.wpIn F n P a w K Q:=by
 unfold Oper.wpIn at *
 refine ⟨h.1,?_⟩
 have hh:=h.2;generalize (o.semAt F.round a.eval).run P w=r at *;have hl:LetsOut (Exit.then K1 Q)->LetsOut Q:=fun ⟨a,w,h⟩=>⟨a,w,h⟩
 cases r with
 | ok x w' =>
  cases x<;>simp only [Oper.uponIn] at hh ⊢ <;>
   first
    | exact hh
    | exact ⟨hh.1,CallsIn.mono hh.2 (fun e w'' he=>by cases e<;>first|exact hl he|exact he)⟩
    | exact ⟨hh.1,RoundIn.mono hh.2 (fun e w'' he=>by cases e<;>first|exact hl he|exact he)⟩
 | halt x w'=>cases x<;>simp only [Oper.uponIn] at hh ⊢<;>exact hh
theorem zoy (hc:uw ops s) {i:Nat} (hi:i < s) {K K1:Act->World->Prop} {a:Act} {w:World} (h:wpOpIn F n P (yJ ops s) (Exit.then K1 Q) i K a w):wpOpIn F n P ops Q i K a w:=by
 unfold wpOpIn at *;have hn:i < ops.size:=by have:=hc.le;omega
 have hg:=Array.getElem?_eq_getElem hn;rw [Xm ops hi,hg] at h;rw [hg];simp only at h ⊢;have hw:Region.wanted ops[i] (yielded (yJ ops s) a.tmps)=Region.wanted ops[i] (yielded ops a.tmps):=by
  unfold Region.wanted
  cases N7:ops[i].guard with
  | none=>rfl
  | some g =>
   simp only;rw [zj5 (hc.gh i _ g hg N7 hi)]
 rw [hw] at h
 split
 .rename_i hx;rw [if_pos hx] at h;exact zoM h
 .rename_i hx;rw [if_neg hx] at h;exact h
theorem zqK (hc:uw ops s):∀ (m:Nat) (L L2:Array Bool) (a:Act) (w:World),L.size=ops.size->L2.size=ops.size - s->(∀ j,j < s->L.getD j true=true/\L.getD j false=true)->(∀ j d,L2.getD j d=L.getD (s+j) d) ->
  wpAnyIn F n P .any (uR ops s) Q m L2 a w->wpAnyIn F n P .any ops Q m L a w:=by
 have rO:∀ (L L2:Array Bool),(∀ j,j < s->L.getD j true=true/\L.getD j false=true)->(∀ j d,L2.getD j d=L.getD (s+j) d)->∀ i,i∈Region.ready .any ops L↔s<=i/\i - s∈Region.ready .any (uR ops s) L2:=fun L L2 hd h i=>by
  rw [iZ,iZ,zjg,Xl]
  constructor
  .rintro ⟨h1,h2,o,h3,h4⟩;have hi:s<=i:=by
    rcases Nat.lt_or_ge i s with aK|Qk
    .have:=(hd i aK).1;rw [this] at h2;simp at h2
    .exact Qk
   refine ⟨hi,by omega,by rw [h,show s+(i - s)=i by omega];exact h2,KW s o,by rw [show s+(i - s)=i by omega,h3];rfl,?_⟩
   intro e he hb;simp only [KW,Array.mem_map,Array.mem_filter,decide_eq_true_eq] at he;obtain ⟨e0,⟨Xj,nE⟩,rfl⟩:=he;have:=h4 e0 Xj hb;rw [h];simp only;rw [show s+(e0.on - s)=e0.on by omega];exact this
  .rintro ⟨hi,h1,h2,o,h3,h4⟩;have e1:s+(i - s)=i:=by omega
   rw [h,e1] at h2;rw [e1] at h3;have hn:i < ops.size:=by omega
   rw [Array.getElem?_eq_getElem hn] at h3;simp only [Option.map_some,Option.some.injEq] at h3
   refine ⟨hn,h2,ops[i],Array.getElem?_eq_getElem hn,fun e he hb=>?_⟩
   rcases Nat.lt_or_ge e.on s with aK|Qk
   .exact (hd _ aK).2
   .have:=h4 { e with on:=e.on - s } (by rw [<- h3];simp only [KW,Array.mem_map,Array.mem_filter,decide_eq_true_eq];exact ⟨e,⟨he,Qk⟩,rfl⟩) hb;rw [h] at this;simp only at this;rwa [show s+(e.on - s)=e.on by omega] at this
 intro m
 induction m with
 | zero =>
  intro L L2 a w hL hL2 hd h hw
  refine ⟨?_,hw.2⟩
  rw [List.eq_nil_iff_forall_not_mem];intro i hi;have:=((rO L L2 hd h i).1 hi).2;rw [hw.1] at this;simp at this
 | succ m ih =>
  intro L L2 a w hL hL2 hd h hw
  refine ⟨fun hr=>hw.1 ?_,fun i hi=>?_⟩
  .rw [List.eq_nil_iff_forall_not_mem];intro p hp;have:=(rO L L2 hd h (s+p)).2 ⟨by omega,by rw [show s+p - s=p by omega];exact hp⟩;rw [hr] at this;simp at this
  .obtain ⟨h1,h2⟩:=(rO L L2 hd h i).1 hi;have hn:=(iZ.1 hi).1
   refine wpOpIn_mono (fun a' w' hk=>?_) (zpy hc h1 hn (hw.2 _ h2))
   refine ih _ _ _ _ (by simpa using hL) (by simpa using hL2) (fun j hj=>?_) (fun j d=>?_) hk
   .rw [zP,zP,if_neg (by omega),if_neg (by omega)];exact hd j hj
   .rw [zP,zP,h j d]
    by_cases e:i - s=j
    .rw [if_pos ⟨e,by omega⟩,if_pos ⟨by omega,by omega⟩]
    .rw [if_neg (fun h=>e h.1),if_neg (fun h=>e (by omega))]
theorem zrp (hc:uw ops s):∀ (m:Nat) (L LA:Array Bool) (a:Act) (w:World),L.size=ops.size->LA.size=s->(∀ j,j < s->∀ d,LA.getD j d=L.getD j d)->(∀ j,s<=j->j < ops.size->L.getD j true=false)->Closed ops L ->
  m=(List.range s).countP (fun i=>!LA.getD i true) ->
  wpAnyIn F n P .any (yJ ops s) (Exit.then (fun a' w'=>wpAnyIn F n P .any (uR ops s) Q (ops.size - s) (Array.replicate (ops.size - s) false) a' w') Q) m LA a w->wpAnyIn F n P .any ops Q (m+(ops.size - s)) L a w:=by
 intro m
 induction m with
 | zero =>
  intro L LA a w hL Xn h ht fe hm hw;have bM:∀ j,j < s->LA.getD j true=true:=fun j hj=>by
   have h0:(List.range s).countP (fun i=>!LA.getD i true)=0:=hm.symm;rw [List.countP_eq_zero] at h0;have:=h0 j (List.mem_range.2 hj)
   simpa using this
  have Hw:wpAnyIn F n P .any (uR ops s) Q (ops.size - s) (Array.replicate (ops.size - s) false) a w:=hw.2;rw [Nat.zero_add]
  refine zqK hc _ L _ a w hL (by simp) (fun j hj=>?_) (fun j d=>?_) Hw
  .have h1:=bM j hj;have h2:=h j hj;have Xo:j < L.size:=by have:=hc.le;omega
   rw [h2] at h1
   refine ⟨h1,?_⟩
   simpa [Xo] using h1
  .by_cases hj:s+j < ops.size
   .have:=ht (s+j) (by omega) hj;have Xo:s+j < L.size:=by omega
    simp only [Array.getD_eq_getD_getElem?,Xo,Array.getElem?_eq_getElem,Option.getD_some] at this ⊢;rw [this];simp [show j < ops.size - s by omega]
   .simp [Array.getD_eq_getD_getElem?,show ¬ j < ops.size - s by omega,show L.size<=s+j by omega]
 | succ m ih =>
  intro L LA a w hL Xn h ht fe hm hw;have hex:∃ j,j < s/\L.getD j true=false:=Classical.byContradiction fun rG=>by
   have h0:(List.range s).countP (fun i=>!LA.getD i true)=0:=by
    rw [List.countP_eq_zero];intro j hj;have hj:=List.mem_range.1 hj
    cases hx:L.getD j true with
    | true=>rw [h j hj,hx];simp
    | false=>exact absurd ⟨j,hj,hx⟩ rG
   omega
  obtain ⟨j0,hj0,hu0⟩:=hex;have CL:=hc.le;rw [show m+1+(ops.size - s)=m+(ops.size - s)+1 by omega]
  refine ⟨fun hr=>absurd hr (WG hL hc.back ⟨j0,by omega,hu0⟩),fun i hi=>?_⟩
  obtain ⟨hu,hn,jR⟩:=NV hL hc.back hi;have bT:i < s:=by
   rcases Nat.lt_or_ge i s with aK|Qk
   .exact aK
   .have:=(hc.wait i Qk hn j0 hj0).done fe jR;rw [hu0] at this;simp at this
  have hiA:i∈Region.ready .any (yJ ops s) LA:=by
   rw [iZ];obtain ⟨a1,a2,o,a3,a4⟩:=iZ.1 hi
   refine ⟨by rw [NZ CL];exact bT,by rw [h i bT];exact a2,o,by rw [Xm ops bT];exact a3,fun e he hb=>?_⟩
   have:=hc.back i o a3 e he hb;rw [h _ (by omega)];exact a4 e he hb
  refine wpOpIn_mono (fun a' w' hk=>?_) (zoy hc bT (hw.2 i hiA))
  refine ih _ _ _ _ (by simpa using hL) (by simpa using Xn) (fun j hj d=>?_) (fun j h1 h2=>?_) (WI hL fe jR) ?_ hk
  .rw [zP,zP,h j hj d]
   by_cases e:i=j
   .rw [if_pos ⟨e,by omega⟩,if_pos ⟨e,by omega⟩]
   .rw [if_neg (fun x=>e x.1),if_neg (fun x=>e x.1)]
  .rw [zP,if_neg (by omega)];exact ht j h1 h2
  .have hAs:LA.size=(yJ ops s).size:=by rw [NZ CL];exact Xn
   have:=WK (ops:=yJ ops s) (L:=LA) hAs (i:=i) (m:=m) (by rw [NZ CL];exact bT) (by rw [h i bT];exact hu) (by rw [NZ CL];exact hm);rwa [NZ CL] at this
theorem zsg (hc:uw ops s) {a:Act} {w:World} (h:wpAnyIn F n P .any (yJ ops s) (Exit.then (fun a' w'=>wpAnyIn F n P .any (uR ops s) Q (uR ops s).size (Array.replicate (uR ops s).size false) a' w') Q) (yJ ops s).size (Array.replicate (yJ ops s).size false) a w) :
  wpAnyIn F n P .any ops Q ops.size (Array.replicate ops.size false) a w:=by
 have hle:=hc.le;rw [NZ hle,zjg] at h;have Xp:s=(List.range s).countP (fun i=>!(Array.replicate s false).getD i true):=by
  have:(List.range s).countP (fun i=>!(Array.replicate s false).getD i true)=(List.range s).length:=List.countP_eq_length.2 fun i hi=>by
   have:=List.mem_range.1 hi;simp [this]
  rw [this,List.length_range]
 have:=zrp (Q:=Q) hc s (Array.replicate ops.size false) (Array.replicate s false) a w (by simp) (by simp) (fun j hj d=>by simp [hj,show j < ops.size by omega]) (fun j h1 h2=>by simp [h2]) (fun i o ho hd=>by
  have bT:i < ops.size:=(Array.getElem?_eq_some_iff.1 ho).1;simp [bT] at hd) Xp h
 rwa [show s+(ops.size - s)=ops.size by omega] at this
end
section
variable {C:iT} {P:Program} {Z:List Nat} {S:Bool->Nat->Prop} {base lo nt:Nat} {φ:iX} {H H':Heap} {w:World} {env env':Env} {a:Act}
variable {ro:Option Nat} {n:Nat} {Q:Exit->Act->World->Prop}
theorem zg4 {cl:Callee} (fe:bz C P cl) {ops:Array Oper} {c:aP} (hc:NF P Z nt ops=some c) :
  ∃ pre vs',c=.region (some pre) vs'/\∀ (env:Env) (H:Heap) (env':Env) (H':Heap) (φ:iX) (a:Act) (w:World) (Q:Exit->Act->World->Prop),zY cl pre vs' env H=some (env',H')->R C S base lo nt φ H env a w->(∀ φ' a' w',bY φ H w φ' H' w'->R C S base lo nt φ' H' env' a' w'->Q .normal a' w') ->
  wpAnyIn (Fw ro) n P .any ops Q ops.size (Array.replicate ops.size false) a w:=by
 unfold NF at hc
 split at hc
 .simp at hc
 .rename_i vs nG
  split at hc
  .rename_i c' BK;simp at hc;subst hc;exact zjr fe BK
  .split at hc
   .rename_i bG;simp at hc;subst hc;exact ⟨_,_,rfl,fun env H env' H' φ a w Q hr hR hQ=>Xg fe bG (Wz bG) nG hr hR hQ⟩
   .simp at hc
theorem zg5 {ops:Array Oper} {c:aP} (hc:NF P Z nt ops=some c):∃ pre vs',c=.region (some pre) vs':=by
 unfold NF at hc
 split at hc
 .simp at hc
 .split at hc
  .rename_i c' BK;simp at hc;subst hc;unfold ND at BK
   split at BK
   .simp at BK
   .simp only at BK
    split at BK
    .simp at BK
    .split at BK
     .simp at BK;exact ⟨_,_,BK.symm⟩
     .simp at BK
  .split at hc
   .simp at hc;exact ⟨_,_,hc.symm⟩
   .simp at hc
theorem Xq {cl:Callee}:∀ (ss:List Nat) (ops:Array Oper) (c:aP),NG P Z nt ss ops=some c->∀ {env:Env} {H:Heap} {x:bW} {env':Env} {H':Heap},exec cl c env H=some (x,env',H')->x=.normal
 | [],ops,c,hc,env,H,x,env',H',hx=>by
  obtain ⟨pre,vs',rfl⟩:=zg5 hc;simp only [exec] at hx
  split at hx
  .simp at hx;exact hx.1.symm
  .simp at hx
 | s::ss,ops,c,hc,env,H,x,env',H',hx=>by
  unfold NG at hc
  split at hc
  .split at hc
   .rename_i c1 c2 h1 h2;simp at hc;subst hc;obtain ⟨pre,vs',rfl⟩:=zg5 h1;simp only [exec] at hx
    cases hr:zY cl ((some pre).getD 0) vs' env H with
    | none=>rw [hr] at hx;simp at hx
    | some r =>
     obtain ⟨e1,H1⟩:=r;rw [hr] at hx;exact Xq ss _ _ h2 hx
   .simp at hc
  .simp at hc
theorem zjQ {cl:Callee} (fe:bz C P cl):∀ (ss:List Nat) (ops:Array Oper) (c:aP),NG P Z nt ss ops=some c->∀ (env:Env) (H:Heap) (x:bW) (env':Env) (H':Heap) (φ:iX) (a:Act) (w:World) (Q:Exit->Act->World->Prop),exec cl c env H=some (x,env',H')->R C S base lo nt φ H env a w->(∀ φ' a' w',bY φ H w φ' H' w'->R C S base lo nt φ' H' env' a' w'->Q .normal a' w') ->
  x=.normal/\wpAnyIn (Fw ro) n P .any ops Q ops.size (Array.replicate ops.size false) a w
 | [],ops,c,hc,env,H,x,env',H',φ,a,w,Q,hx,hR,hQ=>by
  obtain ⟨pre,vs',rfl,hw⟩:=zg4 (S:=S) (base:=base) (lo:=lo) (ro:=ro) (n:=n) fe hc;simp only [exec,Option.getD_some] at hx
  split at hx
  .rename_i e1 H1 hr;simp at hx;obtain ⟨rfl,rfl,rfl⟩:=hx;exact ⟨rfl,hw _ _ _ _ _ _ _ _ hr hR hQ⟩
  .simp at hx
 | s::ss,ops,c,hc,env,H,x,env',H',φ,a,w,Q,hx,hR,hQ=>by
  unfold NG at hc
  split at hc
  .rename_i bG
   split at hc
   .rename_i c1 c2 h1 h2;simp at hc;subst hc;obtain ⟨pre,vs',rfl,hw⟩:=zg4 (S:=S) (base:=base) (lo:=lo) (ro:=ro) (n:=n) fe h1;simp only [exec,Option.getD_some] at hx
    cases hr:zY cl pre vs' env H with
    | none=>rw [hr] at hx;simp at hx
    | some r =>
     obtain ⟨e1,H1⟩:=r;rw [hr] at hx;simp only at hx;have main:∀ φ1 a1 w1,bY φ H w φ1 H1 w1->R C S base lo nt φ1 H1 e1 a1 w1->x=.normal/\wpAnyIn (Fw ro) n P .any (uR ops s) Q (uR ops s).size (Array.replicate (uR ops s).size false) a1 w1:=fun φ1 a1 w1 he nJ =>
      zjQ fe ss (uR ops s) c2 h2 e1 H1 x env' H' φ1 a1 w1 Q hx nJ fun φ' a' w' Gh qh=>hQ φ' a' w' (he.trans Gh) qh
     have Xr:x=.normal:=by
      exact Xq ss _ _ h2 hx
     exact ⟨Xr,zsg (znG bG) (hw _ _ _ _ _ _ _ _ hr hR fun φ1 a1 w1 he nJ=>(main φ1 a1 w1 he nJ).2)⟩
   .simp at hc
  .simp at hc
end
def CC (P:Program):iT:=fun nt c v=>∃ Z,zM P Z nt c=some v/\v.bO=true
section rules
variable {F:Fence} {n:Nat} {P:Program} {Q:Exit->Act->World->Prop} {a:Act} {w:World}
theorem N8 {b:Frame} {k:List Item} {cs:List Frame} {c:Code}:Go.step P (lone (b.atR a (.code (.scope c)::k)) cs w)=.next (lone (b.atR a (.code c::.inScope c::k)) cs w) :=
 step_lone_go (by simp [stepG,stepG.exec,Frame.atR])
theorem ziP {b:Frame} {k:List Item} {cs:List Frame} {c:Code}:Go.step P (lone (b.atR a (.inScope c::k)) cs w)=.next (lone (b.atR a k) cs w) :=
 step_lone_go (by simp [stepG,stepG.exec,Frame.atR])
theorem zmT {c:Code} (h:c.wpIn F n P (fun e a w=>Q e a w/\∀ l,e≠.goto l) a w):(Code.scope c).wpIn F n P Q a w:=by
 intro b k cs qY hb hr;have h0:(lone (b.atR a (.code (.scope c)::k)) cs w).fenced P F:=fenced_calm hb hr rfl;obtain ⟨e,a₁,w₁,⟨hq,N9⟩,lu⟩:=h b (.inScope c::k) cs qY hb hr
 cases e with
 | normal=>exact ⟨.normal,a₁,w₁,hq,.head h0 N8 (StepsIn.trans lu (.one (fenced_calm hb hr rfl) ziP))⟩
 | exit id =>
  have hx:exitTo id (.inScope c::k)=exitTo id k:=by simp [exitTo]
  exact ⟨.exit id,a₁,w₁,hq,fun k' hk=>.head h0 N8 (lu.1 k' (by rw [hx];exact hk)),
   fun BL hk=>let ⟨k₁,h1,h2⟩:=lu.2 BL (by rw [hx];exact hk);⟨k₁,h1,.head h0 N8 h2⟩⟩
 | goto l=>exact absurd rfl (N9 l)
 | ret=>exact ⟨_,a₁,w₁,hq,.of_steps (.one h0 N8) lu⟩
 | panic ch=>exact ⟨_,a₁,w₁,hq,.of_steps (.one h0 N8) lu⟩
 | outgrown=>exact ⟨_,a₁,w₁,hq,.of_steps (.one h0 N8) lu⟩
theorem zkR {c:Code} (I:Nat->Act->World->Prop) (m:Nat) (h₀:I m a w)
  (round:∀ m a w,I m a w->∃ k,m=k+1/\c.wpIn F n P (Exit.then (fun a' w'=>I k a' w') Q) a w):(Code.loop c).wpIn F n P Q a w:=by
 intro b k cs qY hb hr;have key:∀ j a w,I j a w ->
   ∃ e a' w',Q e a' w'/\ArrivesIn (Machine.fenced P F) P (lone (b.atR a (.code c::.inLoop c::k)) cs w) b k cs e a' w':=by
  intro j
  induction j with
  | zero=>intro a w hI;obtain ⟨k,h,_⟩:=round 0 a w hI;omega
  | succ j ih =>
   intro a w hI;obtain ⟨k',uj,Aa⟩:=round _ a w hI;have Xt:k'=j:=by omega
   subst Xt;obtain ⟨e,a₁,w₁,hq,lu⟩:=Aa b (.inLoop c::k) cs qY hb hr
   cases e with
   | normal =>
    obtain ⟨e₂,a₂,w₂,hq₂,harr₂⟩:=ih a₁ w₁ hq;exact ⟨e₂,a₂,w₂,hq₂,.of_steps (StepsIn.trans lu (.one (fenced_calm hb hr rfl) stepR_inLoop)) harr₂⟩
   | exit id=>exact ⟨_,a₁,w₁,hq,.pass (x:=.inLoop c) rfl (fun _ _=>.inl (by simp)) lu⟩
   | goto l=>exact ⟨_,a₁,w₁,hq,.pass (x:=.inLoop c) rfl (fun _ _=>.inl (by simp)) lu⟩
   | ret=>exact ⟨_,a₁,w₁,hq,.pass (x:=.inLoop c) rfl (fun _ _=>.inl (by simp)) lu⟩
   | panic ch=>exact ⟨_,a₁,w₁,hq,.pass (x:=.inLoop c) rfl (fun _ _=>.inl (by simp)) lu⟩
   | outgrown=>exact ⟨_,a₁,w₁,hq,.pass (x:=.inLoop c) rfl (fun _ _=>.inl (by simp)) lu⟩
 obtain ⟨e,a',w',hq,lu⟩:=key _ a w h₀;exact ⟨e,a',w',hq,.of_steps (.one (fenced_calm hb hr rfl) stepR_loop) lu⟩
end rules
theorem zhc {P:Program} {w:World} {b:Nat} {l:Loop} (h:w.heap[b]?=some (.loop l)):(getObj b).run P w=.ok (.loop l) w:=by simp [getObj,Sem.run,h]
theorem Xu {P:Program} {w:World} {b:Nat} {l:Loop} (h:w.heap[b]?=some (.loop l)):(Instr.getLoop b).run P w=.ok l w:=by
 simp only [Instr.getLoop,Sem.run_bind,zhc h,Result.andThen_ok,Sem.run_pure]
def laid (w:World) (b:Nat) (o:Obj):World:={ w with heap:=w.heap.setIfInBounds b o }
theorem Xv {P:Program} {w:World} {b:Nat} {l:Loop} (h:w.heap[b]?=some (.loop l)) (o:Obj):(setObj b o).run P w=.ok () (laid w b o):=by simp [setObj,Sem.run,h,laid]
theorem CO {w:World} {b c:Nat} {o:Obj} (h:c≠b):(laid w b o).heap[c]?=w.heap[c]?:=by
 simp only [laid,Array.getElem?_setIfInBounds];rw [if_neg (fun e=>h e.symm)]
theorem zjw {w:World} {b:Nat} {o:Obj} (h:b < w.heap.size):(laid w b o).heap[b]?=some o:=by
 simp [laid,h]
theorem Ql {w:World} {b:Nat} {o:Obj} (h:w.heap[b]?=some o):b < w.heap.size:=by
 rcases Nat.lt_or_ge b w.heap.size with hb|hb
 .exact hb
 .rw [Array.getElem?_eq_none hb] at h;simp at h
theorem Oa (w:World) (o:Obj):(w.alloc o).heap.size=w.heap.size+1:=Array.size_push _
theorem zlN (w:World) (o:Obj):(w.alloc o).heap[w.heap.size]?=some o:=Array.getElem?_push_size
theorem zpZ {P:Program} {w:World} (o:Obj):(newObj o).run P w=.ok w.heap.size (w.alloc o):=rfl
theorem ziR {P:Program} {w:World} (fn:FuncId) (tmps:Array Value) (ps:Array Tmp) (assign body:Code) :
  (Instr.enterLoop fn tmps ps assign body none).run P w=.ok (w.heap.size+1,[EK w.heap.size]) ((w.alloc (.deferred (some []))).alloc (.loop { state:=.ready,pending:=none,fn:=fn,tmps:=tmps,params:=ps,assign:=assign,body:=body,defers:=w.heap.size })):=by
 simp only [Instr.enterLoop,Sem.run_bind,Result.andThen_ok,Sem.run_pure,zpZ,Oa]
theorem zhq (x:bW) (l:Nat):Vu x≠.goto l:=by cases x<;>simp [Vu]
section
variable {P:Program} {Z:List Nat} {S:Bool->Nat->Prop} {base lo nt:Nat} {n:Nat}
theorem zo3 (f:Env->Heap->Out) (m:Nat) (env:Env) (H:Heap):iter f (m+1) env H=match f env H with
  | some (.normal,env',H')=>iter f m env' H'
  | r=>r:=rfl
theorem Xw {cl:Callee} (fe:bz (CC P) P cl) (nN:P.follows .mixedOrders=true) {ro:Option Nat}:∀ (c:Code) (vc:aP) (env:Env) (H:Heap) (x:bW) (env':Env) (H':Heap) (φ:iX) (a:Act) (w:World) (Q:Exit->Act->World->Prop),
  (ro=none\/vc.bO=true)->zM P Z nt c=some vc->exec cl vc env H=some (x,env',H')->R (CC P) S base lo nt φ H env a w ->
  (∀ φ' a' w',bY φ H w φ' H' w'->R (CC P) S base lo nt φ' H' env' a' w'->Q (Vu x) a' w')->c.wpIn (Fw ro) n P Q a w:=by
 intro c
 induction c with
 | skip =>
  intro vc env H x env' H' φ a w Q qY hc hx hR hQ;simp [zM] at hc;subst hc;simp [exec] at hx;obtain ⟨rfl,rfl,rfl⟩:=hx;exact wpIn_skip (hQ φ a w bY.refl hR)
 | label l =>
  intro vc env H x env' H' φ a w Q qY hc hx hR hQ;simp [zM] at hc;subst hc;simp [exec] at hx;obtain ⟨rfl,rfl,rfl⟩:=hx;exact wpIn_label (hQ φ a w bY.refl hR)
 | region id ops draw =>
  intro vc env H x env' H' φ a w Q qY hc hx hR hQ;simp only [zM] at hc
  split at hc
  .rename_i s ss _
   split at hc
   .rename_i hd;subst hd;have oJ:bY φ H w φ H w.drew:=wH;have Xr:=Xq (s::ss) ops vc hc hx;subst Xr;exact wpIn_region_any nN (zjQ (S:=S) (base:=base) (lo:=lo) (ro:=ro) (n:=n) fe (s::ss) ops vc hc env H .normal env' H' φ a w.drew Q hx (Xh hR) fun φ' a' w' he qh=>hQ φ' a' w' (oJ.trans he) qh).2
   .simp at hc
  split at hc
  .simp at hc
  .rename_i vs nG
   split at hc
   .rename_i hd;subst hd
    split at hc
    .rename_i c' BK;simp at hc;subst hc;obtain ⟨pre,vs',rfl,hw⟩:=zrc (ro:=ro) (n:=n) (Q:=Q) (id:=id) (env:=env) (H:=H) (env':=env') (H':=H') (φ:=φ) (a:=a) (w:=w) fe nN BK;simp only [exec,Option.getD_some] at hx
     split at hx
     .rename_i e1 H1 hr;simp at hx;obtain ⟨rfl,rfl,rfl⟩:=hx;exact hw hr hR hQ
     .simp at hx
    split at hc
    .rename_i bG;simp at hc;subst hc;simp only [exec,Option.getD_some] at hx
     split at hx
     .rename_i e1 H1 hr;simp at hx;obtain ⟨rfl,rfl,rfl⟩:=hx;exact zrS fe nN bG (Wz bG) nG hr hR hQ
     .simp at hx
    .simp at hc
   .rename_i hd;simp at hc;subst hc;have oJ:draw=false:=by simpa using hd
    subst oJ;simp only [exec,Option.getD_none] at hx
    split at hx
    .rename_i e1 H1 hr;simp at hx;obtain ⟨rfl,rfl,rfl⟩:=hx
     refine wpIn_region ?_
     rw [List.range_eq_range'];exact znq fe ops.toList vs 0 env H φ a w _ _ (fun j=>by simp) nG hr hR hQ
    .simp at hx
 | seq c1 c2 ih1 ih2 =>
  intro vc env H x env' H' φ a w Q qY hc hx hR hQ;simp only [zM] at hc
  split at hc
  .rename_i v1 v2 h1 h2;simp at hc;subst hc;have Lt:ro=none\/v1.bO=true:=qY.imp id fun h=>by simp [aP.bO] at h;exact h.1
   have Lu:ro=none\/v2.bO=true:=qY.imp id fun h=>by simp [aP.bO] at h;exact h.2
   refine wpIn_seq ?_
   simp only [exec] at hx
   cases Ae:exec cl v1 env H with
   | none=>rw [Ae] at hx;simp at hx
   | some r =>
    obtain ⟨x1,tH,H1⟩:=r;rw [Ae] at hx
    refine ih1 v1 env H x1 tH H1 φ a w _ Lt h1 Ae hR fun φ1 a1 w1 DV nJ=>?_
    cases x1 with
    | normal =>
     simp only at hx;exact ih2 v2 tH H1 x env' H' φ1 a1 w1 Q Lu h2 hx nJ fun φ2 a2 w2 DT iL=>hQ φ2 a2 w2 (DV.trans DT) iL
    | exit i =>
     simp at hx;obtain ⟨rfl,rfl,rfl⟩:=hx;exact hQ φ1 a1 w1 DV nJ
    | ret =>
     simp at hx;obtain ⟨rfl,rfl,rfl⟩:=hx;exact hQ φ1 a1 w1 DV nJ
  .simp at hc
 | cond cnd c1 c2 ih1 ih2 =>
  intro vc env H x env' H' φ a w Q qY hc hx hR hQ;simp only [zM] at hc
  split at hc
  .rename_i z v1 v2 hz h1 h2;simp at hc;subst hc;have Lt:ro=none\/v1.bO=true:=qY.imp id fun h=>by simp [aP.bO] at h;exact h.1
   have Lu:ro=none\/v2.bO=true:=qY.imp id fun h=>by simp [aP.bO] at h;exact h.2
   simp only [exec] at hx
   split at hx
   .rename_i t ht;have hv:=zC hR.env hz;rw [ht] at hv
    refine wpIn_cond hv.fM ?_
    cases t with
    | true=>simp only [if_true] at hx ⊢;exact ih1 v1 env H x env' H' φ a w Q Lt h1 hx hR hQ
    | false=>simp only [Bool.false_eq_true,if_false] at hx ⊢;exact ih2 v2 env H x env' H' φ a w Q Lu h2 hx hR hQ
   .simp at hx
  .simp at hc
 | block id c ih =>
  intro vc env H x env' H' φ a w Q qY hc hx hR hQ;simp only [zM,Option.map_eq_some_iff] at hc;obtain ⟨v,hv,rfl⟩:=hc
  refine wpIn_block ?_
  simp only [exec] at hx
  cases Ae:exec cl v env H with
  | none=>rw [Ae] at hx;simp at hx
  | some r =>
   obtain ⟨x1,tH,H1⟩:=r;rw [Ae] at hx
   refine ih v env H x1 tH H1 φ a w _ qY hv Ae hR fun φ1 a1 w1 DV nJ=>?_
   cases x1 with
   | normal =>
    simp at hx;obtain ⟨rfl,rfl,rfl⟩:=hx;exact hQ φ1 a1 w1 DV nJ
   | exit i =>
    simp only at hx;show Exit.inBlock id Q (.exit i) a1 w1
    by_cases hi:i=id
    .simp [hi] at hx;obtain ⟨rfl,rfl,rfl⟩:=hx;simp only [Exit.inBlock,hi,if_true];exact hQ φ1 a1 w1 DV nJ
    .simp [hi] at hx;obtain ⟨rfl,rfl,rfl⟩:=hx;simp only [Exit.inBlock,hi,if_false];exact hQ φ1 a1 w1 DV nJ
   | ret =>
    simp at hx;obtain ⟨rfl,rfl,rfl⟩:=hx;exact hQ φ1 a1 w1 DV nJ
 | loop c ih =>
  intro vc env H x env' H' φ a w Q qY hc hx hR hQ;simp only [zM,Option.map_eq_some_iff] at hc;obtain ⟨v,hv,rfl⟩:=hc;simp only [exec] at hx
  refine zkR (I:=fun m a1 w1=>∃ φ1 tH H1,bY φ H w φ1 H1 w1/\R (CC P) S base lo nt φ1 H1 tH a1 w1/\iter (exec cl v) m tH H1=some (x,env',H')) zI ⟨φ,env,H,bY.refl,hR,hx⟩ ?_
  rintro m a1 w1 ⟨φ1,tH,H1,DV,nJ,hi⟩
  cases m with
  | zero=>simp [iter] at hi
  | succ m =>
   refine ⟨m,rfl,?_⟩
   rw [zo3] at hi
   cases Ae:exec cl v tH H1 with
   | none=>rw [Ae] at hi;simp at hi
   | some r =>
    obtain ⟨x2,iM,H2⟩:=r;rw [Ae] at hi
    refine ih v tH H1 x2 iM H2 φ1 a1 w1 _ qY hv Ae nJ fun φ2 a2 w2 DT iL=>?_
    cases x2 with
    | normal=>exact ⟨φ2,iM,H2,DV.trans DT,iL,hi⟩
    | exit i =>
     simp at hi;obtain ⟨rfl,rfl,rfl⟩:=hi;exact hQ φ2 a2 w2 (DV.trans DT) iL
    | ret =>
     simp at hi;obtain ⟨rfl,rfl,rfl⟩:=hi;exact hQ φ2 a2 w2 (DV.trans DT) iL
 | exit id =>
  intro vc env H x env' H' φ a w Q qY hc hx hR hQ;simp [zM] at hc;subst hc;simp [exec] at hx;obtain ⟨rfl,rfl,rfl⟩:=hx;exact wpIn_exit (hQ φ a w bY.refl hR)
 | ret =>
  intro vc env H x env' H' φ a w Q qY hc hx hR hQ;simp [zM] at hc;subst hc;simp [exec] at hx;obtain ⟨rfl,rfl,rfl⟩:=hx;exact wpIn_ret (hQ φ a w bY.refl hR)
 | scope c ih =>
  intro vc env H x env' H' φ a w Q qY hc hx hR hQ;simp only [zM] at hc;exact zmT (ih vc env H x env' H' φ a w _ qY hc hx hR fun φ' a' w' he qh=>⟨hQ φ' a' w' he qh,zhq x⟩)
 | goto l =>
  intro vc env H x env' H' φ a w Q qY hc;simp [zM] at hc
 | refuse u =>
  intro vc env H x env' H' φ a w Q qY hc;simp [zM] at hc
 | rangeFunc g ps assign body ih1 ih2 =>
  intro vc env H x env' H' φ a w Q qY hc hx hR hQ;clear ih1 ih2;simp only [zM] at hc
  split at hc
  .rename_i z v1 v2 hz h1 h2
   split at hc
   .rename_i aB;simp at hc;subst hc;simp only [Bool.and_eq_true,List.all_eq_true,decide_eq_true_eq] at aB;obtain ⟨⟨uY,Hy⟩,Qm⟩:=aB;have Xx:ro=none:=by
     rcases qY with h|h
     .exact h
     .simp [aP.bO] at h
    subst Xx
    refine wpIn_rangeFunc fun fn _=>?_
    -- the record is laid
    let lp:Loop:={ state:=.ready,pending:=none,fn:=fn,tmps:=a.tmps,params:=ps,assign:=assign,body:=body,defers:=w.heap.size }
    let w1:World:=(w.alloc (.deferred (some []))).alloc (.loop lp)
    have wD:Below w.heap.size w w1:=((Below.refl _ w).alloc (Nat.le_refl _) _).alloc (by rw [Oa];omega) _;have Xy:w1.heap[w.heap.size+1]?=some (.loop lp):=by have:=zlN (w.alloc (.deferred (some []))) (.loop lp);rwa [Oa] at this
    have F8:w1.heap[w.heap.size]?=some (.deferred (some [])):=(Below.heap_alloc _ _ _ (by rw [Oa];omega)).trans (zlN w _);have Xz:w1.heap.size=w.heap.size+2:=by show ((w.alloc (.deferred (some []))).alloc (.loop lp)).heap.size=_;rw [Oa,Oa]
    have aW:=hR.heap.new (H':=H.alloc (.loop { env:=env,params:=ps.toList,assign:=v1,body:=v2,state:=.ready,pending:=.normal })) (id:=H.nx) (b:=w.heap.size+1) (n:=0) wD (Wh hR.heap) KT (fun i hi _=>Jm hi)
     (Nat.lt_succ_self _) (Nat.le_succ _) (Nat.le_succ _) (by rw [Xz];omega)
     ⟨lp,Xy,rfl,rfl,rfl,⟨Z,by show zM P Z a.tmps.size assign=_;rw [hR.size];exact h1,Hy⟩,⟨Z,by show zM P Z a.tmps.size body=_;rw [hR.size];exact h2,Qm⟩,
      fun t=>(hR.env t).mono (fun _ b hb=>⟨hb,wD.block b hb.2.1⟩) (fun _ _ h=>h),fun t ht=>by show t < a.tmps.size;rw [hR.size];exact uY t ht⟩
    obtain ⟨Af,Lx⟩:=aW;generalize We:H.alloc (.loop { env:=env,params:=ps.toList,assign:=v1,body:=v2,state:=.ready,pending:=.normal })=H1 at Af Lx;generalize hφe:Br φ H.nx (w.heap.size+1,0)=φ1 at Af Lx;have hφ1:φ1 H.nx=some (w.heap.size+1,0):=by rw [<- hφe,yx]
    have LB:aA (aQ S base φ1 H1 w1) φ1 w1 (.yield H.nx) (.func (.yield (w.heap.size+1)) #[] #[]):=.yield _ _ _ hφ1;have LC:(Instr.enterLoop fn a.tmps ps assign body (Fw none).round).run P w=.ok (w.heap.size+1,[EK w.heap.size]) w1:=by
     show (Instr.enterLoop fn a.tmps ps assign body none).run P w=_;exact ziR fn a.tmps ps assign body
    have Ue:=Af.uQ (zC hR.env hz)
    -- after the call
    have after:∀ (v:AV) (H2:Heap) (r:Bi),H2.get H.nx=.loop r->(match r.state with|.busy=>none|_=>some (r.pending,env,H2.set H.nx .dead):Out)=some (x,env',H') ->
      ∀ (φ2:iX) (w3:World),bY φ1 H1 w1 φ2 H2 w3->aN (CC P) S base φ2 H2 w3 ->
      ∃ jump w₄,(Instr.endLoop (w.heap.size+1)).run P w3=.ok jump w₄ /\
       (match jump with
        | none=>Q .normal { a with defers:=[EK w.heap.size]++a.defers } w₄
        | some c=>c.wpIn (Fw none) n P Q { a with defers:=[EK w.heap.size]++a.defers } w₄):=by
     intro v H2 r hr aY φ2 w3 qw DU;have jJ:=qw.phi _ _ hφ1;have ho:=DU.obj _ _ _ jJ;rw [hr] at ho;obtain ⟨l2,g1,g2,g3,g4,g5,g6,g7,g8⟩:=ho;have Gl:r.state≠.busy:=fun e=>by rw [e] at aY;simp at aY
     have Qn:r.pending=x/\env=env'/\H2.set H.nx .dead=H':=by
      cases hs:r.state<;>rw [hs] at aY<;>simp at aY<;>first|exact aY|exact absurd hs Gl
     obtain ⟨rfl,rfl,rfl⟩:=Qn;have Ag:(l2.state == LoopState.busy)=false:=by
      rw [g2]
      cases hs:r.state<;>first|rfl|exact absurd hs Gl
     have Ah:(Instr.endLoop (w.heap.size+1)).run P w3=.ok l2.pending (laid w3 (w.heap.size+1) (.loop { l2 with state:=.exhausted })):=by
      simp only [Instr.endLoop,Sem.run_bind,Xu g1,Result.andThen_ok,Ag,Bool.false_eq_true,if_false,Sem.run_pure,Xv g1]
     obtain ⟨ET,hH3⟩:=DU.write (o:=.dead) (w':=laid w3 (w.heap.size+1) (.loop { l2 with state:=.exhausted })) jJ (by rw [hr];rfl) rfl rfl rfl (by simp [laid]) (fun c hc=>CO hc) trivial;have LD:=Af.trans (qw.trans ET);have qh:R (CC P) S base lo nt φ2 (H2.set H.nx .dead) env { a with defers:=[EK w.heap.size]++a.defers } (laid w3 (w.heap.size+1) (.loop { l2 with state:=.exhausted })):=by
      refine ⟨hH3,fun t=>LD.uQ (hR.env t),hR.size,Nat.le_trans hR.tu LD.size,?_⟩
      obtain ⟨marks,m1,m2,m3⟩:=hR.defs
      refine NR Lx (qw.trans ET) ⟨w.heap.size::marks,by simp [m1],List.nodup_cons.2 ⟨fun hm=>?_,m2⟩,fun r hr=>?_⟩
      .have:=Ql (m3 _ hm).2;omega
      .rcases List.mem_cons.1 hr with rfl|hr
       .exact ⟨hR.tu,F8⟩
       .have:=m3 r hr;exact ⟨this.1,(wD.block r (Ql this.2)).trans this.2⟩
     refine ⟨_,_,Ah,?_⟩
     have hq:=hQ φ2 _ _ LD qh;generalize laid w3 (w.heap.size+1) (.loop { l2 with state:=.exhausted })=w4 at hq ⊢;rw [g3]
     cases hp:r.pending with
     | normal=>rw [hp] at hq;exact hq
     | exit i=>rw [hp] at hq;exact wpIn_exit hq
     | ret=>rw [hp] at hq;exact wpIn_ret hq
    have fin:∀ (f:Nat) (caps:List AV) (jB:Array Value),a.eval g=.func (.func f) #[] jB->az (aQ S base φ1 H1 w1) φ1 w1 caps jB.toList ->
      (match cl.run f (.yield H.nx::caps) H1 with
       | some (_,H2)=>match H2.get H.nx with
        | .loop r=>match r.state with
         | .busy=>none
         | _=>some (r.pending,env,H2.set H.nx .dead)
        | _=>none
       | none=>none:Out)=some (x,env',H') ->
      ∃ (l:Nat) (mark:List Deferred) (w₁:World) (d:Deferred) (w₁':World) (f:FuncId) (args:Array Value) (w₂:World),
       (Instr.enterLoop fn a.tmps ps assign body (Fw none).round).run P w=.ok (l,mark) w₁ /\
       (resolve a.eval (rangeCall g l) 0).run P w₁=.ok d w₁' /\
       (∀ f',Target.leads P w₁' d.target d.args=some f'->(Fw none).fn f') /\
       (invoke d.target d.args).run P w₁'=.ok (.enter f args) w₂ /\
       ((Fw none).depth.isSome=true->1<=n) /\
       CallsIn (Fw none) (n - 1) P f args w₂ (rangePost (Fw none) n P l Q { a with defers:=mark++a.defers }):=by
     intro f caps jB hg wC hm
     cases bC:cl.run f (.yield H.nx::caps) H1 with
     | none=>rw [bC] at hm;simp at hm
     | some res =>
      obtain ⟨v,H2⟩:=res;rw [bC] at hm;simp only at hm;obtain ⟨hf,LF⟩:=fe.run _ _ _ _ _ bC;have BG:(Value.func (.yield (w.heap.size+1)) #[] #[]::jB.toList).toArray=#[Value.func (.yield (w.heap.size+1)) #[] #[]]++jB:=by
       apply Array.ext';simp
      refine ⟨w.heap.size+1,[EK w.heap.size],w1,{ target:=.fn (.func f) jB,args:=#[.func (.yield (w.heap.size+1)) #[] #[]] },w1,f,#[Value.func (.yield (w.heap.size+1)) #[] #[]]++jB,w1,LC,?_,fun _ _=>trivial,?_,fun h=>by simp [Fw,Fence.wide] at h,?_⟩
      .simp only [resolve,rangeCall,hg,Deferred.ofValue,Sem.run_pure];simp [Act.eval]
      .simp only [invoke];rw [zgn hf]
      .rw [<- BG]
       refine CallsIn.mono (LF (n - 1) S base φ1 w1 _ Lx (.cons LB wC)) ?_
       rintro e w3 ⟨u,φ2,rfl,qw,DU,_⟩
       cases hr:H2.get H.nx with
       | loop r =>
        rw [hr] at hm;exact after v H2 r hr hm φ2 w3 qw DU
       | dead=>rw [hr] at hm;simp at hm
       | cells o cs=>rw [hr] at hm;simp at hm
       | raw z=>rw [hr] at hm;simp at hm
       | iC es=>rw [hr] at hm;simp at hm
    simp only [exec] at hx;rw [We] at hx
    split at hx
    .rename_i f caps hf;rw [hf] at Ue;obtain ⟨vs,e1,e2,e3⟩:=Ue.au.jA;exact fin f _ vs e1 (az.nD (by simpa using e2) fun i p v hp hv=>e3 i p v hp (by simpa using hv)) hx
    .rename_i f caps hf;rw [hf] at Ue;obtain ⟨vs,e1,e2,e3⟩:=Ue.jA;exact fin f _ vs e1 (az.pG e2 e3) hx
    .simp at hx
   .simp at hc
  .simp at hc
end
def Uf (w:World) (b:Nat):Prop:=∃ c t fz,w.heap[b]?=some (.cells c t fz)
theorem zeC {w:World} {b k:Nat} {v:Value} (h:w.cell? ⟨b,k,none⟩=some v):Uf w b:=by
 simp only [World.cell?] at h
 split at h
 .rename_i c t fz hb;exact ⟨c,t,fz,hb⟩
 .simp at h
theorem bA.touch {I I':Bool->Nat->Prop} {w w':World} (hI:∀ k b,I k b->Uf w b->I' k b/\w'.heap[b]?=w.heap[b]?) {p:PV} {v:Value} (h:bA I w p v):bA I' w' p v:=by
 induction h with
 | int k n=>exact .int k n
 | bool b=>exact .bool b
 | str s=>exact .str s
 | agg cs vs hl _ ih=>exact .agg cs vs hl ih
 | aM cs vs hl _ ih=>exact .aM cs vs hl ih
 | nils=>exact .nils
 | slice k sz es b o len cap val hlen hc hz hm _ ih =>
  refine .slice k sz es b o len cap val hlen hc hz (fun i e j p he hp=>?_) ih
  obtain ⟨h1,h2⟩:=hm i e j p he hp;have h3:=hI _ _ h1 (zeC h2);exact ⟨h3.1,(World.cell?_of_block (a:=⟨b,o+i*sz+j,none⟩) h3.2).trans h2⟩
 | jU=>exact .jU
 | ptr k cs off b o o' val ho hm _ ih =>
  refine .ptr k cs off b o o' val ho (fun j p hp=>?_) ih
  obtain ⟨h1,h2⟩:=hm j p hp;have h3:=hI _ _ h1 (zeC h2);exact ⟨h3.1,(World.cell?_of_block (a:=⟨b,o+j,none⟩) h3.2).trans h2⟩
 | func f cs vs hl _ ih=>exact .func f cs vs hl ih
 | jV=>exact .jV
 | jH f cs vs hl _ ih=>exact .jH f cs vs hl ih
theorem aA.touch {I I':Bool->Nat->Prop} {φ:iX} {w w':World} (hI:∀ k b,I k b->Uf w b->I' k b/\w'.heap[b]?=w.heap[b]?) {a:AV} {v:Value} (h:aA I φ w a v):aA I' φ w' a v:=by
 induction h with
 | undef v=>exact .undef v
 | pure p v h=>exact .pure p v (h.touch hI)
 | box id off b n h=>exact .box id off b n h
 | row id sz off len b n o cap h ho hc hn=>exact .row id sz off len b n o cap h ho hc hn
 | agg cs vs hl _ ih=>exact .agg cs vs hl ih
 | aM cs vs hl _ ih=>exact .aM cs vs hl ih
 | func f cs vs hl _ ih=>exact .func f cs vs hl ih
 | yield id b n h=>exact .yield id b n h
 | void id sz b h=>exact .void id sz b h
 | jr id b n h=>exact .jr id b n h
 | jI id sz off len b n o h ho=>exact .jI id sz off len b n o h ho
section
variable {P:Program} {Z:List Nat} {C:iT} {S:Bool->Nat->Prop} {base lo nt:Nat} {n:Nat} {φ φ':iX} {H H':Heap} {w w':World} {env:Env} {a:Act}
theorem aN.touch (h:aN C S base φ H w) {r:Nat} {x:Option (List Deferred)} (hr:w.heap[r]?=some (.deferred x)) (o:Obj):aN C S base φ H (laid w r o):=by
 have fE:(laid w r o).heap.size=w.heap.size:=by simp [laid]
 have bL:∀ id b n,φ id=some (b,n)->(H.get id).bQ=false->b≠r:=fun id b n aj hd e=>by
  subst e;have ho:=h.obj _ _ _ aj
  cases hg:H.get id with
  | dead=>rw [hg] at hd;simp [aR.bQ] at hd
  | cells own cs=>rw [hg] at ho;obtain ⟨c,t,fz,h1,_⟩:=ho;rw [hr] at h1;simp at h1
  | raw z=>rw [hg] at ho;obtain ⟨c,t,fz,h1,_⟩:=ho;rw [hr] at h1;simp at h1
  | iC es=>rw [hg] at ho;obtain ⟨ms,ck,h1,_⟩:=ho;rw [hr] at h1;simp at h1
  | loop l=>rw [hg] at ho;obtain ⟨l',h1,_⟩:=ho;rw [hr] at h1;simp at h1
 have Ab:∀ k b,aQ S base φ H w k b->Uf w b->aQ S base φ H (laid w r o) k b/\(laid w r o).heap[b]?=w.heap[b]?:=fun k b hb hc=>by
  refine ⟨⟨hb.1,by rw [fE];exact hb.2.1,hb.2.2⟩,CO fun e=>?_⟩
  subst e;obtain ⟨c,t,fz,h1⟩:=hc;rw [hr] at h1;simp at h1
 refine ⟨by rw [fE];exact h.sz,h.out,h.nx,fun id b n aj=>by rw [fE];exact h.lt _ _ _ aj,fun id b n aj=>?_,h.inj⟩
 have ho:=h.obj _ _ _ aj
 cases hg:H.get id with
 | dead=>trivial
 | cells own cs =>
  rw [hg] at ho;obtain ⟨c,e,fz,h1,h2,h3,h4,h5⟩:=ho;exact ⟨c,e,fz,(CO (bL _ _ _ aj (by rw [hg];rfl))).trans h1,h2,h3,h4,fun j a v ha hv=>(h5 j a v ha hv).touch Ab⟩
 | raw z =>
  rw [hg] at ho;obtain ⟨c,e,fz,h1,h2,h3,h4,h5⟩:=ho;exact ⟨c,e,fz,(CO (bL _ _ _ aj (by rw [hg];rfl))).trans h1,h2,h3,h4,fun j a v ha hv=>(h5 j a v ha hv).touch Ab⟩
 | iC es =>
  rw [hg] at ho;obtain ⟨ms,ck,h1,h2,h3⟩:=ho;exact ⟨ms,ck,(CO (bL _ _ _ aj (by rw [hg];rfl))).trans h1,h2,fun j k v m hk hm=>⟨(h3 j k v m hk hm).1.touch Ab,(h3 j k v m hk hm).2.touch Ab⟩⟩
 | loop l =>
  rw [hg] at ho;obtain ⟨l',h1,h2,h3,h4,h5,h6,h7,h8⟩:=ho;exact ⟨l',(CO (bL _ _ _ aj (by rw [hg];rfl))).trans h1,h2,h3,h4,h5,h6,fun t=>(h7 t).touch Ab,h8⟩
theorem zm5 {r:Nat} {x:Option (List Deferred)} (hr:w.heap[r]?=some (.deferred x)) (o:Obj) {av:AV} {v:Value} (h:aA (aQ S base φ H w) φ w av v):aA (aQ S base φ H (laid w r o)) φ (laid w r o) av v :=
 h.touch fun k b hb hc=>by
  refine ⟨⟨hb.1,by simpa [laid] using hb.2.1,hb.2.2⟩,CO fun e=>?_⟩
  subst e;obtain ⟨c,t,fz,h1⟩:=hc;rw [hr] at h1;simp at h1
theorem zli (hH:aN C S base φ H w) (hE:aV (aQ S base φ H w) φ w env a) {r:ResultVar} {vr:j6} {av:AV} (hc:TD P r=some vr) (hl:GY env H vr=some av) :
  ∃ u,((match r with|.tmp t=>pure (a.tmps.getD t undef)|.cell b t=>do loadVar t (<- asAddr (a.tmps.getD b undef)):Sem Value)).run P w=.ok u w/\aA (aQ S base φ H w) φ w av u:=by
 cases r with
 | tmp t =>
  simp [TD] at hc;subst hc;simp [GY] at hl;subst hl;exact ⟨_,rfl,hE t⟩
 | cell t ty =>
  simp only [TD] at hc
  split at hc
  .rename_i g s hg hs
   split at hc
   .simp at hc
   .rename_i h1;simp at hc;subst hc;simp only [GY] at hl
    split at hl
    .rename_i cs sI;obtain ⟨ad,vs,e1,e2,e3,e4⟩:=zfn hH (hE t) sI;have hlen:vs.length=s:=by have:=e2.1;omega
     refine ⟨_,?_,VJ e2 hl⟩
     show (do loadVar ty (<- asAddr (a.tmps.getD t undef)):Sem Value).run P w=_;rw [e1];exact zf7 hg hs (TT h1) hlen e4
    .simp at hl
  .simp at hc
theorem zg0 (hH:aN C S base φ H w) (hE:aV (aQ S base φ H w) φ w env a):∀ {rs:List ResultVar} {JV:List j6} {Ob:List AV},NH P rs=some JV->Bn env H JV=some Ob ->
  ∃ us,(rs.mapM fun r=>(match r with|.tmp t=>pure (a.tmps.getD t undef)|.cell b t=>do loadVar t (<- asAddr (a.tmps.getD b undef)):Sem Value)).run P w=.ok us w/\az (aQ S base φ H w) φ w Ob us
 | [],JV,Ob,hc,hl=>by
  simp [NH] at hc;subst hc;simp [Bn] at hl;subst hl;exact ⟨[],rfl,.nil⟩
 | r::rs,JV,Ob,hc,hl=>by
  simp only [NH] at hc
  split at hc
  .simp at hc
  .rename_i v hv
   split at hc
   .simp at hc
   .rename_i vs nG;simp at hc;subst hc;simp only [Bn] at hl
    split at hl
    .simp at hl
    .rename_i x hx
     split at hl
     .simp at hl
     .rename_i xs EG;simp at hl;subst hl;obtain ⟨u,h1,h2⟩:=zli hH hE hv hx;obtain ⟨us,h3,h4⟩:=zg0 hH hE nG EG
      refine ⟨u::us,?_,.cons h2 h4⟩
      rw [List.mapM_cons];simp only [Sem.run_bind,h1,Result.andThen_ok,h3,Sem.run_pure]
theorem zk0 (hH:aN C S base φ H w) (hE:aV (aQ S base φ H w) φ w env a) {fn:Func} {JV:List j6} {av:AV} (hc:NH P fn.results.toList=some JV) (hl:Vm.results env H JV=some av) :
  ∃ u,(Go.results fn a.tmps).run P w=.ok u w/\aA (aQ S base φ H w) φ w av u:=by
 unfold Vm.results at hl
 cases XA:Bn env H JV with
 | none=>rw [XA] at hl;simp at hl
 | some Ob =>
  rw [XA] at hl;obtain ⟨us,h1,h2⟩:=zg0 hH hE hc XA;have h3:(fn.results.mapM fun r=>(match r with|.tmp t=>pure (a.tmps.getD t undef)|.cell b t=>do loadVar t (<- asAddr (a.tmps.getD b undef)):Sem Value)).run P w=.ok us.toArray w:=by
   rw [Array.mapM_eq_mapM_toList];simp only [Sem.run_map,h1,Result.andThen_ok]
  refine ⟨if h:us.toArray.size=1 then us.toArray[0] else .tuple us.toArray,?_,?_⟩
  .unfold Go.results;rw [Sem.run_bind]
   erw [h3]
   rfl
  .match Ob,us,h2,hl with
   | [v],us,h2,hl =>
    obtain ⟨u,us',rfl,h4,h5⟩:=h2.cons_inv;have:=h5.lQ;subst this;simp at hl;subst hl
    simpa using h4
   | [],us,h2,hl =>
    have:=h2.lQ;subst this;simp at hl;subst hl;exact PZ
   | v1::v2::vs,us,h2,hl =>
    obtain ⟨u,us',rfl,h4,h5⟩:=h2.cons_inv;obtain ⟨u2,us2,rfl,h6,h7⟩:=h5.cons_inv;simp at hl;subst hl;rw [dif_neg (by simp)];exact .aM _ _ (by simpa using h2.1) fun i p v hp hv=>h2.2 i p v hp (by simpa using hv)
structure XB (P:Program) (G:Prog):Prop where
 mix:P.follows .mixedOrders=true
 func:∀ f vf,G.func f=some vf->∃ fn Z,P.funcs[f]?=some fn/\zi P Z fn=some vf
 ext:∀ f g ps r,G.ext f=some g->g ps=some r->TR P f ps r
 jy:∀ f xs H r H',G.jy f xs H=some (r,H')->PS (CC P) P f xs H r H'
theorem zki {fn:Func} {tmps:Array Value} {Rr:Ending->World->Prop} {φ0:iX} {H0:Heap} {w0:World} (hK:∀ w',bY φ0 H0 w0 φ H w'->aN C S base φ H w'->(aV (aQ S base φ H w') φ w' env a)->∃ v,(Go.results fn tmps).run P w'=.ok v w'/\Rr (.returned v) w') :
  ∀ (marks:List Nat) (w:World),marks.Nodup->(∀ r∈marks,w0.heap.size<=r/\w.heap[r]?=some (.deferred (some [])))->bY φ0 H0 w0 φ H w->aN C S base φ H w->aV (aQ S base φ H w) φ w env a ->
   LeavesInM Fence.wide n P fn tmps Rr (marks.map EK) .returning w:=by
 intro marks
 induction marks with
 | nil =>
  intro w _ _ j4 hH hE;exact hK w j4 hH hE
 | cons r marks ih =>
  intro w xW hm j4 hH hE;have hr:=hm r (List.mem_cons_self ..);have aK:=Ql hr.2
  refine ⟨by simp,.inl ⟨r,laid w r (.deferred none),rfl,?_,?_⟩⟩
  .simp only [Instr.takeDeferred,Sem.run_bind];have h1:(getObj r).run P w=.ok (.deferred (some [])) w:=by simp [getObj,Sem.run,hr.2]
   have h2:(setObj r (.deferred none)).run P w=.ok () (laid w r (.deferred none)):=by simp [setObj,Sem.run,hr.2,laid]
   simp only [h1,Result.andThen_ok,Sem.run_bind,h2,Sem.run_pure]
  .refine ih (laid w r (.deferred none)) (List.nodup_cons.1 xW).2 (fun s hs=>?_) ?_ (hH.touch hr.2 _) fun t=>zm5 hr.2 _ (hE t)
   .have:=hm s (List.mem_cons_of_mem _ hs);exact ⟨this.1,(CO (fun e=>(List.nodup_cons.1 xW).1 (by rw [<- e];exact hs))).trans this.2⟩
   .exact ⟨j4.phi,j4.os,j4.tape,j4.output,by simp [laid];exact j4.size,fun b hb G5=>(CO (by omega)).trans (j4.same b hb G5),j4.Eo,j4.nx⟩
theorem zlA {I:Bool->Nat->Prop} {xs:List AV} {vals:List Value} {k:Nat} (h:az I φ w xs vals):aV I φ w (za xs) { tmps:=vals.toArray++Array.replicate k undef,defers:=[] }:=fun t=>by
 show aA I φ w ((xs[t]?).getD (.aM [])) ((vals.toArray++Array.replicate k undef).getD t undef);rcases Nat.lt_or_ge t xs.length with ht|ht
 .have ht':t < vals.length:=by rw [<- h.1];exact ht
  have:=h.2 t xs[t] vals[t] (List.getElem?_eq_getElem ht) (List.getElem?_eq_getElem ht');rw [List.getElem?_eq_getElem ht];have e:(vals.toArray++Array.replicate k undef).getD t undef=vals[t]:=by
   simp only [Array.getD_eq_getD_getElem?,Array.getElem?_append];simp [ht']
  rw [e];exact this
 .rw [List.getElem?_eq_none ht];have e:(vals.toArray++Array.replicate k undef).getD t undef=undef:=by
   have:=h.1;simp only [Array.getD_eq_getD_getElem?,Array.getElem?_append];rw [if_neg (by simp;omega)];simp only [Array.getElem?_replicate]
   split<;>rfl
  rw [e];exact PZ
theorem zoq {I:Bool->Nat->Prop}:∀ {ts:List Tmp} {xs:List AV} {vals:List Value} {env:Env} {tmps:Array Value},(∀ t,aA I φ w (env t) (tmps.getD t undef))->az I φ w xs vals->(∀ t∈ts,t < tmps.size) ->
  (∀ t,aA I φ w (((ts.zip xs).foldl (fun e x=>upd e x.1 x.2) env) t) (((ts.zip vals).foldl (fun tm (x:Tmp×Value)=>tm.setIfInBounds x.1 x.2) tmps).getD t undef)) /\
   ((ts.zip vals).foldl (fun tm (x:Tmp×Value)=>tm.setIfInBounds x.1 x.2) tmps).size=tmps.size
 | [],xs,vals,env,tmps,hE,hx,hl=>⟨hE,rfl⟩
 | t::ts,[],vals,env,tmps,hE,hx,hl=>by rw [hx.lQ];exact ⟨hE,rfl⟩
 | t::ts,x::xs,vals,env,tmps,hE,hx,hl=>by
  obtain ⟨v,vs,rfl,h1,h2⟩:=hx.cons_inv;have ht:=hl t (List.mem_cons_self ..);have:=zoq (ts:=ts) (env:=upd env t x) (tmps:=tmps.setIfInBounds t v) (fun u=>by
   simp only [upd]
   by_cases hu:u=t
   .subst hu;simp [ht];exact h1
   .rw [if_neg hu];have e:(tmps.setIfInBounds t v).getD u undef=tmps.getD u undef:=by simp [Ne.symm hu]
    rw [e];exact hE u) h2 (fun u hu=>by simp;exact hl u (List.mem_cons_of_mem _ hu))
  simp only [List.zip_cons_cons,List.foldl_cons];exact ⟨this.1,this.2.trans (by simp)⟩
theorem zhb (ps:Array Tmp) (vals:List Value) (tmps:Array Value) :
  ((ps.zip vals.toArray).foldl (fun tmps (x:Tmp×Value)=>tmps.setIfInBounds x.1 x.2) tmps)=((ps.toList.zip vals).foldl (fun tm (x:Tmp×Value)=>tm.setIfInBounds x.1 x.2) tmps):=by
 rw [<- Array.foldl_toList];simp
theorem zm1 (S:Bool->Nat->Prop) (w:World) (hS:∀ k b,S k b->b < w.heap.size):aN C S w.heap.size (fun _=>none) Heap.empty w :=
 ⟨Nat.le_refl _,hS,fun id x h=>by simp at h,fun id b n h=>by simp at h,fun id b n h=>by simp at h,fun id id' b n n' h=>by simp at h⟩
theorem zg3 {f:FuncId} {ps:List PV} {v:AV} {H':Heap} {r:PV} {ids:List Nat} (h:PS C P f (ps.map .pure) Heap.empty v H') (hf:Vm.freeze H' false nZ v=some (r,ids)):TR P f ps r:=by
 refine ⟨h.1,fun n S' w vals hS uY=>?_⟩
 have hI:∀ k b,S' k b->aQ S' w.heap.size (fun _=>none) Heap.empty w k b:=fun k b hb=>⟨.inl hb,hS k b hb,fun ⟨id,m,aj,_⟩=>by simp at aj⟩
 refine CallsIn.mono (h.2 n S' w.heap.size (fun _=>none) w vals (zm1 S' w hS) (az.nD uY.1 fun i p v hp hv=>(uY.2 i p v hp hv).mono fun k b hb=>⟨hI k b hb,rfl⟩)) ?_
 rintro e w' ⟨u,φ',rfl,j4,hH,hv⟩
 refine ⟨u,rfl,⟨j4.os,j4.tape,j4.output,j4.size,fun b hb=>j4.same b hb fun ⟨id,m,aj,_⟩=>by simp at aj⟩,?_⟩
 refine zhT hH (J:=fun k b=>(S' k b\/w.heap.size<=b)/\b < w'.heap.size) (fun k b hb=>⟨hb.1,hb.2.1⟩) nZ v r ids u hf hv fun id _ b m aj=>?_
 have:=hH.lt _ _ _ aj;exact ⟨.inr this.1,this.2⟩
theorem zoW (G:Prog) (n:Nat) (tg:Target) (args:List AV) (H:Heap):Vm.call G (n+1) tg args H =
  (let cl:Callee:={
   pure:=fun f ps=>match G.ext f with
    | some g=>g ps
    | none=>match Vm.call G n (.fn f) (ps.map .pure) Heap.empty with
     | some (v,H')=>(Vm.freeze H' false nZ v).map (·.1)
     | none=>none
   shared:=G.shared
   run:=fun f xs H=>Vm.call G n (.fn f) xs H
   yield:=fun id xs H=>Vm.call G n (.yield id) xs H }
  match tg with
  | .fn f=>match G.jy f args H with
   | some r=>some r
   | none=>match G.func f with
    | none=>none
    | some fn =>
     if args.length=fn.uh then
      match exec cl fn.body (za args) H with
      | some (.normal,env,H')|some (.ret,env,H')=>match Vm.results env H' fn.results with
       | some v=>some (v,H')
       | none=>none
      | _=>none
     else none
  | .yield id=>match H.get id with
   | .loop r =>
    if args.length=r.params.length then
     match exec cl r.assign ((r.params.zip args).foldl (fun e x=>upd e x.1 x.2) r.env) H with
     | some (.normal,iM,H2)=>match H2.get id with
      | .loop r2=>match r2.state with
       | .ready=>match exec cl r.body iM (H2.set id (.loop { r2 with state:=.busy })) with
        | some (x,_,H3)=>match H3.get id with
         | .loop r3=>match x with
          | .normal=>some (.pure (.bool true),H3.set id (.loop { r3 with state:=.ready,pending:=.normal }))
          | x=>some (.pure (.bool false),H3.set id (.loop { r3 with state:=.done,pending:=x }))
         | _=>none
        | none=>none
       | _=>none
      | _=>none
     | _=>none
    else none
   | _=>none):=rfl
def zp3 (P:Program) (tg:Target) (args:List AV) (H:Heap) (r:AV) (H':Heap):Prop :=
 match tg with
 | .fn f=>PS (CC P) P f args H r H'
 | .yield id=>znV (CC P) P id args H r H'
theorem zmI {G:Prog} (hG:XB P G):∀ (n:Nat) (tg:Target) (args:List AV) (H:Heap) (r:AV) (H':Heap),Vm.call G n tg args H=some (r,H')->zp3 P tg args H r H':=by
 intro n
 induction n with
 | zero=>intro tg args H r H' h;simp [Vm.call] at h
 | succ n ih =>
  intro tg args H r H' h;rw [zoW] at h
  extract_lets cl at h
  have fe:bz (CC P) P cl:=by
   refine ⟨fun f ps r h=>?_,fun f xs H r H' h=>ih (.fn f) xs H r H' h,fun id xs H r H' h=>ih (.yield id) xs H r H' h⟩
   simp only [cl] at h
   split at h
   .rename_i g hg;exact hG.ext _ _ _ _ hg h
   .split at h
    .rename_i v H1 hc;rw [Option.map_eq_some_iff] at h;obtain ⟨⟨p,ids⟩,hf,rfl⟩:=h;exact zg3 (ih (.fn f) _ _ _ _ hc) hf
    .simp at h
  clear_value cl
  cases tg with
  | fn f =>
   simp only at h
   split at h
   .rename_i r0 PD;simp only [Option.some.injEq] at h;subst h;exact hG.jy _ _ _ _ _ PD
   split at h
   .simp at h
   .rename_i vf hvf;obtain ⟨fn,Z,Ug,iB⟩:=hG.func _ _ hvf;unfold zi at iB
    split at iB
    .rename_i c rs hb BB
     split at iB
     .simp at iB
     .rename_i wB;simp only [Bool.or_eq_true,not_or,Bool.not_eq_true,Bool.not_eq_eq_eq_not,Bool.not_true,Bool.not_false] at wB;rw [Option.map_eq_some_iff] at iB;obtain ⟨vc,hvc,rfl⟩:=iB
      split at h
      .rename_i hlen;simp only at hlen
       refine ⟨⟨fn,Ug,by rw [hb];rfl,wB.1⟩,fun k S base φ w vals hH hv=>?_⟩
       have hle:fn.params.size+fn.nfree<=fn.ntmps:=by simpa using wB.2
       have JA:vals.length=fn.params.size+fn.nfree:=hv.1.symm.trans hlen
       refine callsIn_of_wp_marks Ug hb trivial ?_
       have hR:R (CC P) S base w.heap.size fn.ntmps φ H (za args) { tmps:=vals.toArray++Array.replicate (fn.ntmps - vals.toArray.size) undef,defers:=[] } w :=
        ⟨hH,zlA hv,by simp;omega,Nat.le_refl _,[],rfl,List.nodup_nil,by simp⟩
       have JW:∀ (x:bW) (env':Env),exec cl vc (za args) H=some (x,env',H')->(x=.normal\/x=.ret)->Vm.results env' H' rs=some r ->
         c.wpIn (Fw none) k P (bodyPostM Fence.wide k P fn fun e w'=>∃ v φ',e=.returned v/\bY φ H w φ' H' w'/\aN (CC P) S base φ' H' w'/\aA (aQ S base φ' H' w') φ' w' r v)
          { tmps:=vals.toArray++Array.replicate (fn.ntmps - vals.toArray.size) undef,defers:=[] } w:=fun x env' hx sM aY=>by
        refine Xw fe hG.mix c vc _ H x env' H' φ _ w _ (.inl rfl) hvc hx hR fun φ' a' w' j4 qh=>?_
        obtain ⟨marks,m1,m2,m3⟩:=qh.defs;have EU:=zki (n:=k) (P:=P) (C:=CC P) (S:=S) (base:=base) (fn:=fn) (tmps:=a'.tmps) (a:=a') (env:=env') (φ:=φ') (H:=H') (φ0:=φ) (H0:=H) (w0:=w)
         (Rr:=fun e w'=>∃ v φ',e=.returned v/\bY φ H w φ' H' w'/\aN (CC P) S base φ' H' w'/\aA (aQ S base φ' H' w') φ' w' r v) (fun w2 qw DU hE2=>by
          obtain ⟨u,h1,h2⟩:=zk0 DU hE2 (fn:=fn) BB aY;exact ⟨u,h1,u,φ',rfl,qw,DU,h2⟩) marks w' m2 m3 j4 qh.heap qh.env
        rw [<- m1] at EU;rcases sM with rfl|rfl<;>exact EU
       split at h
       .rename_i env' H1 hx
        split at h
        .rename_i v aY;simp at h;obtain ⟨rfl,rfl⟩:=h;exact JW _ _ hx (.inl rfl) aY
        .simp at h
       .rename_i env' H1 hx
        split at h
        .rename_i v aY;simp at h;obtain ⟨rfl,rfl⟩:=h;exact JW _ _ hx (.inr rfl) aY
        .simp at h
       .simp at h
      .simp at h
    .simp at iB
  | yield id =>
   simp only at h
   split at h
   .rename_i lr Oc
    split at h
    .rename_i hlen
     split at h
     .rename_i iM H2 Ae
      split at h
      .rename_i r2 Oe
       split at h
       .rename_i qx
        split at h
        .rename_i x Qo H3 sM
         split at h
         .rename_i r3 Uh;intro k S base φ w b m vals aj hH hv;have ho:=hH.obj _ _ _ aj;rw [Oc] at ho;obtain ⟨l,g1,g2,g3,g4,⟨Z5,g5,g5'⟩,⟨Z6,g6,g6'⟩,g7,g8⟩:=ho
          refine ⟨l,g1,?_,?_⟩
          .rw [<- hv.1,hlen,<- g4];simp
          .refine roundIn_of_wpIn trivial ?_
           rw [zhb];have hz:=zoq (ts:=l.params.toList) g7 hv (by rw [g4];exact g8);rw [<- g4] at Ae;have hR:R (CC P) S base w.heap.size l.tmps.size φ H ((l.params.toList.zip args).foldl (fun e x=>upd e x.1 x.2) lr.env)
             { tmps:=((l.params.toList.zip vals).foldl (fun tm (x:Tmp×Value)=>tm.setIfInBounds x.1 x.2) l.tmps),defers:=[] } w :=
            ⟨hH,hz.1,hz.2,Nat.le_refl _,[],rfl,List.nodup_nil,by simp⟩
           refine Xw (ro:=some b) fe hG.mix l.assign lr.assign _ H .normal iM H2 φ _ w _ (.inr g5') g5 Ae hR fun φ1 a1 w1 Af nJ=>?_
           have rP:=Af.phi _ _ aj;have Qp:=nJ.heap.obj _ _ _ rP;rw [Oe] at Qp;obtain ⟨l1,k1,k2,k3,k4,k5,k6,k7,k8⟩:=Qp;have wD:(Instr.beginRound b).run P w1=.ok () (laid w1 b (.loop { l1 with state:=.busy })):=by
            have:l1.state=.ready:=by rw [k2,qx];rfl
            simp only [Instr.beginRound,Sem.run_bind,Xu k1,Result.andThen_ok,Xv k1,this,Sem.run_pure]
           refine ⟨_,wD,?_⟩
           obtain ⟨qw,DU⟩:=nJ.heap.write (o:=.loop { r2 with state:=.busy }) (w':=laid w1 b (.loop { l1 with state:=.busy })) rP (by rw [Oe];rfl) rfl rfl rfl (by simp [laid]) (fun c hc=>CO hc)
            ⟨{ l1 with state:=.busy },zjw (Ql k1),rfl,k3,k4,k5,k6,fun t=>(k7 t).touch fun _ c hc uU=>⟨hc,CO fun e=>by subst e;obtain ⟨c',t',fz,h1⟩:=uU;rw [k1] at h1;simp at h1⟩,k8⟩
           have iL:R (CC P) S base w.heap.size l.tmps.size φ1 (H2.set id (.loop { r2 with state:=.busy })) iM a1 (laid w1 b (.loop { l1 with state:=.busy })) :=
            ⟨DU,fun t=>qw.uQ (nJ.env t),nJ.size,Nat.le_trans nJ.tu qw.size,NR nJ.heap qw nJ.defs⟩
           refine Xw (ro:=some b) fe hG.mix l.body lr.body _ _ x Qo H3 φ1 _ _ _ (.inr g6') g6 sM iL fun φ3 a3 w3 ET vL=>?_
           have qy:=ET.phi _ _ rP;have LG:=vL.heap.obj _ _ _ qy;rw [Uh] at LG;obtain ⟨l3,q1,q2,q3,q4,q5,q6,q7,q8⟩:=LG;have fin:∀ (st:yu) (lst:LoopState) (pe:bW) (j:Option Code) (bv:Bool),lst=zon st->j=zqW pe->(Instr.endRound b j).run P w3=.ok (.bool bv) (laid w3 b (.loop { l3 with state:=lst,pending:=j })) ->
             (r,H')=(.pure (.bool bv),H3.set id (.loop { r3 with state:=st,pending:=pe })) ->
             ∃ v w',(Instr.endRound b j).run P w3=.ok v w'/\∃ u φ',Ending.returned v=.returned u/\bY φ H w φ' H' w'/\aN (CC P) S base φ' H' w'/\aA (aQ S base φ' H' w') φ' w' r u:=by
            intro st lst pe j bv e1 e2 bC e3;simp at e3;obtain ⟨rfl,rfl⟩:=e3;obtain ⟨XC,hH4⟩:=vL.heap.write (o:=.loop { r3 with state:=st,pending:=pe }) (w':=laid w3 b (.loop { l3 with state:=lst,pending:=j })) qy (by rw [Uh];rfl) rfl rfl rfl (by simp [laid]) (fun c hc=>CO hc)
             ⟨{ l3 with state:=lst,pending:=j },zjw (Ql q1),e1,e2,q4,q5,q6,fun t=>(q7 t).touch fun _ c hc uU=>⟨hc,CO fun e=>by subst e;obtain ⟨c',t',fz,h1⟩:=uU;rw [q1] at h1;simp at h1⟩,q8⟩
            exact ⟨_,_,bC,_,φ3,rfl,Af.trans (qw.trans (ET.trans XC)),hH4,.pure _ _ (.bool _)⟩
           have Ah:∀ j:Option Code,(Instr.endRound b j).run P w3=.ok (.bool j.isNone) (laid w3 b (.loop { l3 with state:=if j.isNone then .ready else .done,pending:=j })):=fun j=>by
            simp only [Instr.endRound,Sem.run_bind,Xu q1,Result.andThen_ok,Xv q1,Sem.run_pure]
           cases x with
           | normal =>
            simp at h;exact fin .ready .ready .normal none true rfl rfl (Ah none) (by simp [h])
           | exit i =>
            simp at h;exact fin .done .done (.exit i) (some (.exit i)) false rfl rfl (Ah _) (by simp [h])
           | ret =>
            simp at h;exact fin .done .done .ret (some .ret) false rfl rfl (Ah _) (by simp [h])
         .simp at h
        .simp at h
       .simp at h
      .simp at h
     .simp at h
    .simp at h
   .simp at h
theorem zlI {G:Prog} (hG:XB P G) {n f:Nat} {ps:List PV} {r:PV} (h:zF G n f ps=some r):TR P f ps r:=by
 unfold zF at h
 split at h
 .rename_i g hg;exact hG.ext _ _ _ _ hg h
 .split at h
  .rename_i v H1 hc;rw [Option.map_eq_some_iff] at h;obtain ⟨⟨p,ids⟩,hf,rfl⟩:=h;exact zg3 (zmI hG n (.fn f) _ _ _ _ hc) hf
  .simp at h
end
def zn (G:Prog) (n:Nat):Callee where
 pure:=zF G n
 shared:=G.shared
 run:=fun f xs H=>call G n (.fn f) xs H
 yield:=fun id xs H=>call G n (.yield id) xs H
theorem XD (G:Prog) (n f:Nat) (args:List AV) (H:Heap):Vm.call G (n+1) (.fn f) args H=match G.jy f args H with
   | some r=>some r
   | none=>match G.func f with
    | none=>none
    | some fn =>
     if args.length=fn.uh then
      match exec (zn G n) fn.body (za args) H with
      | some (.normal,env,H')|some (.ret,env,H')=>match Vm.results env H' fn.results with
       | some v=>some (v,H')
       | none=>none
      | _=>none
     else none:=rfl
inductive Tag {α:Type} (a:α):Type
 | mk
section
variable {cl:Callee} {env:Env} {H:Heap}
def wpE (pre:Nat) (r:Option Eff) (H:Heap) (k:AV->Heap->Prop) (_:Tag (H,k)):Prop:=∃ e,r=some e/\¬ (pre≠0/\qm e=true)/\k (apply H e).1 (apply H e).2
theorem Qq {pre:Nat} {v:AV} {k:AV->Heap->Prop} {u}:wpE pre (some (.val v)) H k u↔k v H:=by
 constructor
 .rintro ⟨e,he,_,h⟩;simp at he;subst he;exact h
 .intro h;exact ⟨_,rfl,by simp [qm],h⟩
theorem Og {pre:Nat} {o:aR} {f:Nat->AV} {k:AV->Heap->Prop} {u}:wpE pre (some (.new o f)) H k u↔k (f H.nx) (H.alloc o):=by
 constructor
 .rintro ⟨e,he,_,h⟩;simp at he;subst he;exact h
 .intro h;exact ⟨_,rfl,by simp [qm],h⟩
theorem Hz {v:AV} {H':Heap} {k:AV->Heap->Prop} {u}:wpE 0 (some (.upd v H')) H k u↔k v H':=by
 constructor
 .rintro ⟨e,he,_,h⟩;simp at he;subst he;exact h
 .intro h;exact ⟨_,rfl,by simp,h⟩
def nR (c:Bool) (A B:Prop) (_:Tag (A,B)):Prop:=if c=true then A else B
def LH (b:Bool) (v:AV) (A B:Prop) (_:Tag (A,B)):Prop :=
 match v with
 | .pure (.bool c)=>if c=b then A else B
 | .aM []=>B
 | _=>False
def EW (cl:Callee) (pre:Nat) (ops:List ae) (env:Env) (H:Heap) (K:Env->Heap->Prop) (_:Tag (ops,env,H,K)):Prop:=∃ r,zY cl pre ops env H=some r/\K r.1 r.2
theorem zoa {pre:Nat} {K:Env->Heap->Prop} {u}:EW cl pre [] env H K u↔K env H:=by
 constructor
 .rintro ⟨r,hr,h⟩;simp [zY] at hr;subst hr;exact h
 .intro h;exact ⟨(env,H),rfl,h⟩
theorem zmk {pre:Nat} {d:Option Nat} {op:jZ} {os:List ae} {K:Env->Heap->Prop} {u} :
  EW cl pre (⟨d,op,none⟩::os) env H K u↔wpE pre (step cl env H op) H (fun v H'=>EW cl (pre - 1) os (mY env d v) H' K .mk) .mk:=by
 constructor
 .rintro ⟨r,hr,h⟩;simp only [zY,wanted] at hr
  split at hr
  .simp at hr
  .rename_i e he
   split at hr
   .simp at hr
   .rename_i hc;exact ⟨e,he,hc,r,hr,h⟩
 .rintro ⟨e,he,hc,r,hr,h⟩
  refine ⟨r,?_,h⟩
  simp only [zY,wanted,he];rw [if_neg hc];exact hr
theorem zoJ {pre:Nat} {d:Option Nat} {op:jZ} {g:Nat} {b:Bool} {os:List ae} {K:Env->Heap->Prop} {u} :
  EW cl pre (⟨d,op,some (some g,b)⟩::os) env H K u↔LH b (env g) (wpE pre (step cl env H op) H (fun v H'=>EW cl (pre - 1) os (mY env d v) H' K .mk) .mk) (EW cl (pre - 1) os (mY env d (.aM [])) H K .mk) .mk:=by
 have main:∀ c,wanted env (some (some g,b))=some c->(EW cl pre (⟨d,op,some (some g,b)⟩::os) env H K u ↔
   if c=true then (wpE pre (step cl env H op) H (fun v H'=>EW cl (pre - 1) os (mY env d v) H' K .mk) .mk) else (EW cl (pre - 1) os (mY env d (.aM [])) H K .mk)):=by
  intro c hc
  cases c with
  | false =>
   simp only [Bool.false_eq_true,if_false]
   constructor
   .rintro ⟨r,hr,h⟩;simp only [zY,hc] at hr;exact ⟨r,hr,h⟩
   .rintro ⟨r,hr,h⟩;exact ⟨r,by simp only [zY,hc];exact hr,h⟩
  | true =>
   simp only [if_true]
   constructor
   .rintro ⟨r,hr,h⟩;simp only [zY,hc] at hr
    split at hr
    .simp at hr
    .rename_i e he
     split at hr
     .simp at hr
     .rename_i rG;exact ⟨e,he,rG,r,hr,h⟩
   .rintro ⟨e,he,rG,r,hr,h⟩
    refine ⟨r,?_,h⟩
    simp only [zY,hc,he];rw [if_neg rG];exact hr
 have bad:wanted env (some (some g,b))=none->(EW cl pre (⟨d,op,some (some g,b)⟩::os) env H K u↔False):=by
  intro hc
  constructor
  .rintro ⟨r,hr,h⟩;simp [zY,hc] at hr
  .exact False.elim
 unfold LH
 split
 .rename_i c hv;rw [main (c == b) (by simp only [wanted,hv])]
  cases c<;>cases b<;>simp
 .rename_i hv;rw [main false (by simp only [wanted,hv])];simp
 .rename_i h1 h2
  refine bad ?_
  simp only [wanted]
theorem zjq {α:Type} (f:Nat->α) (i j:Nat) (v:α):upd f i v j=if j=i then v else f j:=rfl
theorem zif {α:Type} (f:Nat->α) (i:Nat) (v:α):mY f (some i) v=upd f i v:=rfl
theorem znP {α:Type} (f:Nat->α) (v:α):mY f none v=f:=rfl
theorem zlO (t:Nat):aa.eval env (.tmp t)=env t:=rfl
theorem zir (p:PV):aa.eval env (.const p)=.pure p:=rfl
def CP (ops:List ae):List Nat:=ops.filterMap (·.dst)
theorem zlh {env:Env} {d:Option Nat} {v:AV} {t:Nat} (h:d≠some t):mY env d v t=env t:=by
 cases d with
 | none=>rfl
 | some i =>
  have:t≠i:=fun e=>h (by rw [e]);simp [mY,upd,this]
theorem XE:∀ {pre:Nat} {ops:List ae} {env:Env} {H:Heap} {r:Env×Heap},zY cl pre ops env H=some r->∀ t,(CP ops).contains t=false->r.1 t=env t
 | pre,[],env,H,r,h,t,_=>by simp [zY] at h;subst h;rfl
 | pre,o::os,env,H,r,h,t,ht=>by
  have h1:o.dst≠some t:=fun e=>by simp [CP,List.filterMap_cons,e] at ht
  have h2:(CP os).contains t=false:=by
   cases hd:o.dst with
   | none=>simpa [CP,List.filterMap_cons,hd] using ht
   | some i =>
    simp only [CP,List.filterMap_cons,hd,List.contains_cons,Bool.or_eq_false_iff] at ht;exact ht.2
  unfold zY at h
  split at h
  .simp at h
  .exact (XE h t h2).trans (zlh h1)
  .split at h
   .simp at h
   .split at h
    .simp at h
    .exact (XE h t h2).trans (zlh h1)
def wp (cl:Callee) (c:aP) (env:Env) (H:Heap) (Q:bW->Env->Heap->Prop) (_:Tag (c,env,H,Q)):Prop:=∃ x env' H',exec cl c env H=some (x,env',H')/\Q x env' H'
variable {Q:bW->Env->Heap->Prop}
theorem wp.mono {c:aP} {Q':bW->Env->Heap->Prop} {u u'} (h:wp cl c env H Q u) (hq:∀ x e h,Q x e h->Q' x e h):wp cl c env H Q' u':=by
 obtain ⟨x,e,h',h1,h2⟩:=h;exact ⟨x,e,h',h1,hq _ _ _ h2⟩
theorem zrL {u}:wp cl .skip env H Q u↔Q .normal env H:=by
 constructor
 .rintro ⟨x,e,h,h1,h2⟩;simp [exec] at h1;obtain ⟨rfl,rfl,rfl⟩:=h1;exact h2
 .intro h;exact ⟨_,_,_,rfl,h⟩
theorem zrE {i:Nat} {u}:wp cl (.exit i) env H Q u↔Q (.exit i) env H:=by
 constructor
 .rintro ⟨x,e,h,h1,h2⟩;simp [exec] at h1;obtain ⟨rfl,rfl,rfl⟩:=h1;exact h2
 .intro h;exact ⟨_,_,_,rfl,h⟩
theorem ztt {u}:wp cl .ret env H Q u↔Q .ret env H:=by
 constructor
 .rintro ⟨x,e,h,h1,h2⟩;simp [exec] at h1;obtain ⟨rfl,rfl,rfl⟩:=h1;exact h2
 .intro h;exact ⟨_,_,_,rfl,h⟩
theorem zjl {pre:Option Nat} {ops:List ae} {u}:wp cl (.region pre ops) env H Q u↔EW cl (pre.getD 0) ops env H (Q .normal) .mk:=by
 constructor
 .rintro ⟨x,e,h,h1,h2⟩;simp only [exec] at h1
  split at h1
  .rename_i e' h' hr;simp at h1;obtain ⟨rfl,rfl,rfl⟩:=h1;exact ⟨_,hr,h2⟩
  .simp at h1
 .rintro ⟨⟨e,h⟩,hr,h2⟩;exact ⟨_,_,_,by simp only [exec,hr],h2⟩
def HV (cl:Callee) (b:aP) (Q:bW->Env->Heap->Prop) (x:bW) (e:Env) (h:Heap):Prop:=match x with
 | .normal=>wp cl b e h Q .mk
 | x=>Q x e h
theorem zg1 {b:aP} {e:Env} {h:Heap}:HV cl b Q .normal e h↔wp cl b e h Q .mk:=Iff.rfl
theorem zqk {b:aP} {e:Env} {h:Heap}:HV cl b Q .ret e h↔Q .ret e h:=Iff.rfl
theorem zoC {b:aP} {i:Nat} {e:Env} {h:Heap}:HV cl b Q (.exit i) e h↔Q (.exit i) e h:=Iff.rfl
theorem zqy {a b:aP} {u}:wp cl (.seq a b) env H Q u↔wp cl a env H (HV cl b Q) .mk:=by
 constructor
 .rintro ⟨x,e,h,h1,h2⟩;simp only [exec] at h1
  split at h1
  .rename_i e' h' hr;exact ⟨_,_,_,hr,x,e,h,h1,h2⟩
  .rename_i hn
   refine ⟨x,e,h,h1,?_⟩
   cases x with
   | normal=>exact absurd h1 (by intro hh;exact hn _ _ hh)
   | exit i=>exact h2
   | ret=>exact h2
 .rintro ⟨x,e,h,h1,h2⟩
  cases x with
  | normal =>
   obtain ⟨x',e',h',h3,h4⟩:=h2;exact ⟨x',e',h',by simp only [exec,h1];exact h3,h4⟩
  | exit i=>exact ⟨_,_,_,by simp only [exec,h1],h2⟩
  | ret=>exact ⟨_,_,_,by simp only [exec,h1],h2⟩
def wpC (v:AV) (A B:Prop) (_:Tag (A,B)):Prop:=match v with
 | .pure (.bool c)=>nR c A B .mk
 | _=>False
theorem zok {c:aa} {a b:aP} {u}:wp cl (.cond c a b) env H Q u↔wpC (c.eval env) (wp cl a env H Q .mk) (wp cl b env H Q .mk) .mk:=by
 unfold wpC
 constructor
 .rintro ⟨x,e,h,h1,h2⟩;simp only [exec] at h1
  split at h1
  .rename_i t ht;rw [ht]
   cases t with
   | true=>exact ⟨x,e,h,by simpa using h1,h2⟩
   | false=>exact ⟨x,e,h,by simpa using h1,h2⟩
  .simp at h1
 .intro hw
  split at hw
  .rename_i t ht
   cases t with
   | true =>
    obtain ⟨x,e,h,h1,h2⟩:=hw;exact ⟨x,e,h,by simp only [exec,ht];exact h1,h2⟩
   | false =>
    obtain ⟨x,e,h,h1,h2⟩:=hw;exact ⟨x,e,h,by simp only [exec,ht];exact h1,h2⟩
  .exact hw.elim
def HY (id:Nat) (Q:bW->Env->Heap->Prop) (x:bW) (e:Env) (h:Heap):Prop:=match x with
 | .exit i=>if i=id then Q .normal e h else Q (.exit i) e h
 | x=>Q x e h
theorem ziS {id:Nat} {e:Env} {h:Heap}:HY id Q .normal e h↔Q .normal e h:=Iff.rfl
theorem znp {id:Nat} {e:Env} {h:Heap}:HY id Q .ret e h↔Q .ret e h:=Iff.rfl
theorem zkX {id:Nat} {e:Env} {h:Heap}:HY id Q (.exit id) e h↔Q .normal e h:=by simp [HY]
theorem zj0 {id i:Nat} {e:Env} {h:Heap} (hi:i≠id):HY id Q (.exit i) e h↔Q (.exit i) e h:=by simp [HY,hi]
def Qr (P:Env->Heap->Prop) (Q:bW->Env->Heap->Prop) (x:bW) (e:Env) (h:Heap):Prop:=match x with
 | .normal=>P e h
 | x=>Q x e h
theorem zkg {P:Env->Heap->Prop} {e:Env} {h:Heap}:Qr P Q .normal e h↔P e h:=Iff.rfl
theorem zpI {P:Env->Heap->Prop} {e:Env} {h:Heap}:Qr P Q .ret e h↔Q .ret e h:=Iff.rfl
theorem zmY {P:Env->Heap->Prop} {i:Nat} {e:Env} {h:Heap}:Qr P Q (.exit i) e h↔Q (.exit i) e h:=Iff.rfl
theorem zpR {id:Nat} {c:aP} {u}:wp cl (.block id c) env H Q u↔wp cl c env H (HY id Q) .mk:=by
 constructor
 .rintro ⟨x,e,h,h1,h2⟩;simp only [exec] at h1
  split at h1
  .rename_i i e' h' hr
   refine ⟨_,_,_,hr,?_⟩
   show if i=id then _ else _
   split at h1
   .rename_i hi;simp at h1;obtain ⟨rfl,rfl,rfl⟩:=h1;rw [if_pos hi];exact h2
   .rename_i hi;simp at h1;obtain ⟨rfl,rfl,rfl⟩:=h1;rw [if_neg hi];exact h2
  .rename_i hn
   refine ⟨x,e,h,h1,?_⟩
   cases x with
   | normal=>exact h2
   | ret=>exact h2
   | exit i=>exact absurd h1 (by intro hh;exact hn _ _ _ hh)
 .rintro ⟨x,e,h,h1,h2⟩
  cases x with
  | normal=>exact ⟨_,_,_,by simp only [exec,h1],h2⟩
  | ret=>exact ⟨_,_,_,by simp only [exec,h1],h2⟩
  | exit i =>
   by_cases hi:i=id
   .subst hi;simp only [HY,if_true] at h2;exact ⟨_,_,_,by simp only [exec,h1,if_true],h2⟩
   .simp only [HY,if_neg hi] at h2;exact ⟨_,_,_,by simp only [exec,h1,if_neg hi],h2⟩
theorem zr5 {c:aP} {σ:Type} (I:σ->Env->Heap->Prop) (m:σ->Nat) (s:σ) (h0:I s env H) (hm:m s < zI)
  (hb:∀ s env H,I s env H->wp cl c env H (Qr (fun e h=>∃ s',m s' < m s/\I s' e h) Q) .mk) {u}:wp cl (.loop c) env H Q u:=by
 have main:∀ k s env H,m s < k->I s env H->∃ x env' H',iter (exec cl c) k env H=some (x,env',H')/\Q x env' H':=by
  intro k
  induction k with
  | zero=>intro s env H hk;omega
  | succ k ih =>
   intro s env H hk hI;obtain ⟨x,e,h,h1,h2⟩:=hb s env H hI
   cases x with
   | normal =>
    obtain ⟨s',nQ,XF⟩:=h2;obtain ⟨x',e',h',h3,h4⟩:=ih s' e h (by omega) XF;exact ⟨x',e',h',by simp only [iter,h1];exact h3,h4⟩
   | exit i=>exact ⟨_,_,_,by simp only [iter,h1],h2⟩
   | ret=>exact ⟨_,_,_,by simp only [iter,h1],h2⟩
 obtain ⟨x,e,h,h1,h2⟩:=main zI s env H hm h0;exact ⟨x,e,h,by simp only [exec];exact h1,h2⟩
def Qs (rs:List j6) (r:PV) (x:bW) (env:Env) (H:Heap):Prop :=
 (∀ i,x≠.exit i)/\∃ v,results env H rs=some v/\∃ ids,freeze H false nZ v=some (r,ids)
theorem zrO {rs:List j6} {r:PV}:Qs rs r .ret env H↔∃ v,results env H rs=some v/\∃ ids,freeze H false nZ v=some (r,ids):=by
 simp [Qs]
theorem zmp {rs:List j6} {r:PV}:Qs rs r .normal env H↔∃ v,results env H rs=some v/\∃ ids,freeze H false nZ v=some (r,ids):=by
 simp [Qs]
theorem zx {G:Prog} {n f:Nat} {fn:ai} {args:List PV} {r:PV} (hx:G.ext f=none) (hr:G.jy f (args.map .pure) Heap.empty=none) (hf:G.func f=some fn) (hl:args.length=fn.uh)
  (h:wp (zn G n) fn.body (za (args.map .pure)) Heap.empty (Qs fn.results r) .mk):zF G (n+1) f args=some r:=by
 obtain ⟨x,e,h',h1,h2,v,h3,ids,h4⟩:=h;unfold zF;rw [hx];simp only;rw [XD,hr,hf];simp only [List.length_map,hl,if_true,h1]
 cases x with
 | exit i=>exact absurd rfl (h2 i)
 | normal=>simp only [h3,h4,Option.map_some]
 | ret=>simp only [h3,h4,Option.map_some]
end
@[simp] theorem zo0 {A B:Prop} {u}:nR true A B u↔A:=Iff.rfl
@[simp] theorem zhD {A B:Prop} {u}:nR false A B u↔B:=by simp [nR]
theorem znr {c:Bool} {A B:Prop} {u} (h1:c=true->A) (h2:c=false->B):nR c A B u:=by
 cases c with
 | true=>exact h1 rfl
 | false=>rw [zhD];exact h2 rfl
@[simp] theorem zut {c:Bool} {A B:Prop} {u}:nR (!c) A B u↔nR c B A .mk:=by cases c<;>simp
@[simp] theorem zuG {a b:Bool} {A B:Prop} {u}:nR (a&&b) A B u↔nR a (nR b A B .mk) B .mk:=by cases a<;>simp
theorem zb {c:Bool} {A B:Prop} {u} (h1:c=true->c=true->A) (h2:c=false->c=false->B):nR c A B u :=
 znr (fun h=>h1 h h) fun h=>h2 h h
@[simp] theorem zvu {b:Bool} {A B:Prop} {u}:LH b (.aM []) A B u↔B:=Iff.rfl
@[simp] theorem zva {c:Bool} {A B:Prop} {u}:LH true (.pure (.bool c)) A B u↔nR c A B .mk:=by cases c<;>simp [LH]
@[simp] theorem zt5 {c:Bool} {A B:Prop} {u}:LH false (.pure (.bool c)) A B u↔nR c B A .mk:=by cases c<;>simp [LH]
@[simp] theorem zvy {c:Bool} {A B:Prop} {u}:wpC (.pure (.bool c)) A B u↔nR c A B .mk:=Iff.rfl
attribute [simp] zg1 zqk zoC ziS znp zkX zj0 zkg zpI zmY
attribute [simp] Qq Og Hz zoa zmk zoJ zjq zif znP zlO zir zrL zrE ztt zjl zqy zok zpR zrO zmp
section
variable {cl:Callee} {env:Env} {H:Heap}
@[simp] theorem zuU (d:uf) (k:IntKind) (a b:Int):fK .lss d (.pure (.int k a)) (.pure (.int k b))=some (.pure (.bool (decide (a < b)))):=by simp [fK,yw,Jk]
@[simp] theorem zu8 (d:uf) (k:IntKind) (a b:Int):fK .leq d (.pure (.int k a)) (.pure (.int k b))=some (.pure (.bool (decide (a<=b)))):=by simp [fK,yw,Jk]
@[simp] theorem zuj (d:uf) (k:IntKind) (a b:Int):fK .gtr d (.pure (.int k a)) (.pure (.int k b))=some (.pure (.bool (decide (b < a)))):=by simp [fK,yw,Jk]
@[simp] theorem zuR (d:uf) (k:IntKind) (a b:Int):fK .geq d (.pure (.int k a)) (.pure (.int k b))=some (.pure (.bool (decide (b<=a)))):=by simp [fK,yw,Jk]
@[simp] theorem zu6 (d:uf) (k:IntKind) (a b:Int):fK .eql d (.pure (.int k a)) (.pure (.int k b))=some (.pure (.bool (decide (a=b)))):=by
 simp [fK,yw,Jk]
 by_cases h:a=b<;>simp [h]
@[simp] theorem zuP (d:uf) (k:IntKind) (a b:Int):fK .neq d (.pure (.int k a)) (.pure (.int k b))=some (.pure (.bool (!decide (a=b)))):=by
 simp [fK,yw,Jk]
 by_cases h:a=b<;>simp [h]
@[simp] theorem zuv (d:uf) (k:IntKind) (a b:Int):fK .add d (.pure (.int k a)) (.pure (.int k b))=some (.pure (.int k (k.wrap (a+b)))):=by simp [fK,yw]
@[simp] theorem zuq (d:uf) (k:IntKind) (a b:Int):fK .sub d (.pure (.int k a)) (.pure (.int k b))=some (.pure (.int k (k.wrap (a - b)))):=by simp [fK,yw]
@[simp] theorem zu0 (d:uf) (k:IntKind) (a b:Int):fK .mul d (.pure (.int k a)) (.pure (.int k b))=some (.pure (.int k (k.wrap (a*b)))):=by simp [fK,yw]
@[simp] theorem zvm (b:Bool):KS .not (.pure (.bool b))=some (.pure (.bool (!b))):=rfl
@[simp] theorem zvg (k:IntKind) (n:Int):KS .neg (.pure (.int k n))=some (.pure (.int k (k.wrap (0 - n)))):=rfl
theorem wrap64 {n:Int} (h:-9223372036854775808<=n) (h':n < 9223372036854775808):IntKind.i64.wrap n=n:=VX h h'
@[simp] theorem ztb (x:aa):step cl env H (.iw x)=some (.val (x.eval env)):=rfl
@[simp] theorem zs6 (op:BinOp) (d:uf) (x y:aa):step cl env H (.bin op d x y)=(fK op d (x.eval env) (y.eval env)).map .val:=rfl
@[simp] theorem zvG (op:UnOp) (x:aa):step cl env H (.un op x)=(KS op (x.eval env)).map .val:=rfl
def XG (c a b:AV):Option Eff:=match c with
 | .pure (.bool t)=>some (.val (if t then a else b))
 | _=>none
@[simp] theorem zvl (c a b:aa):step cl env H (.pick c a b)=XG (c.eval env) (a.eval env) (b.eval env):=by
 simp only [step,XG];rfl
@[simp] theorem ztj (t:Bool) (a b:AV):XG (.pure (.bool t)) a b=some (.val (if t=true then a else b)):=rfl
def Gm (v:AV):Option Eff:=match v with
 | .pure .nils=>some (.val (.pure (.int .i64 0)))
 | .pure (.slice _ _ es)=>some (.val (.pure (.int .i64 es.length)))
 | .row _ _ _ n=>some (.val (.pure (.int .i64 n)))
 | _=>none
@[simp] theorem zuu (x:aa):step cl env H (.ug x)=Gm (x.eval env):=rfl
@[simp] theorem ztz:Gm (.pure .nils)=some (.val (.pure (.int .i64 0))):=rfl
@[simp] theorem zsP (h:Bool) (sz:Nat) (es:List (List PV)):Gm (.pure (.slice h sz es))=some (.val (.pure (.int .i64 es.length))):=rfl
@[simp] theorem zsX (i sz o n:Nat):Gm (.row i sz o n)=some (.val (.pure (.int .i64 n))):=rfl
def zpN (k:IntKind) (v:AV):Option Eff:=match v with
 | .pure (.int _ n)=>some (.val (.pure (.int k (k.wrap n))))
 | _=>none
@[simp] theorem zux (k:IntKind) (x:aa):step cl env H (.toInt k x)=zpN k (x.eval env):=rfl
@[simp] theorem ztc (k k':IntKind) (n:Int):zpN k (.pure (.int k' n))=some (.val (.pure (.int k (k.wrap n)))):=rfl
@[simp] theorem zvr (f:aa) (args:List aa):step cl env H (.call f args)=zD cl H (f.eval env) (args.map (·.eval env)):=rfl
@[simp] theorem zvi (g:Bool) (size:Nat) (x:aa):step cl env H (.load g size x)=(zS H size (x.eval env)).bind fun cs=>(pF g cs).map .val:=by
 simp only [step]
 cases zS H size (x.eval env)<;>rfl
def CQ (sz:Nat) (v i:AV):Option Eff:=match i with
 | .pure (.int _ n)=>if 0<=n then match v with
    | .pure (.slice k s es)=>if s=sz then match es[n.toNat]? with
     | some e=>some (.val (.pure (.ptr k e 0)))
     | none=>none else none
    | .row id s off len=>if s=sz/\n < len then some (.val (.box id (off*sz+n.toNat*sz))) else none
    | _=>none
   else none
 | _=>none
@[simp] theorem zrW (sz:Nat) (x i:aa):step cl env H (.indexAddr sz none x i)=CQ sz (x.eval env) (i.eval env):=by
 simp only [step,CQ];rfl
@[simp] theorem zt4 {k:IntKind} {n:Nat} {id sz off len:Nat} (h:n < len):CQ sz (.row id sz off len) (.pure (.int k n))=some (.val (.box id (off*sz+n*sz))):=by
 simp only [CQ];rw [if_pos (by omega)];have:(n:Int) < len:=by omega
 simp [this]
theorem zh8 {k:IntKind} {n:Nat} {sF:Bool} {sz:Nat} {es:List (List PV)} {e:List PV} (h:es[n]?=some e):CQ sz (.pure (.slice sF sz es)) (.pure (.int k n))=some (.val (.pure (.ptr sF e 0))):=by
 simp only [CQ];rw [if_pos (by omega)];simp [h]
def rowB (l:List UInt8):List AV:=l.map fun b=>.pure (.int .u8 b.toNat)
@[simp] theorem zsD (l:List UInt8):(rowB l).length=l.length:=by simp [rowB]
def rQ (o:aR) (size off:Nat) (vs:List AV):Option aR:=match o with
 | .cells true cs=>if vs.length=size/\size≠0/\vs.all AV.one=true/\off+size<=cs.length then some (.cells true (cs.take off++vs++cs.drop (off+size))) else none
 | _=>none
def XH (H:Heap) (size:Nat) (a:AV) (vs:List AV):Option Eff:=match a with
 | .box id off=>(rQ (H.get id) size off vs).map fun o=>.upd (.aM []) (H.set id o)
 | _=>none
@[simp] theorem zuo (size:Nat) (a x:aa):step cl env H (.store size a x)=XH H size (a.eval env) (x.eval env).cells:=by
 simp only [step,XH]
 cases a.eval env<;>try rfl
 rename_i id off;simp only [rQ]
 cases H.get id<;>try rfl
 rename_i own cs
 cases own with
 | false=>rfl
 | true =>
  simp only
  split<;>rfl
@[simp] theorem zs4 (size id off:Nat) (vs:List AV):XH H size (.box id off) vs=(rQ (H.get id) size off vs).map fun o=>.upd (.aM []) (H.set id o):=rfl
def Ui (o:aR) (size off:Nat) (vs:List AV):Option aR:=match o with
 | .raw z=>rQ (.cells true (z.map .pure)) size off vs
 | _=>none
def XI (H:Heap) (size:Nat) (a:AV) (vs:List AV):Option Eff:=match a with
 | .box id off=>(Ui (H.get id) size off vs).map fun o=>.upd (.aM []) (H.set id o)
 | _=>none
@[simp] theorem zts (z:List PV) (size off:Nat) (vs:List AV):Ui (.raw z) size off vs=rQ (.cells true (z.map .pure)) size off vs:=rfl
@[simp] theorem zsR (size id off:Nat) (vs:List AV):XI H size (.box id off) vs=(Ui (H.get id) size off vs).map fun o=>.upd (.aM []) (H.set id o):=rfl
@[simp] theorem ztL (size:Nat) (a x:aa):step cl env H (.bq size a x)=XI H size (a.eval env) (x.eval env).cells:=by
 simp only [step,XI]
 cases a.eval env<;>try rfl
 rename_i id off;simp only [Ui]
 cases H.get id<;>try rfl
 simp only [rQ]
 split<;>rfl
@[simp] theorem ztR (z:List PV):step cl env H (.pq z)=some (.new (.raw z) fun id=>.box id 0):=rfl
def Uj (o:aR) (off n:Nat):Option Eff:=match o with
 | .cells _ cs=>if off+n<=cs.length then match ((cs.drop off).take n).mapM F3 with
   | some bs=>some (.val (.pure (.str ⟨bs.toArray⟩)))
   | none=>none else none
 | _=>none
def Qt (H:Heap) (v:AV):Option Eff:=match zH H 1 v with
  | some (cs,_)=>match cs.mapM F3 with
   | some bs=>some (.val (.pure (.str ⟨bs.toArray⟩)))
   | none=>none
  | none=>none
@[simp] theorem zuT (x:aa):step cl env H (.toStr x)=Qt H (x.eval env):=rfl
@[simp] theorem zmO (id off n:Nat):Qt H (.row id 1 off n)=Uj (H.get id) off n:=by
 simp only [Qt,zH,Uj,if_true]
 cases H.get id<;>try rfl
 simp only [Nat.mul_one]
 split
 .rename_i h;split at h
  .rename_i hc;rw [if_pos hc];simp at h;obtain ⟨rfl,_⟩:=h;rfl
  .simp at h
 .rename_i h;split at h
  .simp at h
  .rename_i hc;rw [if_neg hc]
theorem zjz:∀ (l:List UInt8),(rowB l).mapM F3=some l
 | []=>rfl
 | c::l=>by
  have:=zjz l;simp only [rowB] at this;simp [rowB,F3,this]
@[simp] theorem zkA {own:Bool} {l:List UInt8} {n:Nat} (h:l.length=n):Uj (.cells own (rowB l)) 0 n=some (.val (.pure (.str ⟨l.toArray⟩))):=by
 subst h;simp only [Uj];rw [if_pos (by simp)];have:((rowB l).drop 0).take l.length=rowB l:=by rw [List.drop_zero];exact List.take_of_length_le (by simp)
 rw [this,zjz]
@[simp] theorem ztF:Qt H (.pure .nils)=some (.val (.pure (.str ⟨#[]⟩))):=rfl
@[simp] theorem ztw (i:Nat) (x:aa):step cl env H (.extract i x)=match x.eval env with
  | .pure (.aM vs)=>match vs[i]? with
   | some v=>some (.val (.pure v))
   | none=>none
  | .aM vs=>match vs[i]? with
   | some v=>some (.val v)
   | none=>none
  | _=>none:=rfl
@[simp] theorem zvp (i:Nat) (x:aa):step cl env H (.idle i x)=match x.eval env with
  | .pure (.aM vs)=>match vs[i]? with
   | some _=>some (.val .undef)
   | none=>none
  | .aM vs=>match vs[i]? with
   | some _=>some (.val .undef)
   | none=>none
  | _=>none:=rfl
@[simp] theorem zvv (x:aa):step cl env H (.vS x)=some (.val (x.eval env)):=rfl
@[simp] theorem zrV (sz:Nat):step cl env H (.j5 sz)=some (.new (.cells true []) fun id=>.void id sz):=rfl
@[simp] theorem zvk (x:aa):step cl env H (.CB x)=match nY (x.eval env).cells with
  | some ps=>some (.val (.pure (.ptr false ps 0)))
  | none=>none:=rfl
@[simp] theorem zrI (off:Nat) (x:aa):step cl env H (.fieldAddr off x)=match x.eval env with
  | .pure (.ptr k cs o)=>some (.val (.pure (.ptr k cs (o+off))))
  | .box id o=>some (.val (.box id (o+off)))
  | _=>none:=rfl
@[simp] theorem zum (g:Bool) (size:Nat) (x:aa):step cl env H (.rD g size x)=match x.eval env with
  | .pure (.ptr _ cs off)=>if off+size<=cs.length then (pF g (((cs.drop off).take size).map .pure)).map .val else none
  | _=>none:=rfl
@[simp] theorem zt7 (size:Nat) (a x:aa) (ls:List aa):step cl env H (.bP size a x ls)=match a.eval env with
  | .box id _=>if ls.all (fun l=>beside id (l.eval env))=true then step cl env H (.store size a x) else none
  | _=>none:=by
 simp only [step];generalize a.eval env=v
 cases v<;>rfl
@[simp] theorem zt3 (off:Nat) (x:aa):step cl env H (.jv off x)=match x.eval env with
  | .pure (.ptr k cs o)=>some (.val (.pure (.ptr k cs (o+off))))
  | .box id o=>some (.val (.box id (o+off)))
  | _=>none:=rfl
@[simp] theorem zuB (g:Bool) (size:Nat) (x:aa):step cl env H (.fV g size x)=(zS H size (x.eval env)).bind fun cs=>(pF g cs).map .val:=by
 simp only [step]
 cases zS H size (x.eval env)<;>rfl
@[simp] theorem zuF (z:List PV):step cl env H (.alloc z)=some (.new (.cells true (z.map .pure)) fun id=>.box id 0):=rfl
@[simp] theorem zvx (x:aa):step cl env H (.box x)=some (.new (.cells true (x.eval env).cells) fun id=>.box id 0):=rfl
@[simp] theorem zul (z:List PV) (ps:List (Nat×Nat×aa)):step cl env H (.build z ps)=(fill (z.map .pure) (sG env ps)).map fun cs=>.val (jw cs):=by
 simp only [step]
 cases fill (z.map .pure) (sG env ps)<;>rfl
@[simp] theorem zrx:sG env []=[]:=rfl
@[simp] theorem zq9 (o s:Nat) (x:aa) (ps:List (Nat×Nat×aa)):sG env ((o,s,x)::ps)=(o,s,x.eval env)::sG env ps:=rfl
@[simp] theorem zuA (cs:List AV):fill cs []=some cs:=rfl
@[simp] theorem ztI (cs:List AV) (off size:Nat) (v:AV) (rest:List (Nat×Nat×AV)):fill cs ((off,size,v)::rest)=if v.cells.length=size/\size≠0/\off+size<=cs.length then fill (cs.take off++v.cells++cs.drop (off+size)) rest else none:=by
 simp only [fill]
@[simp] theorem zrC (sz:Nat) (z:List PV) (ps:List (Nat×Nat×aa)):step cl env H (.buildSlice sz z ps)=(fill (z.map .pure) (sG env ps)).map fun cs=>.new (.cells true cs) fun id=>.row id sz 0 (if sz=0 then 0 else cs.length / sz):=by
 simp only [step]
 cases fill (z.map .pure) (sG env ps)<;>rfl
@[simp] theorem zuL (f:aa) (xs ls:List aa):step cl env H (.iR f xs ls)=match zD cl H (f.eval env) (xs.map (·.eval env)) with
  | some (.upd v H2)=>if ls.all (fun l=>keeps H H2 (l.eval env))=true then some (.upd v H2) else none
  | _=>none:=rfl
@[simp] theorem ztX (z:List PV) (ps:List (Nat×Nat×aa)):step cl env H (.nL z ps)=(fill (z.map .pure) (sG env ps)).map fun cs=>.val (jw cs):=by
 simp only [step]
 cases fill (z.map .pure) (sG env ps)<;>rfl
@[simp] theorem ztZ (sz:Nat) (z:List PV) (ps:List (Nat×Nat×aa)):step cl env H (.mI sz z ps)=(fill (z.map .pure) (sG env ps)).bind fun cs=>(nY cs).bind fun ps=>if ps.length=Ny sz cs.length*sz then some (.val (.pure (.slice false sz (chunks sz (Ny sz cs.length) ps)))) else none:=by
 simp only [step]
 cases fill (z.map .pure) (sG env ps) with
 | none=>rfl
 | some cs=>simp only [Option.bind_some];cases nY cs<;>rfl
@[simp] theorem zsQ (f:Nat) (first:List aa):step cl env H (.fJ f first)=(nY (first.map (·.eval env))).bind fun ps=>some (.val (.pure (.jH f ps))):=by
 simp only [step]
 cases nY (first.map (·.eval env))<;>rfl
@[simp] theorem zsp (g:Nat) (first:List PV) (args:List AV):zD cl H (.pure (.jH g first)) args=zD cl H (.pure (.func g [])) (first.map .pure++args):=by
 simp only [zD,List.map_nil,List.append_nil]
@[simp] theorem zsH (f:Nat) (caps:List aa):step cl env H (.makeFunc f caps)=some (.val (GV f (caps.map (·.eval env)))):=rfl
@[simp] theorem ztS (n:Nat):step cl env H (.uO n)=some (.val (.pure (.int .i64 n))):=rfl
@[simp] theorem zt1 (sz b:Nat) (x y:aa):step cl env H (.append sz b x y)=zk H sz b (x.eval env) (y.eval env):=rfl
def Qu (mx:Bool) (vs:List AV):Option Eff:=match vs with
 | .pure (.int k a)::rest=>(Eg mx k a rest).map fun n=>.val (.pure (.int k n))
 | _=>none
@[simp] theorem zt0 (mx:Bool) (xs:List aa):step cl env H (.bE mx xs)=Qu mx (xs.map fun x=>x.eval env):=rfl
@[simp] theorem zvf (k k':IntKind) (a b:Int):Qu true [.pure (.int k a),.pure (.int k' b)]=some (.val (.pure (.int k (max a b)))):=by
 simp only [Qu,Eg,Option.map_some]
 congr 4
 simp only [if_true]
 split<;>omega
@[simp] theorem zvt (k k':IntKind) (a b:Int):Qu false [.pure (.int k a),.pure (.int k' b)]=some (.val (.pure (.int k (min a b)))):=by
 simp only [Qu,Eg,Option.map_some]
 congr 4
 simp only [Bool.false_eq_true,if_false]
 split<;>omega
@[simp] theorem ztP (a b:Bool):fK .neq .bool (.pure (.bool a)) (.pure (.bool b))=some (.pure (.bool (!(a == b)))):=by
 simp [fK,GX,isNil]
@[simp] theorem ztv:nY []=some []:=rfl
@[simp] theorem zsF (p:PV) (vs:List AV):nY (.pure p::vs)=(nY vs).map (p :: ·):=rfl
theorem zmm:∀ (ps:List PV),nY (ps.map .pure)=some ps
 | []=>rfl
 | p::ps=>by simp [zmm ps]
@[simp] theorem ztY (ps:List PV):AV.cells (.pure (.agg ps))=ps.map .pure:=rfl
@[simp] theorem ztJ (k:IntKind) (n:Int):AV.cells (.pure (.int k n))=[.pure (.int k n)]:=rfl
@[simp] theorem ztp (b:Bool):AV.cells (.pure (.bool b))=[.pure (.bool b)]:=rfl
@[simp] theorem ztH (b:ByteArray):AV.cells (.pure (.str b))=[.pure (.str b)]:=rfl
@[simp] theorem zs5:AV.cells (.pure .nils)=[.pure .nils]:=rfl
@[simp] theorem zsA (h:Bool) (sz:Nat) (es:List (List PV)):AV.cells (.pure (.slice h sz es))=[.pure (.slice h sz es)]:=rfl
@[simp] theorem zt6 (i sz o n:Nat):AV.cells (.row i sz o n)=[.row i sz o n]:=rfl
@[simp] theorem zrB (size:Nat) (k:Bool) (cs:List PV) (off:Nat):zS H size (.pure (.ptr k cs off))=if off+size<=cs.length then some (((cs.drop off).take size).map .pure) else none:=rfl
def DW (o:aR) (size off:Nat):Option (List AV):=match o with
 | .cells _ cs=>if off+size<=cs.length then some ((cs.drop off).take size) else none
 | _=>none
@[simp] theorem zrz (size id off:Nat):zS H size (.box id off)=DW (H.get id) size off:=by
 simp only [zS,DW];rfl
@[simp] theorem zsq (cs:List AV):pF true cs=some (jw cs):=rfl
@[simp] theorem ztk {cs:List AV} {ps:List PV} (h:nY cs=some ps):jw cs=.pure (.agg ps):=by simp [jw,h]
@[simp] theorem zsG {f:Nat} {cs:List AV} {ps:List PV} (h:nY cs=some ps):GV f cs=.pure (.func f ps):=by simp [GV,h]
@[simp] theorem zsE (c:AV):pF false [c]=some c:=rfl
@[simp] theorem zsB (t:Nat):results env H [.tmp t]=some (env t):=rfl
@[simp] theorem zst (t u:Nat):results env H [.tmp t,.tmp u]=some (.aM [env t,env u]):=rfl
@[simp] theorem zsu (h:Bool) (n:Nat) (p:PV):freeze H h (n+1) (.pure p)=some (p,[]):=rfl
@[simp] theorem zrv (h:Bool) (p:PV):freeze H h nZ (.pure p)=some (p,[]):=rfl
@[simp] theorem zta (h:Bool) (n:Nat) (cs:List AV):freeze H h (n+1) (.aM cs)=(match zO (freeze H h n) cs with
   | some (ps,is)=>some (.aM ps,is)
   | none=>none):=rfl
@[simp] theorem zr1 (h:Bool) (cs:List AV):freeze H h nZ (.aM cs)=(match zO (freeze H h 11) cs with
   | some (ps,is)=>some (.aM ps,is)
   | none=>none):=rfl
theorem XJ (h:Bool) (n:Nat):∀ (ps:List PV),zO (freeze H h (n+1)) (ps.map .pure)=some (ps,[])
 | []=>rfl
 | p::ps=>by simp [zO,XJ h n ps]
@[simp] theorem zsV (fr:AV->Option (PV×List Nat)):zO fr []=some ([],[]):=rfl
@[simp] theorem zso (fr:AV->Option (PV×List Nat)) (v:AV) (vs:List AV):zO fr (v::vs)=(match fr v with
  | none=>none
  | some (p,is)=>match zO fr vs with
   | none=>none
   | some (ps,js)=>some (p::ps,is++js)):=by
 simp only [zO];rfl
@[simp] theorem pJ (o:aR):(H.alloc o).nx=H.nx+1:=by cases H;simp only [Heap.alloc]
@[simp] theorem mE (id:Nat) (o:aR):(H.set id o).nx=H.nx:=by cases H;simp only [Heap.set]
@[simp] theorem zo {id:Nat} {o:aR} (h:id < H.nx):(H.set id o).get id=o:=Jn h
theorem zu {id:Nat} {own:Bool} {cs:List AV} (h:H.get id=.cells own cs):id < H.nx:=O5 (by rw [h];simp)
@[simp] theorem Ai (o:aR):(H.alloc o).get H.nx=o:=KT
theorem ze {id:Nat} {o:aR} (h:id < H.nx):(H.alloc o).get id=H.get id:=Jm (by omega)
theorem zpm {G:Prog} {n f:Nat} {ps:List PV} {r:PV} (hs:G.shared f=false) (h:zF G n f ps=some r):zD (zn G n) H (.pure (.func f [])) (ps.map .pure)=some (.val (.pure r)):=by
 have h1:zO (freeze H true nZ) (ps.map .pure)=some (ps,[]):=XJ true 11 ps;have h2:(zn G n).shared f=false:=hs;have h3:(zn G n).pure f ps=some r:=h;simp only [zD,List.map_nil,List.append_nil,h2,Bool.false_eq_true,if_false,h1,h3,List.isEmpty_nil,Bool.true_or,if_true]
end
def zm {α:Type} (f:α->List PV) (l:List α):List AV:=(l.map fun a=>(f a).map AV.pure).flatten
def XK (c:UInt8):List PV:=[.int .u8 c.toNat]
theorem zsn (l:List UInt8):rowB l=zm XK l:=by
 induction l with
 | nil=>rfl
 | cons c l ih =>
  simp only [rowB] at ih;simp [rowB,zm,XK,ih]
theorem BM {α:Type} (f:α->List PV) (l m:List α):zm f (l++m)=zm f l++zm f m:=by simp [zm]
theorem Qv {α:Type} (f:α->List PV) (a:α):zm f [a]=(f a).map .pure:=by simp [zm]
theorem xX {α:Type} {f:α->List PV} {sz:Nat} (hf:∀ a,(f a).length=sz) (l:List α):(zm f l).length=l.length*sz:=by
 induction l with
 | nil=>simp [zm]
 | cons a l ih =>
  have:zm f (a::l)=(f a).map .pure++zm f l:=by simp [zm]
  rw [this,List.length_append,ih];simp [hf,Nat.add_mul,Nat.add_comm]
def aZ {α:Type} (f:α->List PV) (sz:Nat) (H:Heap) (v:AV) (l:List α):Prop :=
 (l=[]/\v=.pure .nils)\/∃ id,v=.row id sz 0 l.length/\H.get id=.cells true (zm f l)
section
variable {α:Type} {f:α->List PV} {sz:Nat} {H:Heap} {v:AV} {l:List α}
theorem aZ.nil:aZ f sz H (.pure .nils) []:=.inl ⟨rfl,rfl⟩
theorem aZ.alloc (h:aZ f sz H v l) (o:aR):aZ f sz (H.alloc o) v l:=by
 rcases h with h|⟨id,h1,h2⟩
 .exact .inl h
 .exact .inr ⟨id,h1,by rw [ze (zu h2)];exact h2⟩
theorem aZ.keep {H':Heap} (h:aZ f sz H v l) (hk:∀ id,(∃ n,v=.row id sz 0 n)->H'.get id=H.get id):aZ f sz H' v l:=by
 rcases h with h|⟨id,h1,h2⟩
 .exact .inl h
 .exact .inr ⟨id,h1,by rw [hk id ⟨_,h1⟩];exact h2⟩
theorem Qw (ps:List PV) (h:ps.all PV.one=true):(ps.map AV.pure).all AV.one=true:=by
 simp only [List.all_map,List.all_eq_true] at h ⊢;intro p hp;have:=h p hp
 cases p<;>first|rfl|simp [PV.one] at this
theorem aZ.toStr {v:AV} {l:List UInt8} (h:aZ XK 1 H v l):Qt H v=some (.val (.pure (.str ⟨l.toArray⟩))):=by
 rcases h with ⟨rfl,rfl⟩|⟨id,rfl,h⟩
 .rfl
 .rw [zmO,h,<- zsn,zkA rfl]
end
structure Hide (p:Prop):Prop where
 h:p
theorem Gn {α:Type} {xs:List α} {i:Nat} (h:i < xs.length):xs.take i++[xs[i]]=xs.take (i+1):=by
 rw [List.take_add_one,List.getElem?_eq_getElem h];simp
inductive Sl (α:Type) where
 | nil
 | mk (sF:Bool) (xs:List α)
 deriving Inhabited
section
variable {α:Type}
def Sl.xs:Sl α->List α
 | .nil=>[]
 | .mk _ xs=>xs
def Sl.sF:Sl α->Bool
 | .nil=>false
 | .mk h _=>h
def Sl.isNil:Sl α->Bool
 | .nil=>true
 | .mk _ _=>false
def Sl.pv (f:α->List PV) (sz:Nat):Sl α->PV
 | .nil=>.nils
 | .mk h xs=>.slice h sz (xs.map f)
def Sl.of:List α->Sl α
 | []=>.nil
 | a::l=>.mk false (a::l)
@[simp] theorem Sl.lZ (l:List α):(Sl.of l).xs=l:=by cases l<;>rfl
@[simp] theorem Sl.XL:(Sl.nil:Sl α).xs=[]:=rfl
@[simp] theorem Sl.jg (h:Bool) (l:List α):(Sl.mk h l).xs=l:=rfl
@[simp] theorem Sl.of_nil:Sl.of ([]:List α)=.nil:=rfl
@[simp] theorem Sl.of_cons (a:α) (l:List α):Sl.of (a::l)=.mk false (a::l):=rfl
@[simp] theorem Sl.XM (f:α->List PV) (sz:Nat):(Sl.nil:Sl α).pv f sz=.nils:=rfl
@[simp] theorem zuH (f:α->List PV) (sz:Nat) (s:Sl α):isNil .slice (.pure (s.pv f sz))=some s.isNil:=by cases s<;>rfl
@[simp] theorem zuK (f:α->List PV) (sz:Nat) (s:Sl α):AV.cells (.pure (s.pv f sz))=[.pure (s.pv f sz)]:=by cases s<;>rfl
@[simp] theorem zve (f:α->List PV) (sz:Nat) (s:Sl α):AV.one (.pure (s.pv f sz))=true:=by cases s<;>rfl
@[simp] theorem ztT (f:α->List PV) (sz:Nat) (s:Sl α):Gm (.pure (s.pv f sz))=some (.val (.pure (.int .i64 s.xs.length))):=by
 cases s<;>simp [Sl.pv,Sl.xs]
@[simp] theorem vM {k:IntKind} {n:Nat} {f:α->List PV} {sz:Nat} {s:Sl α} (h:n < s.xs.length):CQ sz (.pure (s.pv f sz)) (.pure (.int k n))=some (.val (.pure (.ptr s.sF (f s.xs[n]) 0))):=by
 cases s with
 | nil=>simp at h
 | mk sF xs =>
  simp only [Sl.xs] at h
  refine zh8 ?_
  simp [List.getElem?_eq_getElem h,Sl.xs]
theorem ziL {H:Heap} {f:α->List PV} {sz:Nat} (hf:∀ a,(f a).length=sz) (s:Sl α):zH H sz (.pure (s.pv f sz))=some ((s.xs.map f).flatten.map .pure,s.xs.length):=by
 cases s with
 | nil=>rfl
 | mk sF xs =>
  have:(xs.map f).all (fun e=>e.length == sz)=true:=by simp [hf]
  simp only [Sl.pv,zH,this,if_true,Sl.xs,List.length_map]
end
@[simp low] theorem zsC (c:AV) (cs:List AV) (size off:Nat) (vs:List AV):rQ (.cells true (c::cs)) size off vs=if vs.length=size/\size≠0/\vs.all AV.one=true/\off+size<=(c::cs).length then some (.cells true ((c::cs).take off++vs++(c::cs).drop (off+size))) else none:=rfl
@[simp low] theorem zsa (own:Bool) (c:AV) (cs:List AV) (size off:Nat):DW (.cells own (c::cs)) size off=if off+size<=(c::cs).length then some (((c::cs).drop off).take size) else none:=rfl
@[simp] theorem zuI (k:IntKind) (n:Int):PV.one (.int k n)=true:=rfl
@[simp] theorem zua (b:Bool):PV.one (.bool b)=true:=rfl
@[simp] theorem zuk (b:ByteArray):PV.one (.str b)=true:=rfl
@[simp] theorem zvd (k:IntKind) (n:Int):AV.one (.pure (.int k n))=true:=rfl
@[simp] theorem ztK (b:Bool):AV.one (.pure (.bool b))=true:=rfl
@[simp] theorem zu4 (b:ByteArray):AV.one (.pure (.str b))=true:=rfl
@[simp] theorem ztN:AV.one (.pure .nils)=true:=rfl
@[simp] theorem zt2:AV.one (.pure .jU)=true:=rfl
@[simp] theorem zt8:AV.one (.pure .jV)=true:=rfl
@[simp] theorem ztU (f:Nat) (c:List PV):AV.one (.pure (.func f c))=true:=rfl
@[simp] theorem zun (i sz o n:Nat):AV.one (.row i sz o n)=true:=rfl
@[simp] theorem zui (i o:Nat):AV.one (.box i o)=true:=rfl
@[simp] theorem ztB (h:Bool) (sz:Nat) (es:List (List PV)):AV.one (.pure (.slice h sz es))=true:=rfl
@[simp] theorem zg9 {H:Heap} {id:Nat} {o:aR} (h:id=H.nx):(H.alloc o).get id=o:=by subst h;exact KT
@[simp] theorem zrw {H:Heap} {id:Nat} {o:aR} (h:id < H.nx):(H.alloc o).get id=H.get id:=ze h
@[simp] theorem zsK {H:Heap} {id j:Nat} {o:aR} (h:id≠j):(H.set j o).get id=H.get id:=zh h
@[simp] theorem zu5:Heap.empty.nx=0:=by simp only [Heap.empty]
def Oh (o:aR) (sz off len:Nat):Option (List AV×Nat):=match o with
 | .cells _ cs=>if off*sz+len*sz<=cs.length then some ((cs.drop (off*sz)).take (len*sz),len) else none
 | _=>none
@[simp] theorem XN (H:Heap) (id sz off len:Nat):zH H sz (.row id sz off len)=Oh (H.get id) sz off len:=by
 simp only [zH,Oh,if_true]
 cases H.get id<;>rfl
@[simp] theorem zra (own:Bool) (c:AV) (cs:List AV) (sz off len:Nat):Oh (.cells own (c::cs)) sz off len=if off*sz+len*sz<=(c::cs).length then some (((c::cs).drop (off*sz)).take (len*sz),len) else none:=rfl
@[simp] def aD (n:Int):List PV:=[.int .i64 n]
@[simp] theorem zuD {cl:Callee} {env:Env} {H:Heap} (off size:Nat) (g:Bool) (x:aa):step cl env H (.field off size g x)=if Bj (x.eval env)=true/\off+size<=(x.eval env).cells.length then (pF g (((x.eval env).cells.drop off).take size)).map .val else none:=rfl
@[simp] theorem zs2 (ps:List PV):Bj (.pure (.agg ps))=true:=rfl
def Uk (sz len:Nat) (g:Bool) (v i:AV):Option Eff:=match i with
 | .pure (.int _ n)=>if Bj v=true/\0<=n/\n < len/\n.toNat*sz+sz<=v.cells.length then (pF g ((v.cells.drop (n.toNat*sz)).take sz)).map .val else none
 | _=>none
@[simp] theorem zvb {cl:Callee} {env:Env} {H:Heap} (sz len:Nat) (g:Bool) (x i:aa):step cl env H (.index sz len g x i)=Uk sz len g (x.eval env) (i.eval env):=by simp only [step,Uk];rfl
@[simp] theorem ztd (sz len:Nat) (g:Bool) (v:AV) (k:IntKind) (n:Int):Uk sz len g v (.pure (.int k n))=if Bj v=true/\0<=n/\n < len/\n.toNat*sz+sz<=v.cells.length then (pF g ((v.cells.drop (n.toNat*sz)).take sz)).map .val else none:=rfl
@[simp] theorem zto (f:Nat) (c:List PV):AV.cells (.pure (.func f c))=[.pure (.func f c)]:=rfl
@[simp] theorem ztQ (h:Bool) (c:List PV) (o:Nat):AV.cells (.pure (.ptr h c o))=[.pure (.ptr h c o)]:=rfl
@[simp] theorem ztM (i o:Nat):AV.cells (.box i o)=[.box i o]:=rfl
theorem zg {H:Heap} {G:Prog} {n f:Nat} {ps caps:List PV} {r:PV} (hs:G.shared f=false) (h:zF G n f (ps++caps)=some r):zD (zn G n) H (.pure (.func f caps)) (ps.map .pure)=some (.val (.pure r)):=by
 have h1:zO (freeze H true nZ) (ps.map .pure++caps.map .pure)=some (ps++caps,[]):=by rw [<- List.map_append];exact XJ true 11 _
 have h2:(zn G n).shared f=false:=hs;have h3:(zn G n).pure f (ps++caps)=some r:=h;simp only [zD,h2,Bool.false_eq_true,if_false,h1,h3,List.isEmpty_nil,Bool.true_or,if_true]
@[simp] theorem ztr (cs:List AV):(jw cs).cells=cs:=by
 unfold jw
 split
 .rename_i ps h;have main:∀ (cs:List AV) (ps:List PV),nY cs=some ps->ps.map AV.pure=cs:=by
   intro cs
   induction cs with
   | nil=>intro ps h;simp [nY] at h;subst h;rfl
   | cons c cs ih =>
    intro ps h;unfold nY at h
    split at h
    .rename_i h0;cases h0
    .rename_i p vs' h0;simp only [List.cons.injEq] at h0;obtain ⟨rfl,rfl⟩:=h0;rw [Option.map_eq_some_iff] at h;obtain ⟨qs,hq,rfl⟩:=h;rw [List.map_cons,ih _ hq]
    .simp at h
  exact main _ _ h
 .rfl
def Qx (sz bytes:Nat) (zero:List PV) (l c:AV):Option Eff:=match l,c with
  | .pure (.int _ a),.pure (.int _ b) =>
   if 0<=a/\a=b/\a.toNat*sz<=zl/\a.toNat*bytes<=zl/\a.toNat<=zl then
    some (.new (.cells true ((List.replicate a.toNat (zero.map AV.pure)).flatten)) fun id=>.row id sz 0 a.toNat)
   else none
  | _,_=>none
@[simp] theorem zsi {cl:Callee} {env:Env} {H:Heap} (sz bytes:Nat) (zero:List PV) (l c:aa):step cl env H (.makeSlice sz bytes zero l c)=Qx sz bytes zero (l.eval env) (c.eval env):=by simp only [step,Qx];rfl
@[simp] theorem zpk {sz bytes:Nat} {zero:List PV} {k k':IntKind} {n:Nat} (h:n*sz<=zl/\n*bytes<=zl/\n<=zl):Qx sz bytes zero (.pure (.int k n)) (.pure (.int k' n))=some (.new (.cells true ((List.replicate n (zero.map AV.pure)).flatten)) fun id=>.row id sz 0 n):=by
 simp only [Qx];rw [if_pos ⟨by omega,by trivial,by simpa using h.1,by simpa using h.2.1,by simpa using h.2.2⟩];simp
@[simp] theorem zuE {d:uf} {k:IntKind} {a b:Int} (h:b≠0):fK .quo d (.pure (.int k a)) (.pure (.int k b))=some (.pure (.int k (k.wrap (a.tdiv b)))):=by simp [fK,yw,h]
@[simp] theorem zuJ {d:uf} {k:IntKind} {a b:Int} (h:b≠0):fK .rem d (.pure (.int k a)) (.pure (.int k b))=some (.pure (.int k (a.tmod b))):=by simp [fK,yw,h]
def HZ (n dflt:Nat):Option AV->Option Nat
 | none=>some dflt
 | some (.pure (.int _ i))=>xP i n
 | some _=>none
theorem zpX (env:Env) (n dflt:Nat) (o:Option aa):bound env n dflt o=HZ n dflt (o.map (·.eval env)):=by
 cases o with
 | none=>rfl
 | some x=>simp only [bound,Option.map_some,HZ];cases x.eval env with
  | pure p=>cases p<;>rfl
  | _=>rfl
def Qy:aR->Bool
 | .cells _ _=>true
 | _=>false
@[simp] theorem zrA (own:Bool) (cs:List AV):Qy (.cells own cs)=true:=rfl
def Ul (H:Heap) (sz:Nat) (v:AV) (lo hi:Option AV):Option Eff:=match v with
  | .pure .nils=>match HZ 0 0 hi with
   | some _=>match HZ 0 0 lo with
    | some _=>some (.val (.pure .nils))
    | none=>none
   | none=>none
  | .pure (.slice k s es)=>if s=sz then match HZ es.length es.length hi with
   | some h=>match HZ h 0 lo with
    | some l=>some (.val (.pure (.slice k sz ((es.take h).drop l))))
    | none=>none
   | none=>none else none
  | .row id s off len=>if s=sz then match Jl H id sz off len with
   | some N=>match HZ N len hi with
    | some h=>match HZ h 0 lo with
     | some l=>some (.val (if l≠0/\h=l then .pure (.slice false sz []) else .row id sz (off+l) (h - l)))
     | none=>none
    | none=>none
   | none=>none else none
  | _=>none
@[simp] theorem zuS {cl:Callee} {env:Env} {H:Heap} (sz:Nat) (x:aa) (lo hi:Option aa):step cl env H (.slice sz x lo hi)=Ul H sz (x.eval env) (lo.map (·.eval env)) (hi.map (·.eval env)):=by
 simp only [step,Ul,zpX];rfl
theorem zoR {i n:Nat} (h:i<=n):xP (i:Int) n=some i:=by
 simp only [xP];rw [if_pos (by omega)];simp
section
variable {H:Heap} {id sz off len i j:Nat} {k k':IntKind}
theorem zkG (h:Qy (H.get id)=true):∃ N,Jl H id sz off len=some N/\len<=N:=by
 unfold Jl
 cases hg:H.get id with
 | cells own cs=>exact ⟨_,rfl,Nat.le_max_left _ _⟩
 | _=>rw [hg] at h;simp [Qy] at h
@[simp] theorem ziK (h:Qy (H.get id)=true) (hi:i<=len):Ul H sz (.row id sz off len) (some (.pure (.int k i))) none=some (.val (if i≠0/\len=i then .pure (.slice false sz []) else .row id sz (off+i) (len - i))):=by
 obtain ⟨N,hN,_⟩:=zkG (sz:=sz) (off:=off) (len:=len) h;simp only [Ul,if_true,hN,HZ,zoR hi]
end
section
variable {α:Type} {H:Heap} {f:α->List PV} {sz:Nat} {s:Sl α} {i j:Nat} {k k':IntKind}
def Sl.sub (s:Sl α) (i j:Nat):Sl α:=match s with
 | .nil=>.nil
 | .mk h xs=>.mk h ((xs.take j).drop i)
end
def H7:aP->List Nat
 | .region _ ops=>CP ops
 | .seq a b|.cond _ a b=>H7 a++H7 b
 | .block _ c|.loop c=>H7 c
 | _=>[]
def LJ (ds:List (Nat×Nat)) (t:Nat):Bool:=ds.any fun p=>Nat.ble p.1 t&&Nat.ble t p.2
def Um (ds:List (Nat×Nat)) (H8 env:Env):Env:=fun t=>if LJ ds t=true then env t else H8 t
section
variable {cl:Callee} {Q:bW->Env->Heap->Prop}
theorem zhs {t:Nat} {f:Env->Heap->Out} (hf:∀ env H x env' H',f env H=some (x,env',H')->env' t=env t):∀ {m env H x env' H'},iter f m env H=some (x,env',H')->env' t=env t
 | 0,env,H,x,env',H',h=>by simp [iter] at h
 | m+1,env,H,x,env',H',h=>by
  unfold iter at h
  split at h
  .rename_i e1 h1 hr;exact (zhs hf h).trans (hf _ _ _ _ _ hr)
  .exact hf _ _ _ _ _ h
theorem Gp {t:Nat}:∀ {c:aP},(H7 c).contains t=false->∀ {env H x env' H'},exec cl c env H=some (x,env',H')->env' t=env t
 | .skip,_,env,H,x,env',H',h=>by simp [exec] at h;obtain ⟨_,rfl,_⟩:=h;rfl
 | .exit _,_,env,H,x,env',H',h=>by simp [exec] at h;obtain ⟨_,rfl,_⟩:=h;rfl
 | .ret,_,env,H,x,env',H',h=>by simp [exec] at h;obtain ⟨_,rfl,_⟩:=h;rfl
 | .region pre ops,ht,env,H,x,env',H',h=>by
  simp only [exec] at h
  split at h
  .rename_i e1 h1 hr;simp at h;obtain ⟨_,rfl,_⟩:=h;exact XE hr t ht
  .simp at h
 | .seq a b,ht,env,H,x,env',H',h=>by
  simp [H7] at ht;simp only [exec] at h
  split at h
  .rename_i e1 h1 hr;exact (Gp (by simpa using ht.2) h).trans (Gp (by simpa using ht.1) hr)
  .exact Gp (by simpa using ht.1) h
 | .cond c a b,ht,env,H,x,env',H',h=>by
  simp [H7] at ht;simp only [exec] at h
  split at h
  .split at h
   .exact Gp (by simpa using ht.1) h
   .exact Gp (by simpa using ht.2) h
  .simp at h
 | .block id c,ht,env,H,x,env',H',h=>by
  simp only [exec] at h
  split at h
  .rename_i i e1 h1 hr
   split at h
   .simp at h;obtain ⟨_,rfl,_⟩:=h;exact Gp (c:=c) ht hr
   .simp at h;obtain ⟨_,rfl,_⟩:=h;exact Gp (c:=c) ht hr
  .exact Gp (c:=c) ht h
 | .loop c,ht,env,H,x,env',H',h=>by
  simp only [exec] at h;exact zhs (fun env H x env' H' h=>Gp (c:=c) ht h) h
 | .rangeFunc f ps as b,ht,env,H,x,env',H',h=>by
  simp only [exec] at h
  split at h
  .split at h
   .split at h
    .split at h
     .simp at h
     .simp at h;obtain ⟨_,rfl,_⟩:=h;rfl
    .simp at h
   .simp at h
  .split at h
   .split at h
    .split at h
     .simp at h
     .simp at h;obtain ⟨_,rfl,_⟩:=h;rfl
    .simp at h
   .simp at h
  .simp at h
theorem zN {env:Env} {H:Heap} {c:aP} {σ:Type} (ds:List (Nat×Nat)) (I:σ->Env->Heap->Prop) (m:σ->Nat) (s:σ) (PE:(H7 c).all (LJ ds)=true) (h0:I s env H) (hm:m s < zI)
  (hb:∀ s env' H,I s env' H->wp cl c (Um ds env env') H (Qr (fun e h=>∃ s',m s' < m s/\I s' e h) Q) .mk) {u}:wp cl (.loop c) env H Q u:=by
 refine zr5 (fun s e h=>I s e h/\∀ t,LJ ds t=false->e t=env t) m s ⟨h0,fun _ _=>rfl⟩ hm ?_
 rintro s e h ⟨hI,oz⟩;have he:Um ds env e=e:=by
  funext t
  simp only [Um]
  split
  .rfl
  .rename_i ht;exact (oz t (by simpa using ht)).symm
 have:=hb s e h hI;rw [he] at this;obtain ⟨x,e',h',h1,h2⟩:=this
 refine ⟨x,e',h',h1,?_⟩
 cases x with
 | normal =>
  obtain ⟨s',nQ,XF⟩:=h2
  refine ⟨s',nQ,XF,fun t ht=>?_⟩
  have hn:(H7 c).contains t=false:=by
   rw [List.all_eq_true] at PE
   cases hc:(H7 c).contains t with
   | false=>rfl
   | true =>
    have:=PE t (by simpa using hc);rw [ht] at this;exact absurd this (by simp)
  exact (Gp hn h1).trans (oz t ht)
 | exit i=>exact h2
 | ret=>exact h2
end
theorem zkd (ds:List (Nat×Nat)) (H8 env:Env) (t:Nat):Um ds H8 env t=if LJ ds t=true then env t else H8 t:=rfl
@[simp] theorem zvn (t:Nat):LJ [] t=false:=rfl
@[simp] theorem zuY (a b:Nat) (ds:List (Nat×Nat)) (t:Nat):LJ ((a,b)::ds) t=(Nat.ble a t&&Nat.ble t b||LJ ds t):=rfl
attribute [simp] zkd
def FrzK (H:Heap) (k:Bool) (n:Nat) (v:AV) (p:PV):Prop:=∃ ids,freeze H k n v=some (p,ids)
def FrzL (H:Heap) (k:Bool) (n:Nat) (vs:List AV) (ps:List PV):Prop:=∃ ids,zO (freeze H k n) vs=some (ps,ids)
section
variable {H:Heap} {k:Bool} {n:Nat}
theorem FrzK.pure (p:PV):FrzK H k (n+1) (.pure p) p:=⟨[],rfl⟩
theorem FrzL.nil:FrzL H k n [] []:=⟨[],rfl⟩
theorem FrzL.cons {v:AV} {p:PV} {vs:List AV} {ps:List PV} (h:FrzK H k n v p) (hs:FrzL H k n vs ps):FrzL H k n (v::vs) (p::ps):=by
 obtain ⟨i,hi⟩:=h;obtain ⟨j,hj⟩:=hs;exact ⟨i++j,by simp only [zO,hi,hj]⟩
theorem FrzK.aM {vs:List AV} {ps:List PV} (h:FrzL H k n vs ps):FrzK H k (n+1) (.aM vs) (.aM ps):=by
 obtain ⟨i,hi⟩:=h;exact ⟨i,by simp only [freeze,hi]⟩
theorem FrzK.agg {vs:List AV} {ps:List PV} (h:FrzL H k n vs ps):FrzK H k (n+1) (.agg vs) (.agg ps):=by
 obtain ⟨i,hi⟩:=h;exact ⟨i,by simp only [freeze,hi]⟩
theorem FrzL.nD:∀ (ps:List PV),FrzL H k (n+1) (ps.map .pure) ps
 | []=>.nil
 | p::ps=>.cons (.pure p) (FrzL.nD ps)
theorem FrzK.jw {vs:List AV} {ps:List PV} (h:FrzL H k n vs ps):FrzK H k (n+1) (jw vs) (.agg ps):=by
 unfold Vm.jw
 split
 .rename_i qs hq;have:ps=qs:=by
   have main:∀ (vs:List AV) (ps qs:List PV),nY vs=some qs->FrzL H k n vs ps->ps=qs:=by
    intro vs
    induction vs with
    | nil=>intro ps qs h1 h2;simp [nY] at h1;obtain ⟨i,hi⟩:=h2;simp [zO] at hi;rw [h1,hi.1]
    | cons v vs ih =>
     intro ps qs h1 h2;unfold nY at h1
     split at h1
     .rename_i h0;cases h0
     .rename_i p vs' h0;simp only [List.cons.injEq] at h0;obtain ⟨rfl,rfl⟩:=h0;rw [Option.map_eq_some_iff] at h1;obtain ⟨qs',NQ,rfl⟩:=h1;obtain ⟨i,hi⟩:=h2
      cases n with
      | zero=>simp [zO,freeze] at hi
      | succ n =>
       simp only [zO,freeze] at hi
       split at hi
       .simp at hi
       .rename_i ps' js uY;simp only [Option.some.injEq,Prod.mk.injEq] at hi;obtain ⟨rfl,_⟩:=hi;rw [ih _ _ NQ ⟨js,uY⟩]
     .simp at h1
   exact main vs ps qs hq h
  subst this;exact .pure _
 .exact .agg h
end
def Oi:Option (List AV)->Option AV
 | some [v]=>some v
 | some vs=>some (.aM vs)
 | none=>none
theorem zh1 (env:Env) (H:Heap) (rs:List j6):results env H rs=Oi (Bn env H rs):=by
 unfold results Oi
 cases Bn env H rs with
 | none=>rfl
 | some l=>match l with
  | []=>rfl
  | [v]=>rfl
  | a::b::l=>rfl
@[simp] theorem zue (v:AV):Oi (some [v])=some v:=rfl
@[simp] theorem ztO:Oi (some [])=some (.aM []):=rfl
@[simp] theorem ztV (a b:AV) (l:List AV):Oi (some (a::b::l))=some (.aM (a::b::l)):=rfl
@[simp] theorem zlG (env:Env) (H:Heap):Bn env H []=some []:=rfl
@[simp] theorem zka (env:Env) (H:Heap) (r:j6) (rs:List j6):Bn env H (r::rs)=(GY env H r).bind fun v=>(Bn env H rs).map (v :: ·):=by
 simp only [Bn]
 cases GY env H r with
 | none=>rfl
 | some v=>cases Bn env H rs<;>rfl
@[simp] theorem zsz (env:Env) (H:Heap) (t:Nat):GY env H (.tmp t)=some (env t):=rfl
@[simp] theorem zjR (env:Env) (H:Heap) (t size:Nat) (g:Bool):GY env H (.cell t size g)=(zS H size (env t)).bind (pF g):=by
 simp only [GY]
 cases zS H size (env t)<;>rfl
@[simp] theorem zry (env:Env) (H:Heap) (a b:j6) (rs:List j6):results env H (a::b::rs)=Oi (Bn env H (a::b::rs)):=zh1 ..
@[simp] theorem zr8 (env:Env) (H:Heap) (t size:Nat) (g:Bool):results env H [.cell t size g]=(zS H size (env t)).bind (pF g):=by
 rw [zh1];simp only [zka,zlG,zjR]
 cases (zS H size (env t)).bind (pF g)<;>rfl
@[simp] theorem zrJ (env:Env) (H:Heap):results env H []=some (.aM []):=rfl
def Names (v:AV) (id:Nat):Prop:=∃ sz o n,v=.row id sz o n
section
variable {α:Type} {f:α->List PV} {sz:Nat} {H:Heap} {v:AV} {l:List α}
theorem aZ.names_lt (h:aZ f sz H v l) {id:Nat} (hn:Names v id):id < H.nx:=by
 rcases h with ⟨_,rfl⟩|⟨i,rfl,hg⟩
 .obtain ⟨_,_,_,h⟩:=hn;simp at h
 .obtain ⟨_,_,_,h⟩:=hn;simp at h;obtain ⟨rfl,_⟩:=h;exact zu hg
theorem aZ.fresh (h:aZ f sz H v l):∀ id,H.nx<=id->¬ Names v id:=fun id hl hn=>by have:=h.names_lt hn;omega
theorem aZ.len (h:aZ f sz H v l):Gm v=some (.val (.pure (.int .i64 l.length))):=by
 rcases h with ⟨rfl,rfl⟩|⟨id,rfl,_⟩<;>rfl
theorem aZ.frz {k:Bool} {n:Nat} (h:aZ f sz H v l) (hf:∀ a,(f a).length=sz):FrzK H k (n+2) v ((match l with|[]=>Sl.nil|_=>.mk k l).pv f sz)\/(l=[]/\FrzK H k (n+2) v (.slice k sz [])):=by
 rcases h with ⟨rfl,rfl⟩|⟨id,rfl,hg⟩
 .exact .inl (.pure _)
 .have nK:∀ l:List α,chunks sz l.length ((l.map f).flatten)=l.map f:=by
   intro l
   induction l with
   | nil=>rfl
   | cons a l ih =>
    simp only [List.length_cons,chunks,List.map_cons,List.flatten_cons];rw [List.take_left' (hf a),List.drop_left' (hf a),ih]
  have hlen:((l.map f).flatten).length=l.length*sz:=by
   have:=xX hf l
   simpa [zm,List.map_flatten,Function.comp_def] using this
  have hp:zm f l=((l.map f).flatten).map .pure:=by simp [zm,List.map_flatten,Function.comp_def]
  have key:FrzK H k (n+2) (.row id sz 0 l.length) (.slice k sz (l.map f)):=by
   refine ⟨[id],?_⟩
   have h1:((zm f l).drop (0*sz)).take (l.length*sz)=((l.map f).flatten).map .pure:=by
    rw [Nat.zero_mul,List.drop_zero,hp];exact List.take_of_length_le (by rw [List.length_map,hlen];exact Nat.le_refl _)
   obtain ⟨ids,iY⟩:=FrzL.nD (H:=H) (k:=k) (n:=n) ((l.map f).flatten);have EX:zO (freeze H k (n+1)) (((l.map f).flatten).map .pure)=some ((l.map f).flatten,[]):=by
    clear iY;generalize (l.map f).flatten=q
    induction q with
    | nil=>rfl
    | cons p ps ih=>rw [List.map_cons,zO,ih];rfl
   unfold freeze;simp only [hg,h1,EX,hlen,if_true,nK]
  cases l with
  | nil=>exact .inr ⟨rfl,key⟩
  | cons a l=>exact .inl key
def aC {α:Type} (f:α->List PV) (sz:Nat) (H:Heap) (v:AV) (l:List α):Prop:=aZ f sz H v l/\(l=[]->v=.pure .nils)
theorem aC.nil:aC f sz H (.pure .nils) ([]:List α):=⟨aZ.nil,fun _=>rfl⟩
theorem aC.cast {m:List α} (h:aC f sz H v l) (e:l=m):aC f sz H v m:=e ▸ h
theorem aC.alloc (h:aC f sz H v l) (o:aR):aC f sz (H.alloc o) v l:=⟨h.1.alloc o,h.2⟩
theorem aC.set {id:Nat} (h:aC f sz H v l) (hn:¬ Names v id) (o:aR):aC f sz (H.set id o) v l:=by
 refine ⟨h.1.keep fun i ⟨n,hi⟩=>?_,h.2⟩
 exact zh fun e=>hn ⟨sz,0,n,by rw [hi,e]⟩
theorem aZ.row (h:aZ f sz H v l) (hl:l≠[]):∃ id,v=.row id sz 0 l.length/\H.get id=.cells true (zm f l):=by
 rcases h with ⟨h,_⟩|h
 .exact absurd h hl
 .exact h
theorem XO (hf:∀ a,(f a).length=sz) {i:Nat} (hi:i < l.length):∃ p q,zm f l=p++(f l[i]).map .pure++q/\p.length=i*sz:=by
 refine ⟨zm f (l.take i),zm f (l.drop (i+1)),?_,?_⟩
 .rw [<- Qv,<- BM,<- BM]
  congr 1
  rw [List.append_assoc,List.singleton_append,<- List.drop_eq_getElem_cons hi,List.take_append_drop]
 .rw [xX hf,List.length_take,Nat.min_eq_left (by omega)]
theorem XP {own:Bool} (hf:∀ a,(f a).length=sz) {i:Nat} (hi:i < l.length) {off size:Nat} (ho:off+size<=sz):DW (.cells own (zm f l)) size (i*sz+off)=some ((((f l[i]).drop off).take size).map .pure):=by
 obtain ⟨p,q,h1,h2⟩:=XO hf hi;simp only [DW];rw [h1,List.append_assoc];have h3:(List.map AV.pure (f l[i])).length=sz:=by rw [List.length_map,hf]
 rw [if_pos (by rw [List.length_append,List.length_append,h2,h3];omega)];rw [<- h2,List.drop_append,List.drop_of_length_le (by omega)];have:p.length+off - p.length=off:=by omega
 rw [this,List.nil_append,List.drop_append_of_le_length (by omega),List.take_append_of_le_length (by rw [List.length_drop];omega),List.map_take,List.map_drop]
@[simp] theorem zmA {own:Bool} {i size:Nat} (hf:∀ a,(f a).length=sz) (hi:i < l.length) (ho:size<=sz):DW (.cells own (zm f l)) size (i*sz)=some (((f l[i]).take size).map .pure):=by
 have:=XP (own:=own) hf hi (off:=0) (size:=size) (by omega)
 simpa using this
@[simp] theorem zz {own:Bool} {i size off:Nat} (hf:∀ a,(f a).length=sz) (hi:i < l.length) (ho:off+size<=sz):DW (.cells own (zm f l)) size (i*sz+off)=some ((((f l[i]).drop off).take size).map .pure):=XP hf hi ho
@[simp] theorem Oj {own:Bool} {i:Nat} (hf:∀ a,(f a).length=1) (hi:i < l.length):DW (.cells own (zm f l)) 1 i=some ((f l[i]).map .pure):=by
 have:=XP (own:=own) hf hi (off:=0) (size:=1) (by omega);rw [Nat.mul_one,Nat.add_zero,List.drop_zero,List.take_of_length_le (by rw [hf];exact Nat.le_refl 1)] at this;exact this
theorem zjn (hf:∀ a,(f a).length=sz) {i:Nat} (hi:i < l.length) (a:α):(zm f l).take (i*sz)++(f a).map .pure++(zm f l).drop (i*sz+sz)=zm f (l.set i a):=by
 obtain ⟨p,q,h1,h2⟩:=XO hf hi;have h3:(List.map AV.pure (f l[i])).length=sz:=by rw [List.length_map,hf]
 have h4:zm f (l.take i)=p:=by
  have e1:zm f (l.take i)++((f l[i]).map .pure++zm f (l.drop (i+1)))=p++((f l[i]).map .pure++q):=by
   rw [<- List.append_assoc,<- List.append_assoc,<- h1,<- Qv,<- BM,<- BM]
   congr 1
   rw [List.append_assoc,List.singleton_append,<- List.drop_eq_getElem_cons hi,List.take_append_drop]
  have e2:(zm f (l.take i)).length=p.length:=by rw [xX hf,h2,List.length_take,Nat.min_eq_left (by omega)]
  exact (List.append_inj e1 e2).1
 have h5:zm f (l.drop (i+1))=q:=by
  have e1:zm f (l.take i)++((f l[i]).map .pure++zm f (l.drop (i+1)))=p++((f l[i]).map .pure++q):=by
   rw [<- List.append_assoc,<- List.append_assoc,<- h1,<- Qv,<- BM,<- BM]
   congr 1
   rw [List.append_assoc,List.singleton_append,<- List.drop_eq_getElem_cons hi,List.take_append_drop]
  rw [h4] at e1;exact List.append_cancel_left (List.append_cancel_left e1)
 rw [h1,List.append_assoc p,List.take_left' h2,<- h2,List.drop_append,List.drop_of_length_le (by omega),List.nil_append];have h6:p.length+sz - p.length=sz:=by omega
 rw [h6,List.drop_left' h3,<- h4,<- h5,List.set_eq_take_append_cons_drop,if_pos hi,BM,List.append_assoc]
 congr 1
theorem Ia {a:α} (hf:∀ a,(f a).length=sz) (bu:∀ a,(f a).all PV.one=true) (h0:0 < sz) {i:Nat} (h:i < l.length):rQ (.cells true (zm f l)) sz (i*sz) ((f a).map .pure)=some (.cells true (zm f (l.set i a))):=by
 simp only [rQ];have hle:i*sz+sz<=(zm f l).length:=by
  rw [xX hf,<- Nat.succ_mul];exact Nat.mul_le_mul_right sz h
 rw [if_pos ⟨by rw [List.length_map,hf],by omega,Qw _ (bu a),hle⟩,zjn hf h]
theorem aC.lU (h:aC f sz H v l) (o o':aR):aC f sz ((H.alloc o).set H.nx o') v l:=(h.alloc o).set (h.1.fresh _ (Nat.le_refl _)) o'
theorem aC.frz {k:Bool} {n:Nat} (h:aC f sz H v l) (hf:∀ a,(f a).length=sz):FrzK H k (n+2) v ((match l with|[]=>Sl.nil|_=>.mk k l).pv f sz):=by
 rcases h.1.frz (k:=k) (n:=n) hf with h1|⟨rfl,h1⟩
 .exact h1
 .rw [h.2 rfl];exact .pure _
theorem aC.res {n:Nat} (h:aC f sz H v l) (hf:∀ a,(f a).length=sz):FrzK H false (n+2) v ((Sl.of l).pv f sz):=by
 have:=h.frz (k:=false) (n:=n) hf
 cases l<;>exact this
def Un {α:Type} (f:α->List PV) (cs:List AV) (P:α->Prop) (_:Tag P):Prop:=∃ a,cs=(f a).map .pure/\P a
def appG {α:Type} (f:α->List PV) (r:Option (List AV×Nat)) (P:α->Prop) (_:Tag P):Prop:=∃ a,r=some ((f a).map .pure,1)/\P a
@[simp] theorem zt9 (f:α->List PV) (cs:List AV) (P:α->Prop) {u}:appG f (some (cs,1)) P u↔Un f cs P .mk:=by
 simp [appG,Un]
@[simp] theorem zvj (x:Int) (P:Int->Prop) {u}:Un aD [.pure (.int .i64 x)] P u↔P x:=by
 simp [Un,aD]
structure After (v:AV) (H:Heap) (v':AV) (H':Heap):Prop where
 nx:H.nx<=H'.nx
 get:∀ id,id < H.nx->¬ Names v id->H'.get id=H.get id
 new:∀ id,Names v' id->H.nx<=id
theorem After.grow {v':AV} {H':Heap} {β:Type} {g:β->List PV} {sz':Nat} {w:AV} {m:List β} (ha:After v H v' H') (h:aC g sz' H w m) (hd:∀ id,Names w id->¬ Names v id):aC g sz' H' w m/\∀ id,Names w id->¬ Names v' id:=by
 refine ⟨⟨h.1.keep fun i ⟨n,hi⟩=>?_,h.2⟩,fun id hw hv=>?_⟩
 .exact ha.get i (h.1.names_lt ⟨_,_,_,hi⟩) (hd i ⟨_,_,_,hi⟩)
 .have:=ha.new id hv;have:=h.1.names_lt hw;omega
theorem aZ.one (h:aZ f sz H v l):AV.one v=true/\AV.cells v=[v]:=by
 rcases h with ⟨_,rfl⟩|⟨id,rfl,_⟩<;>exact ⟨rfl,rfl⟩
theorem zq {P:AV->Heap->Prop} (h:∀ v' H',aC f sz H' v' l->H.nx<=H'.nx->(∀ id,id < H.nx->¬ Names v id->H'.get id=H.get id)->(∀ id,Names v' id->H.nx<=id)->AV.one v'=true->AV.cells v'=[v']->P v' H'):∀ v' H',aC f sz H' v' l->After v H v' H'->P v' H' :=
 fun v' H' h1 h2=>h v' H' h1 h2.nx h2.get h2.new h1.1.one.1 h1.1.one.2
theorem EY {bytes:Nat} {b:AV} {k:AV->Heap->Prop} {u} (hv:aC f sz H v l) (hf:∀ a,(f a).length=sz) (h0:0 < sz) (bu:∀ a,(f a).all PV.one=true)
  (hm:(l.length+1)*sz<=zl/\(l.length+1)*bytes<=zl)
  (hk:appG f (zH H sz b) (fun a=>∀ v' H',aC f sz H' v' (l++[a])->After v H v' H'->k v' H') .mk):wpE 0 (zk H sz bytes v b) H k u:=by
 obtain ⟨a,hb,hk⟩:=hk;have ho:=Qw _ (bu a);rcases hv.1 with ⟨rfl,rfl⟩|⟨i,rfl,hg⟩
 .have h5:zk H sz bytes (.pure .nils) b=some (.new (.cells true ((f a).map .pure)) fun id=>.row id sz 0 1):=by
   simp only [zk,hb,ho];have h1:1*sz<=zl/\1*bytes<=zl:=by simpa using hm
   simp only [Bool.not_true,Bool.false_eq_true,if_false];rw [if_neg (by simp),if_pos h1]
  rw [h5,Og]
  refine hk _ _ ⟨.inr ⟨H.nx,rfl,?_⟩,fun h=>by simp at h⟩ ⟨Nat.le_succ _,fun id hl _=>ze hl,fun id ⟨_,_,_,h⟩=>?_⟩
  .rw [Ai];simp [zm]
  .simp at h;omega
 .have hlen:=xX hf l;have rM:¬ (0*sz+(l.length+1)*sz<=(zm f l).length):=by rw [hlen,Nat.add_mul];omega
  have h5:zk H sz bytes (.row i sz 0 l.length) b=some (.upd (.row H.nx sz 0 (l.length+1)) ((H.set i .dead).alloc (.cells true (zm f l++(f a).map .pure)))):=by
   simp only [zk,hb,ho,hg];simp only [Bool.not_true,Bool.false_eq_true,if_false,if_true];rw [if_neg rM];simp only [true_and];rw [if_pos ⟨hlen.symm,hm⟩]
  rw [h5,Hz]
  refine hk _ _ ⟨.inr ⟨H.nx,by simp,?_⟩,fun h=>by simp at h⟩ ⟨Nat.le_succ _,fun id hl hn=>?_,fun id ⟨_,_,_,h⟩=>?_⟩
  .have:(H.set i .dead).nx=H.nx:=rfl;rw [<- this,Ai,BM,Qv]
  .rw [ze (by exact hl),zh];intro e;subst e;exact hn ⟨_,_,_,rfl⟩
  .simp at h;omega
theorem zA {bytes:Nat} {b:AV} {k:AV->Heap->Prop} {u}
  (hk:appG f (zH H sz b) (fun a=>∀ v' H',aC f sz H' v' (l++[a])->After v H v' H'->k v' H') .mk)
  (hv:aC f sz H v l:=by (first|assumption|(repeat' first|assumption|with_reducible apply aC.lU|with_reducible apply aC.alloc|with_reducible apply aC.set|(with_reducible show ¬ Names _ _;simp [*];done)))) (hf:∀ a,(f a).length=sz:=by exact fun _=>rfl) (h0:0 < sz:=by decide) (bu:∀ a,(f a).all PV.one=true:=by (intro a;first|rfl|simp))
  (hm:(l.length+1)*sz<=zl/\(l.length+1)*bytes<=zl:=by (simp [zl]<;>omega)):wpE 0 (zk H sz bytes v b) H k u :=
 EY hv hf h0 bu hm hk
end
end Go.Proofs.YtmmhnfghklppiaaGreat.Vm
