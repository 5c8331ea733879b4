/- Each operation of the machine does what the model's operation does: maps with keys that are numbers or texts. Data taken out of one's own memory; calls; every operation in one theorem. Every operation in one theorem. An operation looks at its operands alone, and goes on to do so when more memory is there. A region of operations, in the order of its text, or in whatever order it may be drawn. A region whose order is drawn. The operations of a region in another order of text. A region whose order is drawn, cut into parts. The machine's code stands for the model's code. Calls: the machine's call stands for the model's. Reasoning about runs of the machine of values: what must hold ahead of a piece of code. What single operations of the machine of values come to, as rules for simp. Slices of one's own that grow by append. More for walks: slices as data with their things, loops that keep what they do not write, appends and calls with one's own slices. -/
import Derived.Test.YtmmhnfghklppiaaGreatWk6
import Derived.MapKept
namespace Go.Proofs.YtmmhnfghklppiaaGreat.Vm
open Go Go.RowKit
set_option linter.unusedVariables false
set_option linter.unusedSimpArgs false
section
variable {C:jH} {P:Program} {S:Bool->Nat->Prop} {base:Nat} {φ:jO} {H:Heap} {w:World} {env:Env} {a:Act} {e:Eff} {o:Oper} {I:Bool->Nat->Prop}
theorem zqV {t:TypeId} {z:PV} (h:VK P t=some z):∃ v,(zeroValue t).run P w=.ok v w/\bK I w z v:=by
 unfold VK at h
 split at h
 .rename_i i hi
  split at h
  .rename_i v hv;exact ⟨v,by simp [zeroValue,Qi hi,hv],ziV h⟩
  .simp at h
 .simp at h
theorem Yu {t:TypeId} {s:Bool} (h:GJ P t=some s):(s=false/\∃ k,P.underlying t=some (.int k))\/(s=true/\P.underlying t=some .string):=by
 unfold GJ at h
 split at h
 .rename_i k hk;simp at h;exact .inl ⟨h,k,hk⟩
 .rename_i hk;simp at h;exact .inr ⟨h,hk⟩
 .simp at h
theorem zhr {t:TypeId} {s:Bool} (h:Qc P t=some s):∃ k e,P.underlying t=some (.map k e)/\GJ P k=some s:=by
 unfold Qc at h
 split at h
 .exact ⟨_,_,by assumption,h⟩
 .simp at h
theorem VZ {t:TypeId} {s b:Bool} {n:Nat} {v:Value} (h:GJ P t=some s):(Instr.checkKey b (n+1) t v).run P w=.ok () w:=by
 rcases Yu h with ⟨_,k,hk⟩|⟨_,hk⟩
 .simp only [Instr.checkKey,Sem.run_bind,zh hk,Result.andThen_ok];rfl
 .simp only [Instr.checkKey,Sem.run_bind,zh hk,Result.andThen_ok];rfl
theorem R6 {d:TypeDesc} {s b:Bool} {p q:PV} {u v:Value} (hd:(s=false/\∃ k,d=.int k)\/(s=true/\d=.string)) (h:VF s p q=some b) (hu:bK I w p u) (hv:bK I w q v) :
  Instr.sameNow d u v=some b/\(b=true->u=v/\Instr.sameBits 10000 u v=true):=by
 unfold VF at h
 split at h
 .rename_i k x k' y;have e1:=hu.bF;have e2:=hv.bF;subst e1;subst e2
  split at h
  .rename_i hc;obtain ⟨hs,rfl⟩:=hc;rcases hd with ⟨_,j,rfl⟩|⟨h1,_⟩
   .simp at h;subst h
    refine ⟨by simp [Instr.sameNow],fun he=>?_⟩
    have:x=y:=by simpa using he
    subst this;exact ⟨rfl,by simp [Instr.sameBits]⟩
   .rw [hs] at h1;cases h1
  .simp at h
 .rename_i x y;have e1:=hu.jv;have e2:=hv.jv;subst e1;subst e2
  split at h
  .rename_i hs;rcases hd with ⟨h1,_⟩|⟨_,rfl⟩
   .rw [hs] at h1;cases h1
   .simp only [Option.some.injEq] at h;have NZ:(x == y)=b:=by
     rw [<- h];rw [Bool.eq_iff_iff,MapKept.bytes_beq];simp only [beq_iff_eq]
     constructor
     .rintro rfl;rfl
     .intro h
      cases x;cases y
      simp at h;rw [h]
    refine ⟨by simp [Instr.sameNow,NZ],fun he=>?_⟩
    rw [he] at NZ;have:x=y:=(MapKept.bytes_beq x y).1 NZ;subst this;exact ⟨rfl,by simp [Instr.sameBits,(MapKept.bytes_beq x x).2 rfl]⟩
  .simp at h
 .simp at h
def qM (I:Bool->Nat->Prop) (w:World) (es:List (PV×PV)) (ms:List MapEntry):Prop :=
 ms.length=es.length/\∀ (j:Nat) k v m,es[j]?=some (k,v)->ms[j]?=some m->bK I w k m.key/\bK I w v m.val
theorem qM.tail {p:PV×PV} {es:List (PV×PV)} {m:MapEntry} {ms:List MapEntry} (h:qM I w (p::es) (m::ms)):qM I w es ms :=
 ⟨by have:=h.1;simpa using this,fun j k v m' hk hm=>h.2 (j+1) k v m' (by simpa using hk) (by simpa using hm)⟩
theorem qM.head {p:PV×PV} {es:List (PV×PV)} {m:MapEntry} {ms:List MapEntry} (h:qM I w (p::es) (m::ms)):bK I w p.1 m.key/\bK I w p.2 m.val :=
 h.2 0 p.1 p.2 m rfl rfl
theorem qM.cons {k v:PV} {es:List (PV×PV)} {m:MapEntry} {ms:List MapEntry} (h1:bK I w k m.key) (h2:bK I w v m.val) (h:qM I w es ms):qM I w ((k,v)::es) (m::ms) :=
 ⟨by simp [h.1],fun j k' v' m' hk hm=>by
  cases j with
  | zero=>simp at hk hm;obtain ⟨rfl,rfl⟩:=hk;subst hm;exact ⟨h1,h2⟩
  | succ j=>exact h.2 j k' v' m' (by simpa using hk) (by simpa using hm)⟩
theorem zi8 {d:TypeDesc} {s:Bool} {key:PV} {u:Value} (hd:(s=false/\∃ k,d=.int k)\/(s=true/\d=.string)) (hu:bK I w key u) :
  ∀ (es:List (PV×PV)) (ms:List MapEntry) (i:Nat) (r:Option PV),qM I w es ms->P8 s key es=some r ->
   (r=none/\Instr.findNow d u ms i=some none)\/∃ v j val,r=some v/\Instr.findNow d u ms i=some (some (i+j,val))/\bK I w v val
 | [],[],i,r,_,h=>by simp [P8] at h;subst h;exact .inl ⟨rfl,rfl⟩
 | [],_::_,_,_,hm,_=>by have:=hm.1;simp at this
 | _::_,[],_,_,hm,_=>by have:=hm.1;simp at this
 | (k,v)::es,m::ms,i,r,hm,h=>by
  unfold P8 at h;have hh:=hm.head
  split at h
  .rename_i hk;simp at h;subst h
   refine .inr ⟨v,0,m.val,rfl,?_,hh.2⟩
   simp only [Instr.findNow,(R6 hd hk hu hh.1).1,Nat.add_zero]
  .rename_i hk;rcases zi8 hd hu es ms (i+1) r hm.tail h with ⟨h1,h2⟩|⟨v',j,val,h1,h2,h3⟩
   .refine .inl ⟨h1,?_⟩
    simp only [Instr.findNow,(R6 hd hk hu hh.1).1,h2]
   .refine .inr ⟨v',j+1,val,h1,?_,h3⟩
    simp only [Instr.findNow,(R6 hd hk hu hh.1).1,h2]
    congr 3
    omega
  .simp at h
theorem Yv {es:List (PV×PV)} {b n:Nat} (h:vM C I φ w (.jh es) b n):∃ (ms:Array MapEntry) (clock:Nat),w.heap[b]?=some (.map ms clock)/\qM I w es ms.toList:=by
 obtain ⟨ms,ck,h1,h2,h3⟩:=h;exact ⟨ms,ck,h1,by simpa using h2,fun j k v m hk hm=>h3 j k v m hk (by simpa using hm)⟩
theorem zlE {es:List (PV×PV)} {b n clock:Nat} {ms:Array MapEntry} (h1:w.heap[b]?=some (.map ms clock)) (h:qM I w es ms.toList):vM C I φ w (.jh es) b n :=
 ⟨ms,clock,h1,by simpa using h.1,fun j k v m hk hm=>h.2 j k v m hk (by simpa using hm)⟩
theorem zlP {t:TypeId} (aj:o.op=.makeMap t none):jA C S base φ H w (.new (.jh []) fun id=>.lq id) ((execOp a.eval o).run P w):=by
 refine .inl ⟨.map (some w.heap.size),w.alloc (.map #[] 0),?_,w.heap.size,0,(Below.refl _ w).alloc (Nat.le_refl _) _,Nat.le_refl _,by simp,?_,fun I' φ' id au=>.lq id _ _ au⟩
 .simp [execOp,aj,Instr.makeMap,newObj];rfl
 .exact zlE (heap_alloc_new w _) ⟨rfl,fun j k v m hk hm=>by simp at hk⟩
theorem zhW (hH:aS C S base φ H w) (hE:bq (aW S base φ H w) φ w env a) {M K:Operand} {m k:aa} {t:TypeId} {s ok:Bool} {z:PV} (hs:Qc P t=some s) (hz:XU P t=some z) (hm:zD M=some m) (hk:zD K=some k)
  (aj:o.op=.lookup t M K ok) {id:Nat} {key:PV} {es:List (PV×PV)} {r:Option PV} (e1:m.eval env=.lq id) (e2:k.eval env=.pure key) (hg:H.get id=.jh es) (hf:P8 s key es=some r) :
  jA C S base φ H w (.val (.pure (if ok then .aQ [r.getD z,.bool r.isSome] else r.getD z))) ((execOp a.eval o).run P w):=by
 obtain ⟨kt,et,ht,JR⟩:=zhr hs;have hze:VK P et=some z:=by simpa [XU,ht] using hz
 have hM:=zG hE hm;have hK:=zG hE hk;rw [e1] at hM;rw [e2] at hK;obtain ⟨b,n,au,R7⟩:=hM.uz;have ho:=hH.obj _ _ _ au;rw [hg] at ho;obtain ⟨ms,ck,hb,uC⟩:=Yv ho;have hd:∃ d,P.underlying kt=some d/\((s=false/\∃ k,d=.int k)\/(s=true/\d=.string)):=by
  rcases Yu JR with ⟨h1,k,h2⟩|⟨h1,h2⟩
  .exact ⟨_,h2,.inl ⟨h1,k,rfl⟩⟩
  .exact ⟨_,h2,.inr ⟨h1,rfl⟩⟩
 obtain ⟨d,LK,mP⟩:=hd;obtain ⟨zv,VX,hzr⟩:=zqV (I:=aW S base φ H w) (w:=w) hze;have ny:∃ v,(Instr.lookup t (a.eval M) (a.eval K) ok).run P w=.ok v w/\bK (aW S base φ H w) w (if ok then .aQ [r.getD z,.bool r.isSome] else r.getD z) v:=by
  have R8:∀ (v:Value) (x:Bool),bK (aW S base φ H w) w (r.getD z) v->r.isSome=x->bK (aW S base φ H w) w (if ok then .aQ [r.getD z,.bool r.isSome] else r.getD z) (if ok then .tuple #[v,.bool x] else v):=fun v x h1 h2=>by
   cases ok
   .exact h1
   .refine .aQ _ _ rfl fun i p u hp hu=>?_
    cases i with
    | zero=>simp at hp hu;subst hp;subst hu;exact h1
    | succ i =>
     cases i with
     | zero=>simp at hp hu;subst hp;subst hu;rw [h2];exact .bool x
     | succ i=>simp at hp
  rcases zi8 mP hK.aA es ms.toList 0 r uC hf with ⟨h1,h2⟩|⟨v,j,val,h1,h2,h3⟩
  .refine ⟨if ok then .tuple #[zv,.bool false] else zv,?_,R8 zv false (by rw [h1];exact hzr) (by rw [h1];rfl)⟩
   simp only [Instr.lookup,Instr.findKey,Sem.run_bind,zh ht,Result.andThen_ok,R7,MapKept.run_getObj_map hb,VZ JR,zh LK,h2,Sem.run_pure,VX]
  .refine ⟨if ok then .tuple #[val,.bool true] else val,?_,R8 val true (by rw [h1];exact h3) (by rw [h1];rfl)⟩
   simp only [Instr.lookup,Instr.findKey,Sem.run_bind,zh ht,Result.andThen_ok,R7,MapKept.run_getObj_map hb,VZ JR,zh LK,h2,Sem.run_pure,VX]
 obtain ⟨v,vC,fD⟩:=ny
 refine zU (v:=v) ?_ (.pure _ _ fD)
 simp [execOp,aj,vC]
theorem zkt {d:TypeDesc} {s:Bool} {key x:PV} {u xv:Value} (hd:(s=false/\∃ k,d=.int k)\/(s=true/\d=.string)) (hu:bK I w key u) (hx:bK I w x xv) :
  ∀ (es es':List (PV×PV)) (ms:List MapEntry) (i:Nat),qM I w es ms->P9 s key x es=some es' ->
   (Instr.findNow d u ms i=some none/\es'=es++[(key,x)]) \/
   ∃ j v m,Instr.findNow d u ms i=some (some (i+j,v))/\ms[j]?=some m/\m.key=u/\Instr.sameBits 10000 m.key u=true/\qM I w es' (ms.modify j fun e=>{ e with key:=u,val:=xv })
 | [],es',[],i,_,h=>by simp [P9] at h;exact .inl ⟨rfl,h.symm⟩
 | [],_,_::_,_,hm,_=>by have:=hm.1;simp at this
 | _::_,_,[],_,hm,_=>by have:=hm.1;simp at this
 | (k,v)::es,es',m::ms,i,hm,h=>by
  unfold P9 at h;have hh:=hm.head
  split at h
  .rename_i hk;simp at h;subst h;obtain ⟨h1,h2⟩:=R6 hd hk hu hh.1;obtain ⟨h3,h4⟩:=h2 rfl
   refine .inr ⟨0,m.val,m,by simp only [Instr.findNow,h1,Nat.add_zero],rfl,h3.symm,by rw [<- h3] at h4 ⊢;exact h4,?_⟩
   exact .cons hu hx hm.tail
  .rename_i hk;have h1:=(R6 hd hk hu hh.1).1
   split at h
   .rename_i es2 he;simp at h;subst h;rcases zkt hd hu hx es es2 ms (i+1) hm.tail he with ⟨h2,h3⟩|⟨j,v',m',h2,h3,h4,h5,h6⟩
    .refine .inl ⟨by simp only [Instr.findNow,h1,h2],by rw [h3];rfl⟩
    .refine .inr ⟨j+1,v',m',?_,by simpa using h3,h4,h5,?_⟩
     .simp only [Instr.findNow,h1,h2]
      congr 3
      omega
     .exact .cons hh.1 hh.2 h6
   .simp at h
  .simp at h
theorem zkg (hH:aS C S base φ H w) {id b n clock:Nat} {es es':List (PV×PV)} {ms ms':Array MapEntry} {clock':Nat} (au:φ id=some (b,n)) (hg:H.get id=.jh es) (hb:w.heap[b]?=some (.map ms clock))
  (h:qM (aW S base φ H w) w es' ms'.toList) :
  ∃ w',(setObj b (.map ms' clock')).run P w=.ok () w'/\ig φ H w φ (H.set id (.jh es')) w'/\aS C S base φ (H.set id (.jh es')) w':=by
 refine ⟨_,MapKept.run_setObj_map _ hb,?_⟩
 obtain ⟨h1,h2⟩:=MapKept.heap_set (w:=w) (o':=.map ms' clock') hb
 refine hH.write au (by rw [hg];rfl) rfl rfl rfl (by simp) h2 (zlE h1 ?_)
 have EU:∀ k c,aW S base φ H w k c->c≠b:=fun k c hc e=>hc.2.2 ⟨id,n,e ▸ au,by rw [hg];rfl⟩;exact ⟨h.1,fun j k v m hk hm=>⟨(h.2 j k v m hk hm).1.mono fun k c hc=>⟨hc,h2 c (EU k c hc)⟩,(h.2 j k v m hk hm).2.mono fun k c hc=>⟨hc,h2 c (EU k c hc)⟩⟩⟩
theorem zio (hH:aS C S base φ H w) (hE:bq (aW S base φ H w) φ w env a) {M K X:Operand} {m k x:aa} {t:TypeId} {s:Bool} (hs:Qc P t=some s) (hm:zD M=some m) (hk:zD K=some k) (hx:zD X=some x)
  (aj:o.op=.mapUpdate t M K X\/o.op=.insert t M K X) {id:Nat} {key v:PV} {es es':List (PV×PV)} (e1:m.eval env=.lq id) (e2:k.eval env=.pure key) (e3:x.eval env=.pure v) (hg:H.get id=.jh es) (hf:P9 s key v es=some es') :
  jA C S base φ H w (.upd (.aQ []) (H.set id (.jh es'))) ((execOp a.eval o).run P w):=by
 obtain ⟨kt,et,ht,JR⟩:=zhr hs;have hM:=zG hE hm;have hK:=zG hE hk;have hX:=zG hE hx;rw [e1] at hM;rw [e2] at hK;rw [e3] at hX;obtain ⟨b,n,au,R7⟩:=hM.uz;have ho:=hH.obj _ _ _ au;rw [hg] at ho;obtain ⟨ms,ck,hb,uC⟩:=Yv ho;have hd:∃ d,P.underlying kt=some d/\((s=false/\∃ k,d=.int k)\/(s=true/\d=.string)):=by
  rcases Yu JR with ⟨h1,k,h2⟩|⟨h1,h2⟩
  .exact ⟨_,h2,.inl ⟨h1,k,rfl⟩⟩
  .exact ⟨_,h2,.inr ⟨h1,rfl⟩⟩
 obtain ⟨d,LK,mP⟩:=hd;have ny:∃ w',(Instr.mapUpdate t (a.eval M) (a.eval K) (a.eval X)).run P w=.ok () w'/\ig φ H w φ (H.set id (.jh es')) w'/\aS C S base φ (H.set id (.jh es')) w':=by
  rcases zkt mP hK.aA hX.aA es es' ms.toList 0 uC hf with ⟨h1,h2⟩|⟨j,v',m',h1,h2,h3,h4,h5⟩
  .subst h2;obtain ⟨w',g1,g2⟩:=zkg (C:=C) (P:=P) (es':=es++[(key,v)]) (ms':=ms.push { key:=a.eval K,val:=a.eval X,born:=ck }) (clock':=ck+1) hH au hg hb
    ⟨by have:=uC.1;simp at this ⊢;exact this,fun j k' v' m hk hm=>by
     have hl:=uC.1
     by_cases hj:j < es.length
     .rw [List.getElem?_append_left hj] at hk;rw [Array.toList_push,List.getElem?_append_left (by omega)] at hm;exact uC.2 j k' v' m hk hm
     .rw [List.getElem?_append_right (by omega)] at hk;rw [Array.toList_push,List.getElem?_append_right (by omega),hl] at hm
      cases F7:j - es.length with
      | zero=>rw [F7] at hk hm;simp at hk hm;obtain ⟨rfl,rfl⟩:=hk;subst hm;exact ⟨hK.aA,hX.aA⟩
      | succ i=>rw [F7] at hk;simp at hk⟩
   refine ⟨w',?_,g2⟩
   simp only [Instr.mapUpdate,Instr.findKey,Sem.run_bind,zh ht,Result.andThen_ok,R7,MapKept.run_getObj_map hb,VZ JR,zh LK,h1,Sem.run_pure,g1]
  .obtain ⟨w',g1,g2⟩:=zkg (C:=C) (P:=P) (es':=es') (ms':=ms.modify j fun e=>{ e with key:=a.eval K,val:=a.eval X }) (clock':=ck) hH au hg hb (by rw [Array.toList_modify];exact h5)
   refine ⟨w',?_,g2⟩
   have hmj:ms[j]?=some m':=by simpa using h2
   simp only [Instr.mapUpdate,Instr.findKey,Sem.run_bind,zh ht,Result.andThen_ok,R7,MapKept.run_getObj_map hb,VZ JR,zh LK,h1,Sem.run_pure,Nat.zero_add,hmj,Option.map_some,Option.getD_some,Instr.keyThatStays,h4,if_true,g1]
 obtain ⟨w',g1,g2,g3⟩:=ny
 refine .inr ⟨w',?_,φ,g2,g3,.aQ [] #[] rfl fun i p v h=>by simp at h⟩
 rcases aj with aj|aj<;>simp [execOp,aj,g1]
theorem zm2 (hH:aS C S base φ H w) (hE:bq (aW S base φ H w) φ w env a) {X:Operand} {x:aa} {t kt et:TypeId} {c:Call} (hx:zD X=some x) (ht:P.underlying t=some (.map kt et))
  (aj:o.op=.call c) (hc:c.callee=.builtin .len) (h1:c.args.toList=[X]) (h2:c.argTypes.toList=[t]) {id:Nat} {es:List (PV×PV)} (e1:x.eval env=.lq id) (hg:H.get id=.jh es) :
  jA C S base φ H w (.val (.pure (.int .i64 es.length))) ((execOp a.eval o).run P w):=by
 have hX:=zG hE hx;rw [e1] at hX;obtain ⟨b,n,au,hXv⟩:=hX.uz;have ho:=hH.obj _ _ _ au;rw [hg] at ho;obtain ⟨ms,ck,hb,uC⟩:=Yv ho;have ha:c.args=#[X]:=by rw [<- h1]
 have jR:c.argTypes=#[t]:=by rw [<- h2]
 have bZ:ms.size=es.length:=by have:=uC.1;simpa using this
 refine zU (v:=goInt es.length) ?_ (.pure _ _ (.int ..))
 simp only [execOp,aj,resolve,hc,invoke,builtin,ha,jR,Sem.run_bind,Sem.run_pure,Result.andThen_ok,List.map_toArray,List.map_cons,List.map_nil,Builtin.len_,List.getElem?_toArray,List.getElem?_cons_zero,zh ht,hXv,MapKept.run_getObj_map hb,bZ]
end
theorem N7 {α:Type} (sz:Nat):∀ (n:Nat) (l:List α) (i:Nat) (e:List α),(chunks sz n l)[i]?=some e->i < n/\e=(l.drop (i*sz)).take sz
 | 0,l,i,e,h=>by simp [chunks] at h
 | n+1,l,i,e,h=>by
  cases i with
  | zero=>simp [chunks] at h;exact ⟨by omega,by simp [h]⟩
  | succ i =>
   simp [chunks] at h;obtain ⟨h1,h2⟩:=N7 sz n _ i e h
   refine ⟨by omega,?_⟩
   rw [h2,List.drop_drop]
   congr 2
   rw [Nat.add_mul];omega
theorem V3 {α:Type} (sz:Nat):∀ (n:Nat) (l:List α),(chunks sz n l).length=n
 | 0,l=>rfl
 | n+1,l=>by simp [chunks,V3 sz n]
section
variable {C:jH} {P:Program} {S:Bool->Nat->Prop} {base:Nat} {φ:jO} {H:Heap} {w:World} {env:Env} {a:Act} {e:Eff} {o:Oper} {I:Bool->Nat->Prop}
theorem LZ {J:Bool->Nat->Prop} {k:Bool} {fr:AV->Option (PV×List Nat)} (qE:∀ av p ids v,fr av=some (p,ids)->aG I φ w av v->(∀ id∈ids,∀ b n,φ id=some (b,n)->J k b)->bK J w p v) :
  ∀ {cs:List AV} {ps:List PV} {ids:List Nat} {vs:List Value},zS fr cs=some (ps,ids)->aC I φ w cs vs->(∀ id∈ids,∀ b n,φ id=some (b,n)->J k b) ->
   ps.length=vs.length/\∀ (i:Nat) p v,ps[i]?=some p->vs[i]?=some v->bK J w p v
 | [],ps,ids,vs,h,hr,hJ=>by
  simp [zS] at h;obtain ⟨rfl,rfl⟩:=h;rw [hr.nk];exact ⟨rfl,fun i p v h=>by simp at h⟩
 | c::cs,ps,ids,vs,h,hr,hJ=>by
  obtain ⟨v,vs',rfl,h1,h2⟩:=hr.cons_inv;unfold zS at h
  split at h
  .simp at h
  .rename_i p is hp
   split at h
   .simp at h
   .rename_i qs js hq;simp at h;obtain ⟨rfl,rfl⟩:=h;have ih:=LZ qE hq h2 fun id au=>hJ id (List.mem_append_right _ au)
    refine ⟨by simp [ih.1],fun i q u Qn hu=>?_⟩
    cases i with
    | zero =>
     simp at Qn hu;subst Qn;subst hu;exact qE c _ is _ hp h1 fun id au=>hJ id (List.mem_append_left _ au)
    | succ i=>simp at Qn hu;exact ih.2 i q u Qn hu
theorem ziD (hH:aS C S base φ H w) {k:Bool} {J:Bool->Nat->Prop} (L6:∀ k b,aW S base φ H w k b->J k b):∀ (n:Nat) (av:AV) (p:PV) (ids:List Nat) (v:Value),freeze H k n av=some (p,ids)->aG (aW S base φ H w) φ w av v ->
  (∀ id∈ids,∀ b n,φ id=some (b,n)->J k b)->bK J w p v:=by
 intro n
 induction n with
 | zero=>intro av p ids v h;simp [freeze] at h
 | succ n ih =>
  intro av p ids v h hv hJ;unfold freeze at h
  split at h
  .simp at h;obtain ⟨rfl,rfl⟩:=h;exact hv.aA.mono fun k b hb=>⟨L6 k b hb,rfl⟩
  .split at h
   .rename_i cs ps is hf;simp at h;obtain ⟨rfl,rfl⟩:=h
    cases hv with
    | agg _ vs hl hr =>
     have:=LZ ih hf (aC.rO hl hr) hJ;exact .agg _ vs (by simpa using this.1) fun i p v hp hv=>this.2 i p v hp (by simpa using hv)
   .simp at h
  .split at h
   .rename_i cs ps is hf;simp at h;obtain ⟨rfl,rfl⟩:=h
    cases hv with
    | aQ _ vs hl hr =>
     have:=LZ ih hf (aC.rO hl hr) hJ;exact .aQ _ vs (by simpa using this.1) fun i p v hp hv=>this.2 i p v hp (by simpa using hv)
   .simp at h
  .split at h
   .rename_i f cs ps is hf;simp at h;obtain ⟨rfl,rfl⟩:=h
    cases hv with
    | func _ _ vs hl hr =>
     have:=LZ ih hf (aC.rO hl hr) hJ;exact .func _ _ vs (by simpa using this.1) fun i p v hp hv=>this.2 i p v hp (by simpa using hv)
   .simp at h
  .rename_i id off
   split at h
   .rename_i own cs hg
    split at h
    .rename_i ps is hf;simp at h;obtain ⟨rfl,rfl⟩:=h;obtain ⟨b,m,au,rfl⟩:=hv.l7;have ho:=hH.obj _ _ _ au;rw [hg] at ho;obtain ⟨c,t,fz,h1,h2,h3,h4,h5⟩:=ho;have hr:aC (aW S base φ H w) φ w cs (c.toList.take cs.length):=⟨by simp;omega,fun i p u hp hu=>by
      have hi:i < cs.length:=(List.getElem?_eq_some_iff.1 hp).1;rw [List.getElem?_take_of_lt hi] at hu;exact h5 i p u hp (by simpa using hu)⟩
     have:=LZ ih hf hr fun id au=>hJ id (List.mem_cons_of_mem _ au);have hlen:ps.length=cs.length:=by have:=this.1;simp at this;omega
     have bf:∀ (j:Nat) p,ps[j]?=some p->∃ hj:j < c.size,(c.toList.take cs.length)[j]?=some c[j]:=fun j p hp=>by
      have hj:j < ps.length:=(List.getElem?_eq_some_iff.1 hp).1
      refine ⟨by omega,?_⟩
      rw [List.getElem?_take_of_lt (by omega),Array.getElem?_toList,Array.getElem?_eq_getElem]
     refine .ptr k ps off b 0 off (fun j=>c.getD j undef) (by omega) (fun j p hp=>⟨hJ id (List.mem_cons_self ..) b m au,?_⟩) fun j p hp=>?_
     .obtain ⟨hj,_⟩:=bf j p hp;simp [World.cell?,h1,hj]
     .obtain ⟨hj,hu⟩:=bf j p hp;have:=this.2 j p _ hp hu
      simpa [hj] using this
    .simp at h
   .simp at h
  .rename_i id sz off len
   split at h
   .rename_i own cs hg
    split at h
    .rename_i ps is hf
     split at h
     .rename_i hlen;simp at h;obtain ⟨rfl,rfl⟩:=h;obtain ⟨b,m,cap,au,rfl,vR,uE⟩:=hv.iY;have ho:=hH.obj _ _ _ au;rw [hg] at ho;obtain ⟨c,t,fz,h1,h2,h3,h4,h5⟩:=ho;have hr:aC (aW S base φ H w) φ w ((cs.drop (off*sz)).take (len*sz)) (((c.toList.take cs.length).drop (off*sz)).take (len*sz)):=by
       refine (aC.drop ?_ _).take _
       exact ⟨by simp;omega,fun i p u hp hu=>by
        have hi:i < cs.length:=(List.getElem?_eq_some_iff.1 hp).1;rw [List.getElem?_take_of_lt hi] at hu;exact h5 i p u hp (by simpa using hu)⟩
      have:=LZ ih hf hr fun id au=>hJ id (List.mem_cons_of_mem _ au);have vT:off*sz+len*sz<=cs.length\/len*sz=0:=by
       have h7:=this.1;simp at h7;omega
      have bf:∀ (i:Nat) e (j:Nat) p,(chunks sz len ps)[i]?=some e->e[j]?=some p->ps[i*sz+j]?=some p/\i*sz+j < len*sz:=fun i e j p he hp=>by
       obtain ⟨hi,rfl⟩:=N7 sz len ps i e he;have hj:j < sz:=by have:=(List.getElem?_eq_some_iff.1 hp).1;simp at this;omega
       rw [List.getElem?_take_of_lt hj,List.getElem?_drop] at hp
       refine ⟨hp,?_⟩
       have:=(List.getElem?_eq_some_iff.1 hp).1;omega
      have fe:∀ k,k < len*sz->∃ hk:off*sz+k < c.size,(((c.toList.take cs.length).drop (off*sz)).take (len*sz))[k]?=some c[off*sz+k]:=fun k hk=>by
       refine ⟨by omega,?_⟩
       rw [List.getElem?_take_of_lt hk,List.getElem?_drop,List.getElem?_take_of_lt (by omega),Array.getElem?_toList,Array.getElem?_eq_getElem]
      refine .slice k sz _ b (off*sz) len cap (fun i j=>c.getD (off*sz+(i*sz+j)) undef) (V3 _ _ _) vR (fun i e he=>?_) (fun i e j p he hp=>⟨hJ id (List.mem_cons_self ..) b m au,?_⟩) fun i e j p he hp=>?_
      .obtain ⟨hi,rfl⟩:=N7 sz len ps i e he;have:(i+1)*sz<=len*sz:=Nat.mul_le_mul_right _ hi;rw [Nat.add_mul] at this;simp;omega
      .obtain ⟨G7,sj⟩:=bf i e j p he hp;obtain ⟨hk,_⟩:=fe _ sj;simp [World.cell?,h1,Nat.add_assoc,hk]
      .obtain ⟨G7,sj⟩:=bf i e j p he hp;obtain ⟨hk,hu⟩:=fe _ sj;have:=this.2 _ p _ G7 hu
       simpa [hk] using this
     .simp at h
    .simp at h
   .simp at h
  .rename_i id sz off len
   split at h
   .rename_i own cs hg
    split at h
    .rename_i ps is hf
     split at h
     .rename_i hlen;simp at h;obtain ⟨rfl,rfl⟩:=h;obtain ⟨b,m,au,rfl⟩:=hv.yw;have ho:=hH.obj _ _ _ au;rw [hg] at ho;obtain ⟨c,t,fz,h1,h2,h3,h4,h5⟩:=ho;have hr:aC (aW S base φ H w) φ w ((cs.drop (off*sz)).take (len*sz)) (((c.toList.take cs.length).drop (off*sz)).take (len*sz)):=by
       refine (aC.drop ?_ _).take _
       exact ⟨by simp;omega,fun i p u hp hu=>by
        have hi:i < cs.length:=(List.getElem?_eq_some_iff.1 hp).1;rw [List.getElem?_take_of_lt hi] at hu;exact h5 i p u hp (by simpa using hu)⟩
      have:=LZ ih hf hr fun id au=>hJ id (List.mem_cons_of_mem _ au);have vT:off*sz+len*sz<=cs.length\/len*sz=0:=by
       have h7:=this.1;simp at h7;omega
      have bf:∀ (i:Nat) e (j:Nat) p,(chunks sz len ps)[i]?=some e->e[j]?=some p->ps[i*sz+j]?=some p/\i*sz+j < len*sz:=fun i e j p he hp=>by
       obtain ⟨hi,rfl⟩:=N7 sz len ps i e he;have hj:j < sz:=by have:=(List.getElem?_eq_some_iff.1 hp).1;simp at this;omega
       rw [List.getElem?_take_of_lt hj,List.getElem?_drop] at hp
       refine ⟨hp,?_⟩
       have:=(List.getElem?_eq_some_iff.1 hp).1;omega
      have fe:∀ k,k < len*sz->∃ hk:off*sz+k < c.size,(((c.toList.take cs.length).drop (off*sz)).take (len*sz))[k]?=some c[off*sz+k]:=fun k hk=>by
       refine ⟨by omega,?_⟩
       rw [List.getElem?_take_of_lt hk,List.getElem?_drop,List.getElem?_take_of_lt (by omega),Array.getElem?_toList,Array.getElem?_eq_getElem]
      refine .slice k sz _ b (off*sz) len len (fun i j=>c.getD (off*sz+(i*sz+j)) undef) (V3 _ _ _) (Nat.le_refl _) (fun i e he=>?_) (fun i e j p he hp=>⟨hJ id (List.mem_cons_self ..) b m au,?_⟩) fun i e j p he hp=>?_
      .obtain ⟨hi,rfl⟩:=N7 sz len ps i e he;have:(i+1)*sz<=len*sz:=Nat.mul_le_mul_right _ hi;rw [Nat.add_mul] at this;simp;omega
      .obtain ⟨G7,sj⟩:=bf i e j p he hp;obtain ⟨hk,_⟩:=fe _ sj;simp [World.cell?,h1,Nat.add_assoc,hk]
      .obtain ⟨G7,sj⟩:=bf i e j p he hp;obtain ⟨hk,hu⟩:=fe _ sj;have:=this.2 _ p _ G7 hu
       simpa [hk] using this
     .simp at h
    .simp at h
   .simp at h
  .simp at h
theorem zqn {I':Bool->Nat->Prop} {w':World} (hI:∀ b,I false b->I' false b/\w'.heap[b]?=w.heap[b]?):∀ (n:Nat) {p:PV} {v:Value},p.iT n=true->bK I w p v->bK I' w' p v:=by
 intro n
 induction n with
 | zero=>intro p v hf;simp [PV.iT] at hf
 | succ n ih =>
  intro p v hf h
  cases h with
  | int=>exact .int ..
  | bool=>exact .bool ..
  | str=>exact .str ..
  | nils=>exact .nils
  | mD=>exact .mD
  | mE=>exact .mE
  | agg cs vs hl h=>exact .agg cs vs hl fun i p v hp hv=>ih (List.all_eq_true.1 hf p (List.mem_of_getElem? hp)) (h i p v hp hv)
  | aQ cs vs hl h=>exact .aQ cs vs hl fun i p v hp hv=>ih (List.all_eq_true.1 hf p (List.mem_of_getElem? hp)) (h i p v hp hv)
  | func f cs vs hl h=>exact .func f cs vs hl fun i p v hp hv=>ih (List.all_eq_true.1 hf p (List.mem_of_getElem? hp)) (h i p v hp hv)
  | lQ f cs vs hl h=>exact .lQ f cs vs hl fun i p v hp hv=>ih (List.all_eq_true.1 hf p (List.mem_of_getElem? hp)) (h i p v hp hv)
  | slice k sz es b o len cap val hlen hc hz hm h =>
   simp only [PV.iT,Bool.or_eq_true,Bool.and_eq_true,Bool.not_eq_true'] at hf;rcases hf with hf|⟨rfl,hf⟩
   .have:es=[]:=by simpa using hf
    subst this;exact .slice k sz [] b o len cap val hlen hc (fun i e he=>by simp at he) (fun i e j p he=>by simp at he) (fun i e j p he=>by simp at he)
   .refine .slice false sz es b o len cap val hlen hc hz (fun i e j p he hp=>?_) fun i e j p he hp=>?_
    .obtain ⟨h1,h2⟩:=hm i e j p he hp;exact ⟨(hI _ h1).1,(World.cell?_of_block (a:=⟨b,o+i*sz+j,none⟩) (hI _ h1).2).trans h2⟩
    .exact ih (List.all_eq_true.1 (List.all_eq_true.1 hf e (List.mem_of_getElem? he)) p (List.mem_of_getElem? hp)) (h i e j p he hp)
  | ptr k cs off b o o' val ho hm h =>
   simp only [PV.iT,Bool.and_eq_true,Bool.not_eq_true'] at hf;obtain ⟨rfl,hf⟩:=hf
   refine .ptr false cs off b o o' val ho (fun j p hp=>?_) fun j p hp=>?_
   .obtain ⟨h1,h2⟩:=hm j p hp;exact ⟨(hI _ h1).1,(World.cell?_of_block (a:=⟨b,o+j,none⟩) (hI _ h1).2).trans h2⟩
   .exact ih (List.all_eq_true.1 hf p (List.mem_of_getElem? hp)) (h j p hp)
theorem zrV {I':Bool->Nat->Prop} {w':World} (hI:∀ b,I false b->I' false b/\w'.heap[b]?=w.heap[b]?) {p:PV} {v:Value} (hf:p.cold=true) (h:bK I w p v):bK I' w' p v :=
 zqn hI _ hf h
def Fw (ro:Option Nat):Fence:={ Fence.wide with round:=ro }
def G8 (P : Program) (f : FuncId) : Prop := ∃ fn, P.funcs[f]? = some fn /\ fn.body.isNone = false /\ (fn.name == "runtime.NumGoroutine") = false
def l8 (I:Bool->Nat->Prop) (w:World) (ps:List PV) (vs:List Value):Prop:=ps.length=vs.length/\∀ (i:Nat) p v,ps[i]?=some p->vs[i]?=some v->bK I w p v
def V7 (P:Program) (f:FuncId) (ps:List PV) (r:PV):Prop :=
 G8 P f/\∀ (n:Nat) (S':Bool->Nat->Prop) (w:World) (vals:List Value),(∀ k b,S' k b->b < w.heap.size)->l8 S' w ps vals ->
  CallsIn Fence.wide n P f vals.toArray w fun e w'=>∃ v,e=.returned v/\Below w.heap.size w w'/\bK (fun k b=>(S' k b\/w.heap.size<=b)/\b < w'.heap.size) w' r v
def R9 (C:jH) (P:Program) (f:FuncId) (xs:List AV) (H:Heap) (r:AV) (H':Heap):Prop :=
 G8 P f/\∀ (n:Nat) (S:Bool->Nat->Prop) (base:Nat) (φ:jO) (w:World) (vals:List Value),aS C S base φ H w->aC (aW S base φ H w) φ w xs vals ->
  CallsIn Fence.wide n P f vals.toArray w fun e w'=>∃ v φ',e=.returned v/\ig φ H w φ' H' w'/\aS C S base φ' H' w'/\aG (aW S base φ' H' w') φ' w' r v
def zo5 (C:jH) (P:Program) (id:Nat) (xs:List AV) (H:Heap) (r:AV) (H':Heap):Prop :=
 ∀ (n:Nat) (S:Bool->Nat->Prop) (base:Nat) (φ:jO) (w:World) (b m:Nat) (vals:List Value),φ id=some (b,m)->aS C S base φ H w->aC (aW S base φ H w) φ w xs vals ->
  ∃ l:Loop,w.heap[b]?=some (.loop l)/\vals.length=l.params.size /\
   RoundIn Fence.wide n P b l.fn ((l.params.zip vals.toArray).foldl (fun tmps (x:Tmp×Value)=>tmps.setIfInBounds x.1 x.2) l.tmps) l.assign l.body w
    fun e w'=>∃ v φ',e=.returned v/\ig φ H w φ' H' w'/\aS C S base φ' H' w'/\aG (aW S base φ' H' w') φ' w' r v
structure bI (C:jH) (P:Program) (cl:Callee):Prop where
 pure:∀ f ps r,cl.pure f ps=some r->V7 P f ps r
 run:∀ f xs H r H',cl.run f xs H=some (r,H')->R9 C P f xs H r H'
 yield:∀ id xs H r H',cl.yield id xs H=some (r,H')->zo5 C P id xs H r H'
theorem zgx {f:FuncId} (hf:G8 P f) (args:Array Value):(callFunc f args).run P w=.ok (.enter f args) w:=by
 obtain ⟨fn,h1,h2,h3⟩:=hf;simp only [callFunc,Sem.run_bind,run_program,Result.andThen_ok,h1,h2,h3,Bool.false_eq_true,if_false,Sem.run_pure]
theorem zj5 {c:Call} {g:Operand} {f:FuncId} {first caps:Array Value} (aj:o.op=.call c) (hc:c.callee=.value g) (hg:a.eval g=.func (.func f) first caps) (hf:G8 P f) :
  (execOp a.eval o).run P w=.ok (.enter f (first++c.args.map a.eval++caps)) w:=by
 simp only [execOp,aj,resolve,hc,hg,Deferred.ofValue,Sem.run_bind,Sem.run_pure,Result.andThen_ok,invoke];rw [zgx hf]
variable {ro:Option Nat} {n:Nat} {K:Act->World->Prop} {Q:Exit->Act->World->Prop}
theorem zmg {f:FuncId} {args:Array Value} (Bz:∀ c,o.op≠.defer c) (hr:(execOp a.eval o).run P w=.ok (.enter f args) w)
  (h:CallsIn Fence.wide (n - 1) P f args w fun e w'=>∃ v,e=.returned v/\K (a.put o.dst v) w'):o.wpIn (Fw ro) n P a w K Q:=by
 refine ⟨fun _ _=>trivial,?_⟩
 rw [Oper.semAt_eq _ _ _ Bz,hr,Oper.uponIn_enter]
 refine ⟨fun hd=>by simp [Fw,Fence.wide] at hd,?_⟩
 have:=CallsIn.mono h (R':=fun
  | .returned v,w''=>K (a.put o.dst v) w''
  | .panicked chain,w''=>Q (.panic chain) a w''
  | .outgrown,_=>LetsOut Q) fun e w' ⟨v,he,hk⟩=>by subst he;exact hk
 exact this
theorem zrS (Bz:∀ c,o.op≠.defer c) (hr:jA C S base φ H w e ((execOp a.eval o).run P w)) (h:∀ v w',GM C S base φ H w e v w'->K (a.put o.dst v) w'):o.wpIn (Fw ro) n P a w K Q:=by
 refine ⟨fun _ _=>trivial,?_⟩
 rw [Oper.semAt_eq _ _ _ Bz];rcases hr with ⟨v,w',hr,hp⟩|⟨w',hr,hp⟩
 .rw [hr,Oper.uponIn_value];exact h v w' hp
 .rw [hr,Oper.uponIn_skip];exact h _ w' hp
theorem aW.of_below {w':World} (hH:aS C S base φ H w) (hb:Below w.heap.size w w') {k:Bool} {b:Nat} (h:(aW S base φ H w k b\/w.heap.size<=b)/\b < w'.heap.size):aW S base φ H w' k b:=by
 obtain ⟨h1|h1,h2⟩:=h
 .exact ⟨h1.1,h2,h1.2.2⟩
 .refine ⟨.inr (Nat.le_trans hH.sz h1),h2,?_⟩
  rintro ⟨id,m,au,_⟩;have:=(hH.lt _ _ _ au).2;omega
theorem zn1 (hH:aS C S base φ H w) {ids:List Nat} {k:Bool} {id b m:Nat} (o9:id∈ids) (au:φ id=some (b,m)) (hc:∃ own cs,H.get id=.cells own cs):aW S base φ (H.freeze ids) w k b:=by
 obtain ⟨own,cs,hg⟩:=hc
 refine ⟨.inr (hH.lt _ _ _ au).1,(hH.lt _ _ _ au).2,?_⟩
 rintro ⟨id',m',xB,hl⟩;have bf:∀ i,(H.freeze ids).get i=if ids.contains i then (H.get i).freeze else H.get i:=fun i=>zh9 ids
 have hd:(H.get id).fM=false:=by rw [hg];rfl
 have qO:(H.get id').fM=false:=by
  rw [bf] at hl
  cases hq:H.get id'<;>rw [hq] at hl
  .exfalso
   split at hl<;>simp [aU.freeze,aU.live] at hl
  .rfl
  .rfl
  .rfl
  .rfl
 have:=hH.inj _ _ _ _ _ xB au qO hd;subst this;rw [bf,if_pos (by simpa using o9),hg] at hl;simp [aU.freeze,aU.live] at hl
theorem L8 {fr:AV->Option (PV×List Nat)} (qE:∀ av p ids,fr av=some (p,ids)->∀ id∈ids,∃ own cs,H.get id=.cells own cs):∀ {cs:List AV} {ps:List PV} {ids:List Nat},zS fr cs=some (ps,ids)->∀ id∈ids,∃ own cs,H.get id=.cells own cs
 | [],ps,ids,h=>by simp [zS] at h;obtain ⟨_,rfl⟩:=h;simp
 | c::cs,ps,ids,h=>by
  unfold zS at h
  split at h
  .simp at h
  .rename_i p is hp
   split at h
   .simp at h
   .rename_i qs js hq;simp at h;obtain ⟨_,rfl⟩:=h;intro id au;rcases List.mem_append.1 au with h1|h1
    .exact qE _ _ _ hp id h1
    .exact L8 qE hq id h1
theorem znY {k:Bool}:∀ (n:Nat) (av:AV) (p:PV) (ids:List Nat),freeze H k n av=some (p,ids)->∀ id∈ids,∃ own cs,H.get id=.cells own cs:=by
 intro n
 induction n with
 | zero=>intro av p ids h;simp [freeze] at h
 | succ n ih =>
  intro av p ids h;unfold freeze at h
  split at h
  .simp at h;obtain ⟨_,rfl⟩:=h;simp
  .split at h
   .rename_i hf;simp at h;obtain ⟨_,rfl⟩:=h;exact L8 ih hf
   .simp at h
  .split at h
   .rename_i hf;simp at h;obtain ⟨_,rfl⟩:=h;exact L8 ih hf
   .simp at h
  .split at h
   .rename_i hf;simp at h;obtain ⟨_,rfl⟩:=h;exact L8 ih hf
   .simp at h
  .split at h
   .rename_i own cs hg
    split at h
    .rename_i hf;simp at h;obtain ⟨_,rfl⟩:=h;intro id au;rcases List.mem_cons.1 au with rfl|h1
     .exact ⟨_,_,hg⟩
     .exact L8 ih hf id h1
    .simp at h
   .simp at h
  .split at h
   .rename_i own cs hg
    split at h
    .rename_i hf
     split at h
     .simp at h;obtain ⟨_,rfl⟩:=h;intro id au;rcases List.mem_cons.1 au with rfl|h1
      .exact ⟨_,_,hg⟩
      .exact L8 ih hf id h1
     .simp at h
    .simp at h
   .simp at h
  .split at h
   .rename_i own cs hg
    split at h
    .rename_i hf
     split at h
     .simp at h;obtain ⟨_,rfl⟩:=h;intro id au;rcases List.mem_cons.1 au with rfl|h1
      .exact ⟨_,_,hg⟩
      .exact L8 ih hf id h1
     .simp at h
    .simp at h
   .simp at h
  .simp at h
def Sd (S:Bool->Nat->Prop) (base:Nat) (φ:jO) (H:Heap) (ids:List Nat) (w:World):Bool->Nat->Prop
 | true=>aW S base φ (H.freeze ids) w true
 | false=>aW S base φ H w false
theorem zsd {S:Bool->Nat->Prop} {ids:List Nat} {k:Bool} {b:Nat} (h:Sd S base φ H ids w k b):b < w.heap.size:=by
 cases k<;>exact h.2.1
theorem ziU {cl:Callee} (fJ:bI C P cl) (hH:aS C S base φ H w) {c:Call} {g:Operand} {f:FuncId} {ou:List AV} {xC:Array Value} {caps:List AV} {lG:Array Value} {args:List AV} (aj:o.op=.call c) (hc:c.callee=.value g)
  (hg:a.eval g=.func (.func f) xC lG) (uH:aC (aW S base φ H w) φ w ou xC.toList) (yZ:aC (aW S base φ H w) φ w caps lG.toList) (wU:aC (aW S base φ H w) φ w args (c.args.toList.map a.eval))
  (h:(if cl.shared f then
    match cl.run f (ou++(args++caps)) H with
    | some (v,H')=>some (.upd v H')
    | none=>none
   else
    match zS (freeze H true qw) (ou++(args++caps)) with
    | none=>none
    | some (ps,ids) =>
     match cl.pure f ps with
     | none=>none
     | some r=>if ids.isEmpty||r.cold then some (.val (.pure r)) else some (.upd (.pure r) (H.freeze ids)):Option Eff)=some e)
  (hK:∀ v w',GM C S base φ H w e v w'->K (a.put o.dst v) w'):o.wpIn (Fw ro) n P a w K Q:=by
 have Bz:∀ c,o.op≠.defer c:=fun c' h=>by rw [aj] at h;cases h
 have fq:=uH.append (wU.append yZ);have Eg:(xC.toList++(c.args.toList.map a.eval++lG.toList)).toArray=xC++c.args.map a.eval++lG:=by
  apply Array.ext';simp
 split at h
 ·-- with the caller's memory
  split at h
  .rename_i v H' hr;simp at h;subst h;obtain ⟨hf,bP⟩:=fJ.run _ _ _ _ _ hr
   refine zmg Bz (zj5 aj hc hg hf) ?_
   rw [<- Eg]
   refine (bP (n - 1) S base φ w _ hH fq).mono ?_
   rintro e w' ⟨v,φ',rfl,h1,h2,h3⟩;exact ⟨v,rfl,hK v w' ⟨φ',h1,h2,h3⟩⟩
  .simp at h
 ·-- on data
  split at h
  .simp at h
  .rename_i ps ids RP
   split at h
   .simp at h
   .rename_i r hr;obtain ⟨hf,bP⟩:=fJ.pure _ _ _ hr;have qP:=hH.freeze ids;have hJ:∀ id∈ids,∀ b n,φ id=some (b,n)->Sd S base φ H ids w true b:=fun id au b m hb =>
     zn1 hH au hb (L8 (znY qw) RP id au)
    have L6:∀ k b,aW S base φ H w k b->Sd S base φ H ids w k b:=fun k b hb=>by
     cases k with
     | true=>exact (qP.1.DZ hb).1
     | false=>exact hb
    have vD:=LZ (J:=Sd S base φ H ids w) (fun av p Yw v h1 h2 h3=>ziD hH L6 qw av p Yw v h1 h2 h3) RP fq hJ
    refine zmg Bz (zj5 aj hc hg hf) ?_
    rw [<- Eg]
    refine (bP (n - 1) (Sd S base φ H ids w) w _ (fun k b hb=>zsd hb) vD).mono ?_
    rintro e' w' ⟨v,rfl,hb,Cm⟩
    refine ⟨v,rfl,hK v w' ?_⟩
    split at h
    .rename_i aH;simp at h;subst h
     refine ⟨hb,.pure _ _ ?_⟩
     simp only [Bool.or_eq_true] at aH;rcases aH with Ce|Si
     .have jk:ids=[]:=by simpa using Ce
      subst jk;have Yx:H.freeze []=H:=by cases H;rfl
      refine Cm.mono fun k b jR=>⟨aW.of_below hH hb ⟨?_,jR.2⟩,rfl⟩
      rcases jR.1 with h1|h1
      .refine .inl ?_
       cases k with
       | true=>rw [<- Yx];exact h1
       | false=>exact h1
      .exact .inr h1
     .exact zrV (fun b jR=>⟨aW.of_below hH hb jR,rfl⟩) Si Cm
    .simp at h;subst h;have mJ:=ig.of_below (φ:=φ) (H:=H.freeze ids) hb
     refine ⟨φ,qP.1.trans mJ,qP.2.below hb,.pure _ _ (Cm.mono fun k b jR=>⟨aW.of_below qP.2 hb ⟨?_,jR.2⟩,rfl⟩)⟩
     rcases jR.1 with h1|h1
     .refine .inl ?_
      cases k with
      | true=>exact h1
      | false=>exact (qP.1.DZ h1).1
     .exact .inr h1
theorem zjR {cl:Callee} (fJ:bI C P cl) (hH:aS C S base φ H w) {c:Call} {g:Operand} {f:FuncId} {caps:List AV} {lG:Array Value} {args:List AV} (aj:o.op=.call c) (hc:c.callee=.value g)
  (hg:a.eval g=.func (.func f) #[] lG) (yZ:aC (aW S base φ H w) φ w caps lG.toList) (wU:aC (aW S base φ H w) φ w args (c.args.toList.map a.eval))
  (h:(if cl.shared f then
    match cl.run f (args++caps) H with
    | some (v,H')=>some (.upd v H')
    | none=>none
   else
    match zS (freeze H true qw) (args++caps) with
    | none=>none
    | some (ps,ids) =>
     match cl.pure f ps with
     | none=>none
     | some r=>if ids.isEmpty||r.cold then some (.val (.pure r)) else some (.upd (.pure r) (H.freeze ids)):Option Eff)=some e)
  (hK:∀ v w',GM C S base φ H w e v w'->K (a.put o.dst v) w'):o.wpIn (Fw ro) n P a w K Q:=by
 have hn:aC (aW S base φ H w) φ w [] (#[]:Array Value).toList:=⟨rfl,fun i p v h=>by simp at h⟩
 exact ziU (ou:=[]) fJ hH aj hc hg hn yZ wU (by simpa only [List.nil_append] using h) hK
end
section
variable {C:jH} {P:Program} {Z:List Nat} {S:Bool->Nat->Prop} {base:Nat} {φ:jO} {H:Heap} {w:World} {env:Env} {a:Act} {e:Eff} {o:Oper} {I:Bool->Nat->Prop}
variable {ro:Option Nat} {n:Nat} {K:Act->World->Prop} {Q:Exit->Act->World->Prop}
theorem V8 {x:AV} (h:DV x=true):(∃ cs,x=.agg cs)\/∃ ps,x=.pure (.agg ps):=by
 unfold DV at h
 split at h
 .exact .inl ⟨_,rfl⟩
 .exact .inr ⟨_,rfl⟩
 .simp at h
theorem Yy (hH:aS C S base φ H w):φ H.nx=none:=by
 cases h:φ H.nx with
 | none=>rfl
 | some x=>exact absurd (hH.nx _ _ h) (Nat.lt_irrefl _)
theorem V9 {g:Bool} {s:Nat} (h:¬ (g=false/\s≠1)):g=false->s=1:=fun hg=>by
 rcases Decidable.em (s=1) with h1|h1
 .exact h1
 .exact absurd ⟨hg,h1⟩ h
theorem zin {av:AV} {r:Result Next} (h:jA C S base φ H w (.val av) r):jA C S base φ H w (.val .undef) r:=by
 rcases h with ⟨v,w',h1,h2,h3⟩|⟨w',h1,h2,h3⟩
 .exact .inl ⟨v,w',h1,h2,.undef _⟩
 .exact .inr ⟨w',h1,h2,.undef _⟩
theorem zrm {cl:Callee} {vo:mI} (hH:aS C S base φ H w) (hE:bq (aW S base φ H w) φ w env a) (hc:zN P Z o=some vo) (hs:step cl env H vo=some e) (Yz:∀ f xs,vo≠.call f xs) :
  jA C S base φ H w e ((execOp a.eval o).run P w)/\∀ c,o.op≠.defer c:=by
 unfold zN at hc
 split at hc
 ·-- move
  rename_i X aj
  cases hx:zD X with
  | none=>simp [hx] at hc
  | some x =>
   simp [hx] at hc;subst hc;simp [step] at hs;subst hs;exact ⟨zoY hE hx (.inl aj),by simp [aj]⟩
 .rename_i X aj
  cases hx:zD X with
  | none=>simp [hx] at hc
  | some x =>
   simp [hx] at hc;subst hc;simp [step] at hs;subst hs;exact ⟨zoY hE hx (.inr aj),by simp [aj]⟩
 ·-- pick
  rename_i C' A B aj
  split at hc
  .rename_i c x y h1 h2 h3;simp at hc;subst hc;simp only [step] at hs
   split at hs
   .rename_i t ht;simp at hs;subst hs;exact ⟨zrn hE h1 h2 h3 aj ht,by simp [aj]⟩
   .simp at hs
  .simp at hc
 ·-- alloc
  rename_i t aj
  cases hz:yH P t with
  | none=>simp [hz] at hc
  | some z =>
   simp [hz] at hc;subst hc;simp [step] at hs;subst hs;exact ⟨zpB hz aj,by simp [aj]⟩
 ·-- box
  rename_i t X aj
  cases hx:zD X with
  | none=>simp only [hx,Option.map_none] at hc;(repeat' split at hc)<;>simp at hc
  | some x =>
   have xz:vo=.box x->jA C S base φ H w e ((execOp a.eval o).run P w)/\∀ c,o.op≠.defer c:=by
    intro h;subst h;simp [step] at hs;subst hs;exact ⟨zsL hE hx aj,by simp [aj]⟩
   simp only [hx,Option.map_some] at hc
   split at hc
   .split at hc
    .simp at hc;exact xz hc.symm
    .simp at hc;subst hc;simp only [step] at hs
     split at hs
     .rename_i ps hp;simp at hs;subst hs;exact ⟨zr9 hH hE hx aj hp,by simp [aj]⟩
     .simp at hs
   .simp at hc;exact xz hc.symm
 ·-- build
  rename_i t parts aj
  split at hc
  .rename_i z ps h1 h2
   split at hc
   .rename_i bH;simp at hc;subst hc;simp only [step] at hs
    split at hs
    .rename_i cs hf;simp at hs;subst hs;exact ⟨zpj hE h1 h2 bH aj hf,by simp [aj]⟩
    .simp at hs
   .simp at hc
  .simp at hc
 ·-- buildSlice
  rename_i t len parts aj
  split at hc
  .rename_i e' ht
   split at hc
   .rename_i s z h1 h2
    split at hc
    .rename_i aH
     cases hp:ET (fun i=>some (i*s,s)) parts.toList with
     | none=>simp [hp] at hc
     | some ps =>
      simp [hp] at hc;subst hc;simp only [step] at hs
      split at hs
      .rename_i cs hf;simp only [Option.some.injEq] at hs;subst hs;exact ⟨zh7 hE ht h1 h2 aH.1 aH.2.1 aH.2.2 hp aj hf,by simp [aj]⟩
      .simp at hs
    .simp at hc
   .simp at hc
  .simp at hc
 ·-- load
  rename_i t X aj
  split at hc
  .rename_i g s x h1 h2 h3
   split at hc
   .simp at hc
   .rename_i hg;simp at hc;subst hc;simp only [step] at hs
    split at hs
    .rename_i cs hl
     cases ho:rM g cs with
     | none=>simp [ho] at hs
     | some av =>
      simp [ho] at hs;subst hs;exact ⟨zq1 hH hE h3 h1 h2 (V9 hg) aj hl ho,by simp [aj]⟩
    .simp at hs
  .simp at hc
 ·-- store
  rename_i t A X aj
  split at hc
  .rename_i s x y h1 h2 h3
   split at hc
   .simp at hc
   .rename_i h0;simp at hc;subst hc;simp only [step] at hs
    split at hs
    .rename_i id off hb
     split at hs
     .rename_i ds hg
      split at hs
      .rename_i aH;simp only [Option.some.injEq] at hs;subst hs;exact ⟨zpq hH hE h2 h3 h1 h0 aj hb hg aH.1 aH.2.2.1 aH.2.2.2,by simp [aj]⟩
      .simp at hs
     .simp at hs
    .simp at hs
  .simp at hc
 ·-- nilCheck
  rename_i X aj
  cases hx:zD X with
  | none=>simp [hx] at hc
  | some x =>
   simp [hx] at hc;subst hc;simp only [step] at hs
   split at hs
   .rename_i h1;simp at hs;subst hs;exact ⟨zgh hE hx aj (.inl h1),by simp [aj]⟩
   .rename_i h1 _;simp at hs;subst hs;exact ⟨zgh hE hx aj (.inr h1),by simp [aj]⟩
   .simp at hs
 ·-- binOp
  rename_i op t X Y t' aj
  split at hc
  .rename_i x y d h1 h2 h3;have plain:∀ k,Yd P t k->vo=.bin op k x y->jA C S base φ H w e ((execOp a.eval o).run P w)/\∀ c,o.op≠.defer c:=by
    intro k hk YA;subst YA;simp only [step] at hs
    cases hv:iM op k (x.eval env) (y.eval env) with
    | none=>simp [hv] at hs
    | some av =>
     simp [hv] at hs;subst hs;exact ⟨zsC hE h1 h2 hk aj hv,by simp [aj]⟩
   split at hc
   .rename_i fs
    split at hc
    .rename_i ls Bv
     split at hc
     .rename_i s bZ;have main:∀ neg,vo=.og neg s ls x y->((op=.eql/\neg=false)\/(op=.neq/\neg=true))->jA C S base φ H w e ((execOp a.eval o).run P w)/\∀ c,o.op≠.defer c:=by
       intro neg YA JS;subst YA;simp only [step] at hs
       split at hs
       .rename_i aH
        split at hs
        .rename_i b hb;simp at hs;subst hs;have:=zpU (C:=C) (P:=P) hE h1 h2 h3 Bv bZ aj (JS.imp And.left And.left) (V8 aH.1) (V8 aH.2.1) aH.2.2.1 aH.2.2.2 hb;have hn:(op == .neq)=neg:=by rcases JS with ⟨rfl,rfl⟩|⟨rfl,rfl⟩<;>rfl
         rw [hn] at this;exact ⟨this,by simp [aj]⟩
        .simp at hs
       .simp at hs
      split at hc
      .rename_i heq;simp at hc;exact main false hc.symm (.inl ⟨heq,rfl⟩)
      .split at hc
       .rename_i heq;simp at hc;exact main true hc.symm (.inr ⟨heq,rfl⟩)
       .simp at hc
     .simp at hc
    .simp at hc
   .rename_i k;simp at hc;exact plain .num (.inl ⟨k,h3⟩) hc.symm
   .simp at hc;exact plain .num (.inr h3) hc.symm
   .simp at hc;exact plain .bool h3 hc.symm
   .rename_i el;simp at hc;exact plain .slice ⟨el,h3⟩ hc.symm
   .rename_i el;simp at hc;exact plain .pointer ⟨el,h3⟩ hc.symm
   .rename_i f1 f2 f3;simp at hc;exact plain .func ⟨f1,f2,f3,h3⟩ hc.symm
   .simp at hc
  .simp at hc
 ·-- unOp
  rename_i op t X aj
  cases hx:zD X with
  | none=>simp [hx] at hc
  | some x =>
   simp [hx] at hc;subst hc;simp only [step] at hs
   cases hv:NM op (x.eval env) with
   | none=>simp [hv] at hs
   | some av =>
    simp [hv] at hs;subst hs;exact ⟨ztW hE hx aj hv,by simp [aj]⟩
 ·-- convert
  rename_i src dst X aj
  split at hc
  .rename_i k0 k x h1 h2 h3;simp at hc;subst hc;simp only [step] at hs
   split at hs
   .rename_i k2 m e2;simp at hs;subst hs;exact ⟨zpt hE h3 h1 h2 aj e2,by simp [aj]⟩
   .simp at hs
  .rename_i x h1 h2 h3;simp at hc;subst hc;simp only [step] at hs
   split at hs
   .rename_i b e2;simp at hs;subst hs;exact ⟨zla hE h3 h1 h2 aj e2,by simp [aj]⟩
   .simp at hs
  .rename_i el x h1 h2 h3
   split at hc
   .rename_i h4 h5;simp at hc;subst hc;simp only [step] at hs
    split at hs
    .rename_i b e2;simp only [Option.some.injEq] at hs;subst hs;exact ⟨zmk hE h3 h1 h2 h4 h5 aj e2,by simp [aj]⟩
    .simp at hs
   .simp at hc
  .rename_i el x h1 h2 h3
   split at hc
   .rename_i h4;simp at hc;subst hc;simp only [step] at hs
    split at hs
    .rename_i cs m e2
     split at hs
     .rename_i bs e3;simp only [Option.some.injEq] at hs;subst hs;exact ⟨zpw hH hE h3 h1 h2 h4 aj e2 e3,by simp [aj]⟩
     .simp at hs
    .simp at hs
   .simp at hc
  .simp at hc
 ·-- makeFunc
  rename_i f first caps aj
  split at hc
  .rename_i h0
   cases hx:yG caps.toList with
   | none=>simp [hx] at hc
   | some xs =>
    simp [hx] at hc;subst hc;simp [step] at hs;subst hs;exact ⟨zkK hE h0 hx aj,by simp [aj]⟩
  .split at hc
   .rename_i h0
    cases hx:yG first.toList with
    | none=>simp [hx] at hc
    | some xs =>
     simp [hx] at hc;subst hc;simp only [step] at hs
     split at hs
     .rename_i ps hp;simp only [Option.some.injEq] at hs;subst hs;exact ⟨zk7 hE h0 hx aj hp,by simp [aj]⟩
     .simp at hs
   .simp at hc
 ·-- makeSlice
  rename_i t X Y aj
  split at hc
  .rename_i el ht
   split at hc
   .rename_i s b z x y h1 h2 h3 h4 h5
    split at hc
    .rename_i aH;simp at hc;subst hc;simp only [step] at hs
     split at hs
     .rename_i k1 p k2 q e1 e2
      split at hs
      .rename_i tV;simp only [Option.some.injEq] at hs;subst hs;obtain ⟨c1,rfl,c3,c4,c5⟩:=tV;exact ⟨zjm hE h4 h5 ht h1 h2 h3 aH.1 aH.2 aj e1 e2 c1 c4 c5,by simp [aj]⟩
      .simp at hs
     .simp at hs
    .simp at hc
   .simp at hc
  .simp at hc
 ·-- slice
  rename_i t X lo hi aj
  split at hc
  .rename_i el x lo' bR ht h1 h2 h3
   cases oC:iU P el with
   | none=>simp [oC] at hc
   | some sz =>
    simp [oC] at hc;subst hc;simp only [step] at hs
    split at hs
    .rename_i e1
     split at hs
     .rename_i h b1
      split at hs
      .rename_i l b2;simp at hs;subst hs;exact ⟨zjl hE h1 ht oC h2 h3 aj e1 b1 b2,by simp [aj]⟩
      .simp at hs
     .simp at hs
    .rename_i kk s es e1
     split at hs
     .rename_i si;subst si
      split at hs
      .rename_i h b1
       split at hs
       .rename_i l b2;simp at hs;subst hs;exact ⟨zis hE h1 ht oC h2 h3 aj e1 b1 b2,by simp [aj]⟩
       .simp at hs
      .simp at hs
     .simp at hs
    .rename_i id s off len e1
     split at hs
     .rename_i si;subst si
      split at hs
      .rename_i N hN
       split at hs
       .rename_i h b1
        split at hs
        .rename_i l b2;simp only [Option.some.injEq] at hs;subst hs;exact ⟨zjr hH hE h1 ht oC h2 h3 aj e1 hN b1 b2,by simp [aj]⟩
        .simp at hs
       .simp at hs
      .simp at hs
     .simp at hs
    .simp at hs
  .rename_i x lo' bR ht h1 h2 h3;simp at hc;subst hc;simp only [step] at hs
   split at hs
   .rename_i s e1
    split at hs
    .rename_i h b1
     split at hs
     .rename_i l b2;simp at hs;subst hs;exact ⟨znv hE h1 ht h2 h3 aj e1 b1 b2,by simp [aj]⟩
     .simp at hs
    .simp at hs
   .simp at hs
  .simp at hc
 ·-- slice3
  rename_i t X lo Y Z aj
  split at hc
  .rename_i el x lo' y z ht h1 h2 h3 h4
   cases oC:iU P el with
   | none=>simp [oC] at hc
   | some sz =>
    simp [oC] at hc;subst hc;simp only [step] at hs
    split at hs
    .rename_i len e1
     split at hs
     .rename_i m b0
      split at hs
      .rename_i h b1
       split at hs
       .rename_i l b2;simp only [Option.some.injEq] at hs;subst hs;exact ⟨zng hE h1 h3 h4 ht oC h2 aj e1 b0 b1 b2,by simp [aj]⟩
       .simp at hs
      .simp at hs
     .simp at hs
    .simp at hs
  .simp at hc
 ·-- fieldAddr
  rename_i t X i aj
  split at hc
  .rename_i fs x ht h1
   split at hc
   .rename_i f hf
    split at hc
    .rename_i s bZ
     split at hc
     .simp at hc
     .rename_i h0;simp at hc;subst hc;simp only [step] at hs
      split at hs
      .rename_i kk cs q e1;simp at hs;subst hs;exact ⟨zfQ hE h1 ht hf bZ h0 aj (.inl ⟨kk,cs,q,e1,rfl⟩),by simp [aj]⟩
      .rename_i id q e1;simp at hs;subst hs;exact ⟨zfQ hE h1 ht hf bZ h0 aj (.inr ⟨id,q,e1,rfl⟩),by simp [aj]⟩
      .simp at hs
    .simp at hc
   .simp at hc
  .simp at hc
 ·-- field
  rename_i t X i aj
  split at hc
  .rename_i fs x ht h1
   split at hc
   .rename_i f hf
    split at hc
    .rename_i s g bZ hg
     split at hc
     .simp at hc
     .rename_i h0;simp at hc;subst hc;simp only [step] at hs
      split at hs
      .rename_i aH
       cases ho:rM g (((x.eval env).cells.drop f.offset).take s) with
       | none=>simp [ho] at hs
       | some av =>
        simp [ho] at hs;subst hs;exact ⟨zpM hE h1 ht hf bZ hg (V9 h0) aj (V8 aH.1) aH.2 ho,by simp [aj]⟩
      .simp at hs
    .simp at hc
   .simp at hc
  .simp at hc
 ·-- indexAddr
  rename_i t X Y aj
  split at hc
  .rename_i len el x y ht h1 h2
   cases bZ:iU P el with
   | none=>simp [bZ] at hc
   | some s =>
    simp [bZ] at hc;subst hc;simp only [step] at hs
    split at hs
    .rename_i k m e1
     split at hs
     .rename_i h0
      split at hs
      .rename_i aO
       split at hs
       .rename_i kk cs q e2;simp at hs;subst hs;exact ⟨zd2 hE h1 h2 ht bZ aj e1 h0 aO (.inl ⟨kk,cs,q,e2,rfl⟩),by simp [aj]⟩
       .rename_i id q e2;simp at hs;subst hs;exact ⟨zd2 hE h1 h2 ht bZ aj e1 h0 aO (.inr ⟨id,q,e2,rfl⟩),by simp [aj]⟩
       .simp at hs
      .simp at hs
     .simp at hs
    .simp at hs
  .rename_i el x y ht h1 h2
   cases bZ:iU P el with
   | none=>simp [bZ] at hc
   | some s =>
    simp [bZ] at hc;subst hc;simp only [step] at hs
    split at hs
    .rename_i k m e1
     split at hs
     .rename_i h0
      split at hs
      .rename_i kk s' es e2
       split at hs
       .rename_i si;subst si
        split at hs
        .rename_i NU e3;simp at hs;subst hs;exact ⟨zem hE h1 h2 ht bZ aj e1 h0 (.inl ⟨kk,es,NU,e2,e3,rfl⟩),by simp [aj]⟩
        .simp at hs
       .simp at hs
      .rename_i id s' off len e2
       split at hs
       .rename_i aH;obtain ⟨si,aO⟩:=aH;subst si;simp at hs;subst hs;exact ⟨zem hE h1 h2 ht bZ aj e1 h0 (.inr ⟨id,off,len,e2,aO,rfl⟩),by simp [aj]⟩
       .simp at hs
      .simp at hs
     .simp at hs
    .simp at hs
  .simp at hc
 ·-- index
  rename_i t X Y aj
  split at hc
  .rename_i len el x y ht h1 h2
   split at hc
   .rename_i s g bZ hg
    split at hc
    .simp at hc
    .rename_i h0;simp at hc;subst hc;simp only [step] at hs
     split at hs
     .rename_i k m e1
      split at hs
      .rename_i aH
       cases ho:rM g (((x.eval env).cells.drop (m.toNat*s)).take s) with
       | none=>simp [ho] at hs
       | some av =>
        simp [ho] at hs;subst hs;exact ⟨zpl hE h1 h2 ht bZ hg (V9 h0) aj (V8 aH.1) e1 aH.2.1 aH.2.2.1 aH.2.2.2 ho,by simp [aj]⟩
      .simp at hs
     .simp at hs
   .simp at hc
  .rename_i x y ht h1 h2;simp at hc;subst hc;simp only [step] at hs
   split at hs
   .rename_i s k m e1 e2
    split at hs
    .rename_i h0
     split at hs
     .rename_i b hb;simp at hs;subst hs;exact ⟨zn6 hE h1 h2 ht aj e1 e2 h0 hb,by simp [aj]⟩
     .simp at hs
    .simp at hs
   .simp at hs
  .simp at hc
 ·-- extract
  rename_i X i aj
  cases hx:zD X with
  | none=>simp only [hx,Option.map_none] at hc;(repeat' split at hc)<;>simp at hc
  | some x =>
   have G9:vo=.extract i x->jA C S base φ H w e ((execOp a.eval o).run P w)/\∀ c,o.op≠.defer c:=by
    intro h;subst h;simp only [step] at hs
    split at hs
    .rename_i vs e1
     split at hs
     .rename_i v e2;simp at hs;subst hs;exact ⟨VT hE hx aj (.inl ⟨vs,e1,v,e2,rfl⟩),by simp [aj]⟩
     .simp at hs
    .rename_i vs e1
     split at hs
     .rename_i v e2;simp at hs;subst hs;exact ⟨VT hE hx aj (.inr ⟨vs,e1,e2⟩),by simp [aj]⟩
     .simp at hs
    .simp at hs
   simp only [hx,Option.map_some] at hc
   split at hc
   .split at hc
    .simp at hc;subst hc;simp only [step] at hs
     split at hs
     .rename_i vs e1
      split at hs
      .rename_i v e2;simp only [Option.some.injEq] at hs;subst hs;exact ⟨zin (VT hE hx aj (.inl ⟨vs,e1,v,e2,rfl⟩)),by simp [aj]⟩
      .simp at hs
     .rename_i vs e1
      split at hs
      .rename_i v e2;simp only [Option.some.injEq] at hs;subst hs;exact ⟨zin (VT hE hx aj (.inr ⟨vs,e1,e2⟩)),by simp [aj]⟩
      .simp at hs
     .simp at hs
    .simp at hc;exact G9 hc.symm
   .simp at hc;exact G9 hc.symm
 ·-- call
  rename_i c aj
  split at hc
  .split at hc
   .simp at hc;exact absurd hc.symm (Yz _ _)
   .simp at hc
  ·-- len
   rename_i jb
   split at hc
   .rename_i X t ha hb
    split at hc
    .rename_i x len el h1 h2;simp at hc;subst hc;simp [step] at hs;subst hs;exact ⟨zlC hE h1 h2 aj jb ha hb,by simp [aj]⟩
    .rename_i x h1 h2;simp at hc;subst hc;simp only [step] at hs
     split at hs
     .rename_i s e1;simp only [Option.some.injEq] at hs;subst hs;exact ⟨VU hE h1 (.inl h2) aj jb ha hb (.inl ⟨h2,s,e1,rfl⟩),by simp [aj]⟩
     .simp at hs
    .rename_i x el h1 h2;simp at hc;subst hc;simp only [step] at hs
     split at hs
     .rename_i e1;simp only [Option.some.injEq] at hs;subst hs;exact ⟨VU hE h1 (.inr ⟨_,h2⟩) aj jb ha hb (.inr ⟨⟨_,h2⟩,.inl ⟨e1,rfl⟩⟩),by simp [aj]⟩
     .rename_i kk s es e1;simp only [Option.some.injEq] at hs;subst hs;exact ⟨VU hE h1 (.inr ⟨_,h2⟩) aj jb ha hb (.inr ⟨⟨_,h2⟩,.inr (.inl ⟨kk,s,es,e1,rfl⟩)⟩),by simp [aj]⟩
     .rename_i id s off m e1;simp only [Option.some.injEq] at hs;subst hs;exact ⟨VU hE h1 (.inr ⟨_,h2⟩) aj jb ha hb (.inr ⟨⟨_,h2⟩,.inr (.inr ⟨id,s,off,e1⟩)⟩),by simp [aj]⟩
     .simp at hs
    .rename_i x kt et h1 h2;simp at hc;subst hc;simp only [step] at hs
     split at hs
     .rename_i id e1
      split at hs
      .rename_i es hg;simp only [Option.some.injEq] at hs;subst hs;exact ⟨zm2 hH hE h1 h2 aj jb ha hb e1 hg,by simp [aj]⟩
      .simp at hs
     .simp at hs
    .simp at hc
   .simp at hc
  ·-- cap
   rename_i jb
   split at hc
   .rename_i X t ha hb
    split at hc
    .rename_i x el h1 h2;simp at hc;subst hc;simp only [step] at hs
     split at hs
     .rename_i e1;simp only [Option.some.injEq] at hs;subst hs;exact ⟨zth hE h1 h2 aj jb ha hb e1,by simp [aj]⟩
     .simp at hs
    .simp at hc
   .simp at hc
  ·-- append
   rename_i jb
   split at hc
   .rename_i X Y t u ha hb
    split at hc
    .rename_i x y el NU h1 h2 h3 h4
     split at hc
     .rename_i s b s' z h5 h6 h7 h8
      split at hc
      .rename_i aH;simp at hc;subst hc;obtain ⟨c1,rfl,c3,c4⟩:=aH;simp only [step] at hs;exact ⟨zoc hH hE h1 h2 ⟨⟨el,NU,h3,h4,h5,h6,z,h8,c3⟩,c1,c4⟩ aj jb ha hb (Yy hH) hs,by simp [aj]⟩
      .simp at hc
     .simp at hc
    .rename_i x y el k0 h1 h2 h3 h4
     split at hc
     .rename_i s b z h5 h6 h7
      split at hc
      .rename_i aH;simp at hc;subst hc;simp only [step] at hs
       split at hs
       .rename_i k n e1 e2
        split at hs
        .rename_i jR
         refine ⟨zlL hE h1 h2 h3 h4 h5 h6 h7 aH.1 aH.2.1 aH.2.2 aj jb ha hb e1 e2 jR.1 jR.2.2.1 jR.2.2.2 ?_,by simp [aj]⟩
         split at hs
         .rename_i h0;simp at hs;exact .inl ⟨h0,hs.symm⟩
         .rename_i h0;simp only [Option.some.injEq] at hs;exact .inr ⟨h0,hs.symm⟩
        .simp at hs
       .simp at hs
      .simp at hc
     .simp at hc
    .simp at hc
   .simp at hc
  ·-- max
   rename_i jb
   cases hx:yG c.args.toList with
   | none=>simp [hx] at hc
   | some xs =>
    simp [hx] at hc;subst hc;simp only [step] at hs
    split at hs
    .rename_i k p rest e1
     cases hm:Gx true k p rest with
     | none=>simp [hm] at hs
     | some m =>
      simp [hm] at hs;subst hs;exact ⟨ziz (mx:=true) hE hx aj jb e1 hm,by simp [aj]⟩
    .simp at hs
  .rename_i jb
   cases hx:yG c.args.toList with
   | none=>simp [hx] at hc
   | some xs =>
    simp [hx] at hc;subst hc;simp only [step] at hs
    split at hs
    .rename_i k p rest e1
     cases hm:Gx false k p rest with
     | none=>simp [hm] at hs
     | some m =>
      simp [hm] at hs;subst hs;exact ⟨ziz (mx:=false) hE hx aj jb e1 hm,by simp [aj]⟩
    .simp at hs
  ·-- clear
   rename_i jb
   split at hc
   .rename_i X t ha hb
    split at hc
    .rename_i x el h1 h2
     split at hc
     .rename_i s z h3 h4
      split at hc
      .rename_i aH;simp at hc;subst hc;simp only [step] at hs
       refine ⟨zpG hH hE h1 h2 h3 h4 aH.1 aH.2 aj jb ha hb ?_,by simp [aj]⟩
       split at hs
       .rename_i e1;simp only [Option.some.injEq] at hs;exact .inl ⟨e1,hs.symm⟩
       .rename_i id sz off len e1
        split at hs
        .rename_i hz
         split at hs
         .rename_i ds hg
          split at hs
          .rename_i hle;simp only [Option.some.injEq] at hs;have YB:sz=s:=by rw [<- hz];exact aH.2
           subst YB;exact .inr ⟨id,off,len,ds,e1,hg,hle,hs.symm⟩
          .simp at hs
         .simp at hs
        .simp at hs
       .simp at hs
      .simp at hc
     .simp at hc
    .simp at hc
   .simp at hc
  .simp at hc
 ·-- makeMap
  rename_i t aj;simp at hc;subst hc;simp [step] at hs;subst hs;exact ⟨zlP aj,by simp [aj]⟩
 ·-- lookup
  rename_i t M K ok aj
  split at hc
  .rename_i str z m k h1 h2 h3 h4;simp at hc;subst hc;simp only [step] at hs
   split at hs
   .rename_i id key e1 e2
    split at hs
    .rename_i es hg
     split at hs
     .rename_i v hf;simp only [Option.some.injEq] at hs;subst hs;exact ⟨zhW hH hE h1 h2 h3 h4 aj e1 e2 hg hf,by simp [aj]⟩
     .rename_i hf;simp only [Option.some.injEq] at hs;subst hs;exact ⟨zhW hH hE h1 h2 h3 h4 aj e1 e2 hg hf,by simp [aj]⟩
     .simp at hs
    .simp at hs
   .simp at hs
  .simp at hc
 ·-- mapUpdate
  rename_i t M K X aj
  split at hc
  .rename_i str m k x h1 h2 h3 h4;simp at hc;subst hc;simp only [step] at hs
   split at hs
   .rename_i id key v e1 e2 e3
    split at hs
    .rename_i es hg
     split at hs
     .rename_i es' hf;simp only [Option.some.injEq] at hs;subst hs;exact ⟨zio hH hE h1 h2 h3 h4 (.inl aj) e1 e2 e3 hg hf,by simp [aj]⟩
     .simp at hs
    .simp at hs
   .simp at hs
  .simp at hc
 ·-- insert
  rename_i t M K X aj
  split at hc
  .rename_i str m k x h1 h2 h3 h4;simp at hc;subst hc;simp only [step] at hs
   split at hs
   .rename_i id key v e1 e2 e3
    split at hs
    .rename_i es hg
     split at hs
     .rename_i es' hf;simp only [Option.some.injEq] at hs;subst hs;exact ⟨zio hH hE h1 h2 h3 h4 (.inr aj) e1 e2 e3 hg hf,by simp [aj]⟩
     .simp at hs
    .simp at hs
   .simp at hs
  .simp at hc
 .simp at hc
theorem zli {f:aa} {xs:List aa} (hc:zN P Z o=some (.call f xs)):∃ c g,o.op=.call c/\c.callee=.value g/\zD g=some f/\yG c.args.toList=some xs:=by
 unfold zN at hc
 split at hc
 case h_23 =>
  rename_i c aj
  split at hc
  .rename_i g jb
   split at hc
   .rename_i f' xs' h1 h2;simp at hc;obtain ⟨rfl,rfl⟩:=hc;exact ⟨c,g,aj,jb,h1,h2⟩
   .simp at hc
  all_goals
   exfalso
   revert hc
   (repeat' split)<;>simp
 all_goals
  exfalso
  revert hc
  (repeat' split)<;>simp
theorem xD {cl:Callee} {vo:mI} (fJ:bI C P cl) (hH:aS C S base φ H w) (hE:bq (aW S base φ H w) φ w env a) (jB:vo=(zN P Z o).getD .stuck) (hs:step cl env H vo=some e)
  (hK:∀ v w',GM C S base φ H w e v w'->K (a.put o.dst v) w'):o.wpIn (Fw ro) n P a w K Q:=by
 have hc:zN P Z o=some vo:=by
  cases h:zN P Z o with
  | none =>
   rw [h] at jB;subst jB;simp [step] at hs
  | some v =>
   rw [h] at jB;rw [jB];rfl
 by_cases L9:∃ f xs,vo=.call f xs
 .obtain ⟨f,xs,rfl⟩:=L9;obtain ⟨c,g,aj,jb,h1,h2⟩:=zli hc;have hf:=zG hE h1;have EW:=RO hE h2;simp only [step,zH] at hs
  split at hs
  .rename_i g' caps e1;rw [e1] at hf;obtain ⟨vs,hg,hl,hr⟩:=hf.aA.lD;exact zjR fJ hH aj jb hg (aC.pK (by simpa using hl) fun i p v hp hv=>hr i p v hp (by simpa using hv)) EW hs hK
  .rename_i g' caps e1;rw [e1] at hf;obtain ⟨vs,hg,hl,hr⟩:=hf.lD;exact zjR fJ hH aj jb hg (aC.rO hl hr) EW hs hK
  .rename_i g' first e1
   rw [e1] at hf;obtain ⟨vs,hg,hl,hr⟩:=hf.aA.GG;exact ziU fJ hH aj jb hg (aC.pK (by simpa using hl) fun i p v hp hv=>hr i p v hp (by simpa using hv)) (caps:=[]) ⟨rfl,fun i p v h=>by simp at h⟩ EW hs hK
  .rename_i id e1;rw [e1] at hf;obtain ⟨b,m,au,hg⟩:=hf.ER
   split at hs
   .rename_i v H' hy;simp at hs;subst hs;obtain ⟨l,hl,hlen,CB⟩:=fJ.yield _ _ _ _ _ hy (n - 1) S base φ w b m _ au hH EW;have Bz:∀ c,o.op≠.defer c:=by simp [aj]
    refine ⟨fun _ _=>trivial,?_⟩
    have bP:(execOp a.eval o).run P w=.ok (.round b l.fn ((l.params.zip (c.args.toList.map a.eval).toArray).foldl (fun tmps (x:Tmp×Value)=>tmps.setIfInBounds x.1 x.2) l.tmps) l.assign l.body) w:=by
     have YC:(getObj b).run P w=.ok (.loop l) w:=by
      simp only [getObj,Sem.run,hl]
     have wU:(c.args.toList.map a.eval).toArray=c.args.map a.eval:=by apply Array.ext';simp
     simp only [execOp,aj,resolve,jb,hg,Deferred.ofValue,Sem.run_bind,Sem.run_pure,Result.andThen_ok,invoke,Instr.yield,Instr.getLoop,YC];rw [if_neg (by simp at hlen ⊢;omega)];rw [wU];simp
    rw [Oper.semAt_eq _ _ _ Bz,bP,Oper.uponIn_round]
    refine ⟨fun hd=>by simp [Fw,Fence.wide] at hd,?_⟩
    have:=RoundIn.mono CB (R':=fun
     | .returned v,w''=>K (a.put o.dst v) w''
     | .panicked chain,w''=>Q (.panic chain) a w''
     | .outgrown,_=>LetsOut Q) fun e w' ⟨v,φ',he,h1,h2,h3⟩=>by subst he;exact hK v w' ⟨φ',h1,h2,h3⟩
    exact this
   .simp at hs
  .simp at hs
 .have Yz:∀ f xs,vo≠.call f xs:=fun f xs h=>L9 ⟨f,xs,h⟩;obtain ⟨h1,h2⟩:=zrm hH hE hc hs Yz;exact zrS h2 h1 hK
theorem zfV {s:Nat} (hc:zN P Z o=some (.buildSlice s [] [])):∃ t e parts,o.op=.buildSlice t 0 parts/\parts.toList=[]/\P.underlying t=some (.slice e)/\iU P e=some s/\0 < s:=by
 unfold zN at hc
 split at hc
 case h_7 =>
  rename_i t len parts aj
  split at hc
  .rename_i e ht
   split at hc
   .rename_i s' z h1 h2
    split at hc
    .rename_i aH
     cases hp:ET (fun i=>some (i*s',s')) parts.toList with
     | none=>simp [hp] at hc
     | some ps =>
      simp [hp] at hc;obtain ⟨rfl,hz,rfl⟩:=hc;have vD:parts.toList=[]:=by
       cases hl:parts.toList with
       | nil=>rfl
       | cons q qs =>
        obtain ⟨i,x⟩:=q;rw [hl] at hp;simp only [ET] at hp
        revert hp
        (repeat' split)<;>simp
      have hlen:len=0:=by
       rcases Nat.eq_zero_or_pos len with h|h
       .exact h
       .have h9:=aH.2.2;rw [hz (by omega)] at h9;simp at h9;omega
      subst hlen;exact ⟨t,e,parts,aj,vD,ht,h1,aH.1⟩
    .simp at hc
   .simp at hc
  .simp at hc
 all_goals
  exfalso
  revert hc
  (repeat' split)<;>simp
theorem zid {s b:Nat} {x y:aa} (hc:zN P Z o=some (.append s b x y)):∃ c X Y t u,o.op=.call c/\c.callee=.builtin .append/\c.args.toList=[X,Y]/\c.argTypes.toList=[t,u]/\zD X=some x/\zD Y=some y/\GX P t u s b:=by
 unfold zN at hc
 split at hc
 case h_23 =>
  rename_i c aj
  split at hc
  case h_4 =>
   rename_i jb
   split at hc
   .rename_i X Y t u ha hb
    split at hc
    .rename_i x' y' el NU h1 h2 h3 h4
     split at hc
     .rename_i s1 b1 s' z h5 h6 h7 h8
      split at hc
      .rename_i aH;simp at hc;obtain ⟨rfl,rfl,rfl,rfl⟩:=hc;obtain ⟨c1,rfl,c3,c4⟩:=aH;exact ⟨c,X,Y,t,u,aj,jb,ha,hb,h1,h2,⟨el,NU,h3,h4,h5,h6,z,h8,c3⟩,c1,c4⟩
      .simp at hc
     .simp at hc
    .revert hc
     (repeat' split)<;>simp
    .simp at hc
   .simp at hc
  all_goals
   exfalso
   revert hc
   (repeat' split)<;>simp
 all_goals
  exfalso
  revert hc
  (repeat' split)<;>simp
theorem zjk {t e:TypeId} {parts:Array (Nat×Operand)} {s:Nat} (aj:o.op=.buildSlice t 0 parts) (vD:parts.toList=[]) (ht:P.underlying t=some (.slice e)) (hs:iU P e=some s) (h0:0 < s) :
  jA C S base φ H w (.new (.cells true []) fun id=>.void id s) ((execOp a.eval o).run P w):=by
 have hp:parts=#[]:=by rw [<- Array.toList_inj,vD]
 subst hp
 refine RQ (c:=#[]) (t:=e) (v:=.slice (some ⟨w.heap.size,0,none⟩) 0 0) ?_ (by simp) (fun j a v ha hv=>by simp at ha) fun I' φ' w' id au=>.void id s _ au
 simp only [execOp,aj,Instr.buildSlice,Sem.run_bind,zh ht,Result.andThen_ok,zV hs];rw [if_neg (by omega)];have GV:Array.range 0=#[]:=rfl;simp only [Nat.zero_mul,if_true,Sem.run_pure,Result.andThen_ok,Sem.run_bind,GV,Array.map_empty,List.map_toArray,List.map_nil];have hf:∀ f:Nat->Option (Nat×Nat),Instr.fill f #[] []=some #[]:=fun f=>rfl;simp [newRow,hf]
theorem zmY {cl:Callee} (hH:aS C S base φ H w) (hE:bq (aW S base φ H w) φ w env a) {X Y:Operand} {x y:aa} {t u:TypeId} {s b:Nat} {c:Call} (hx:zD X=some x) (hy:zD Y=some y) (hT:GX P t u s b)
  (aj:o.op=.call c) (hc:c.callee=.builtin .append) (h1:c.args.toList=[X,Y]) (h2:c.argTypes.toList=[t,u]) (h:step cl env H (.jZ s b x y)=some e) :
  jA C S base φ H w e ((execOp a.eval o).run P w):=by
 have vQ:=zG hE hx;have Bt:=zG hE hy;have pY:=hT.pos;simp only [step] at h
 split at h
 .simp at h
 .rename_i new m GZ;obtain ⟨ad,cap',news,f1,f2,f3,f4,f5⟩:=Yj hH pY Bt GZ;have yU:news.length=m*s:=by have:=f2.1;omega
  split at h
  .simp at h
  .rename_i bG;have Jd:∀ w':World,(∀ a,ad=some a->∀ (j:Nat) v,news[j]?=some v->w'.cell? (a.add j)=some v)->(Builtin.firstCells s m (.slice ad m cap')).run P w'=.ok news.toArray w':=fun w' uD=>RY yU f4 uD
   split at h
   .rename_i id s' heq;rw [heq] at vQ;obtain ⟨bb,au,hX⟩:=vQ.GD
    split at h
    .rename_i si;subst si
     split at h
     .rename_i hm;subst hm;simp only [Option.some.injEq] at h;subst h;have Ee:news=[]:=List.eq_nil_of_length_eq_zero (by simpa using yU);subst Ee
      refine zU (v:=.slice (some ⟨bb,0,none⟩) (0+0) 0) (GY aj hc h1 h2 (Yn hT hX f1 (Nat.le_refl 0) (by rw [f1];exact Jd w f5) rfl)) (.row id s' 0 0 bb 0 0 0 au (by simp) (Nat.le_refl 0) (by simp))
     .rename_i hm
      split at h
      .rename_i JO;simp only [Option.some.injEq] at h;subst h;have jR:(0+m)*b<=140737488355328:=by rw [Nat.zero_add];have:=JO.2;simp only [zo] at this;omega
       obtain ⟨c',e,cp,g1,g2,g3,rest,g4⟩:=VW (ty:=o.type) (olds:=[]) hT hX f1 (by omega) (Nat.le_refl 0) jR (by rw [hX];exact RY (by simp) (fun h=>rfl) fun a ha j u hu=>by simp at hu) (by rw [f1];exact Jd _ f5) (by simp) yU;have hlen:new.length<=c'.size:=by
        have:c'.toList.length=c'.size:=by simp
        rw [g4] at this;simp at this;have:=f2.1;omega
       refine .inl ⟨_,_,GY aj hc h1 h2 g1,w.heap.size,c'.size,((Below.refl _ w).drew).alloc (Nat.le_refl _) _,Nat.le_refl _,RZ w _,?_,fun I' φ' id au=>?_⟩
       .refine ⟨c',e,(0,0),heap_alloc_new w.drew _,rfl,hlen,fun j _ hj=>by simp at hj,fun j av v ha hv=>?_⟩
        have hj:j < news.length:=by have:=(List.getElem?_eq_some_iff.1 ha).1;have:=f2.1;omega
        rw [<- Array.getElem?_toList,g4,List.nil_append,List.getElem?_append_left hj] at hv;exact aG.mono (w:=w) (fun _ b hb=>⟨hb,Below.heap_alloc w.drew _ b hb.2.1⟩) (fun _ _ h=>h) (f2.2 j av v ha hv)
       .have:(0+m)=m:=by omega
        rw [this] at g2 ⊢;exact .row id s' 0 m _ _ 0 cp au (by simp) g2 (by simp [g3])
      .simp at h
    .simp at h
   .simp at h
theorem zji {s:Nat} {x y:aa} (hc:zN P Z o=some (.store s x y)):∃ t A X,o.op=.store t A X/\zD A=some x/\zD X=some y/\iU P t=some s/\s≠0:=by
 unfold zN at hc
 split at hc
 case h_9 =>
  rename_i t A X aj
  split at hc
  .rename_i s' x' y' h1 h2 h3
   split at hc
   .simp at hc
   .rename_i h0;simp at hc;obtain ⟨rfl,rfl,rfl⟩:=hc;exact ⟨t,A,X,aj,h2,h3,h1,h0⟩
  .simp at hc
 all_goals
  exfalso
  revert hc
  (repeat' split)<;>simp
theorem zjj {r:Result Next} {cs:List AV} {ps:List PV} {s len:Nat} (hH:aS C S base φ H w) (hp:qp cs=some ps) (hl:ps.length=len*s)
  (h:jA C S base φ H w (.new (.cells true cs) fun id=>.row id s 0 len) r):jA C S base φ H w (.val (.pure (.slice false s (chunks s len ps)))) r:=by
 have key:∀ v w',GM C S base φ H w (.new (.cells true cs) fun id=>.row id s 0 len) v w'->GM C S base φ H w (.val (.pure (.slice false s (chunks s len ps)))) v w':=by
  rintro v w' ⟨b,n,Sj,y8,YD,⟨c,e,fz,hh,YE,fJ,_,hv⟩,hr⟩
  refine ⟨Sj,.pure _ _ ?_⟩
  obtain ⟨b',n',cap,au,F8,vR,hn⟩:=(hr (fun _ _=>True) (fun _=>some (b,n)) 0 rfl).iY;simp only [Option.some.injEq,Prod.mk.injEq] at au;obtain ⟨rfl,rfl⟩:=au;rw [Nat.zero_mul] at F8;subst F8;have vz:=Qj hp;subst vz;have JN:¬ DX φ H b:=fun ⟨id,m,au,_⟩=>by have:=(hH.lt _ _ _ au).2;omega
  have CE:aW S base φ H w' false b:=⟨.inr (Nat.le_trans hH.sz y8),YD,JN⟩
  have GN:∀ k b,aW S base φ H w k b->aW S base φ H w' k b/\w'.heap[b]?=w'.heap[b]?:=fun k b hb =>
   ⟨⟨hb.1,Nat.lt_of_lt_of_le hb.2.1 Sj.size,hb.2.2⟩,rfl⟩
  have bf:∀ (i:Nat) e (j:Nat) p,(chunks s len ps)[i]?=some e->e[j]?=some p->ps[i*s+j]?=some p:=fun i e j p he hp=>by
   obtain ⟨hi,rfl⟩:=N7 s len ps i e he;rw [List.getElem?_take] at hp
   split at hp
   .rw [List.getElem?_drop] at hp;exact hp
   .simp at hp
  have fe:∀ (k:Nat) p,ps[k]?=some p->k < c.size/\bK (aW S base φ H w') w' p (c.getD k undef):=fun k p hk=>by
   have aO:=(List.getElem?_eq_some_iff.1 hk).1;have wS:k < c.size:=by simp at fJ;omega
   refine ⟨wS,?_⟩
   have h1:=hv k (.pure p) c[k] (by simp [hk]) (by simp [wS]);have h2:=h1.aA.mono GN;rw [show c.getD k undef=c[k] from by simp [wS]];exact h2
  refine .slice false s _ b 0 len cap (fun i j=>c.getD (i*s+j) undef) (V3 _ _ _) vR (fun i e he=>?_) (fun i e j p he hp=>⟨CE,?_⟩) (fun i e j p he hp=>(fe _ _ (bf i e j p he hp)).2)
  .obtain ⟨hi,rfl⟩:=N7 s len ps i e he;have h5:(i+1)*s<=len*s:=Nat.mul_le_mul_right s hi;rw [Nat.add_mul,Nat.one_mul] at h5;rw [List.length_take,List.length_drop,hl];omega
  .obtain ⟨hk,_⟩:=fe _ _ (bf i e j p he hp);simp [World.cell?,hh,hk,Nat.add_assoc]
 rcases h with ⟨v,w',h1,h2⟩|⟨w',h1,h2⟩
 .exact .inl ⟨v,w',h1,key _ _ h2⟩
 .exact .inr ⟨w',h1,key _ _ h2⟩
theorem zkh {cl:Callee} {s:Nat} {x y:aa} (hH:aS C S base φ H w) (hE:bq (aW S base φ H w) φ w env a) (jB:.store s x y=(zN P Z o).getD .stuck) (hs:step cl env H (.bC s x y)=some e) :
  ∃ H2,e=.upd (.aQ []) H2/\((∀ w',ig φ H w φ H2 w'->aS C S base φ H2 w'->K (a.put o.dst undef) w')->o.wpIn (Fw ro) n P a w K Q):=by
 have hc:zN P Z o=some (.store s x y):=by
  cases h:zN P Z o with
  | none=>rw [h] at jB;simp at jB
  | some v=>rw [h] at jB;simpa using jB.symm
 obtain ⟨t,A,X,aj,h1,h2,h3,h4⟩:=zji hc;simp only [step] at hs
 split at hs
 .rename_i id off xz
  split at hs
  .rename_i z hg
   split at hs
   .rename_i aH;simp only [Option.some.injEq] at hs;subst hs
    refine ⟨_,rfl,fun hK=>?_⟩
    have hb:=zG hE h1;rw [xz] at hb;obtain ⟨b,m,au,hv⟩:=hb.l7;have hu:=hH.write (o:=.cells true (z.map AV.pure)) (w':=w) au (by rw [hg];rfl) rfl rfl rfl rfl (fun _ _=>rfl) (by have:=hH.obj _ _ _ au;rw [hg] at this;exact this);obtain ⟨w',e1,e2,e3⟩:=run_store (P:=P) hu.2 (fun t=>hu.1.xx (hE t)) h1 h2 h3 h4 aj xz (LB (hH.nx _ _ au)) aH.1 aH.2.2.1 aH.2.2.2;have G5:∀ o2,(H.set id (.cells true (z.map AV.pure))).set id o2=H.set id o2:=fun o2=>Heap.ext' rfl fun i=>by
     simp only [Heap.set,upd]
     by_cases hi:i=id<;>simp [hi]
    rw [G5] at e2 e3
    refine ⟨fun _ _=>trivial,?_⟩
    rw [Oper.semAt_eq _ _ _ (by simp [aj]),e1,Oper.uponIn_skip];exact hK w' (hu.1.trans e2) e3
   .simp at hs
  .simp at hs
 .simp at hs
theorem YF {cl:Callee} {op:mI} (h:step cl env H op=some e):step cl env H op.plain=some e:=by
 cases op<;>first|exact h|skip
 .simp only [step,mI.plain] at h ⊢
  split at h
  .split at h
   .exact h
   .simp at h
  .simp at h
 .simp only [step,mI.plain] at h ⊢
  split at h
  .rename_i v H2 hd
   split at h
   .rw [hd];exact h
   .simp at h
  .simp at h
theorem We {cl:Callee} {vo:mI} (fJ:bI C P cl) (hH:aS C S base φ H w) (hE:bq (aW S base φ H w) φ w env a) (jB:vo=F3 Z o.dst ((zN P Z o).getD .stuck)) (hs:step cl env H vo=some e)
  (hK:∀ v w',GM C S base φ H w e v w'->K (a.put o.dst v) w'):o.wpIn (Fw ro) n P a w K Q:=by
 have N8:(jA C S base φ H w e ((execOp a.eval o).run P w)/\∀ c,o.op≠.defer c)->o.wpIn (Fw ro) n P a w K Q:=fun h=>zrS h.2 h.1 hK;unfold F3 at jB
 split at jB
 .split at jB
  .rename_i s t x hx
   split at jB
   .subst jB;obtain ⟨H2,rfl,hw⟩:=zkh (ro:=ro) (n:=n) (K:=K) (Q:=Q) hH hE hx.symm hs;exact hw fun w' h1 h2=>hK _ w' ⟨φ,h1,h2,.aQ [] #[] rfl fun i p v h=>by simp at h⟩
   .split at jB
    .subst jB;exact xD fJ hH hE hx.symm (YF hs) hK
    .exact xD fJ hH hE (jB.trans hx.symm) hs hK
  .exact xD fJ hH hE jB hs hK
 .split at jB
  .rename_i z hx
   split at jB
   .subst jB;simp only [step,Option.some.injEq] at hs;subst hs;exact xD (vo:=.alloc z) (e:=.new (.cells true (z.map .pure)) fun id=>.box id 0) fJ hH hE hx.symm rfl fun v w' hp=>hK v w' hp
   .exact xD fJ hH hE (jB.trans hx.symm) hs hK
  .rename_i x hx
   refine xD (vo:=.iL x) fJ hH hE hx.symm ?_ hK
   split at jB<;>subst jB<;>exact hs
  .rename_i off x hx
   refine xD (vo:=.fieldAddr off x) fJ hH hE hx.symm ?_ hK
   split at jB<;>subst jB<;>exact hs
  .rename_i g s x hx
   refine xD (vo:=.load g s x) fJ hH hE hx.symm ?_ hK
   split at jB
   .subst jB;exact hs
   .split at jB
    .subst jB;simp only [step] at hs ⊢
     split at hs
     .rename_i k cs off hv
      split at hs
      .rename_i hle;rw [hv];simp only [zY,if_pos hle];exact hs
      .simp at hs
     .simp at hs
    .subst jB;exact hs
  .rename_i s x lo hi hx
   split at jB
   .subst jB
    refine xD (vo:=.slice s x lo hi) fJ hH hE hx.symm ?_ hK
    simp only [step] at hs ⊢
    split at hs
    .rename_i h1;rw [h1];exact hs
    .rename_i h1;rw [h1];exact hs
    .simp at hs
   .exact xD fJ hH hE (jB.trans hx.symm) hs hK
  .rename_i s hx
   split at jB
   .have hc:zN P Z o=some (.buildSlice s [] []):=by
     cases h:zN P Z o with
     | none=>rw [h] at hx;simp at hx
     | some v=>rw [h] at hx;simpa using hx
    obtain ⟨t,e',parts,aj,vD,ht,h1,h2⟩:=zfV hc;subst jB;simp only [step,Option.some.injEq] at hs;subst hs;exact N8 ⟨zjk aj vD ht h1 h2,by simp [aj]⟩
   .exact xD fJ hH hE (jB.trans hx.symm) hs hK
  .rename_i s z ps qQ hx
   split at jB
   .have hc:zN P Z o=some (.buildSlice s z ps):=by
     cases h:zN P Z o with
     | none=>rw [h] at hx;simp at hx
     | some v=>rw [h] at hx;simpa using hx
    subst jB;simp only [step] at hs
    split at hs
    .rename_i cs hf
     split at hs
     .rename_i qs hq
      split at hs
      .rename_i hl;simp only [Option.some.injEq] at hs;subst hs;have h9:=zrm (cl:=cl) (e:=.new (.cells true cs) fun id=>.row id s 0 (if s=0 then 0 else cs.length / s)) hH hE hc (by simp only [step,hf]) (fun f xs h=>by simp at h);exact N8 ⟨zjj hH hq hl h9.1,h9.2⟩
      .simp at hs
     .simp at hs
    .simp at hs
   .exact xD fJ hH hE (jB.trans hx.symm) hs hK
  .rename_i s b x y hx
   split at jB
   .have hc:zN P Z o=some (.append s b x y):=by
     cases h:zN P Z o with
     | none=>rw [h] at hx;simp at hx
     | some v=>rw [h] at hx;simpa using hx
    obtain ⟨c,X,Y,t,u,aj,jb,h1,h2,h3,h4,h5⟩:=zid hc;subst jB;exact N8 ⟨zmY hH hE h3 h4 h5 aj jb h1 h2 hs,by simp [aj]⟩
   .exact xD fJ hH hE (jB.trans hx.symm) hs hK
  .rename_i f xs hx
   split at jB
   .subst jB;exact xD fJ hH hE hx.symm (YF hs) hK
   .exact xD fJ hH hE (jB.trans hx.symm) hs hK
  .rename_i z ps hx
   refine xD (vo:=.build z ps) fJ hH hE hx.symm ?_ hK
   split at jB<;>subst jB<;>exact hs
  .exact xD fJ hH hE jB hs hK
theorem zjh {P:Program} {Z:List Nat} {dst:Option Nat} {o:Oper} {s:Nat} {x y:aa} {ls:List aa} (h:mI.fK s x y ls=F3 Z dst ((zN P Z o).getD .stuck)):.store s x y=(zN P Z o).getD .stuck:=by
 have key:∀ v,(zN P Z o).getD .stuck=v->mI.fK s x y ls≠v:=fun v hv he=>by
  subst he
  cases hc:zN P Z o with
  | none=>rw [hc] at hv;simp at hv
  | some u =>
   rw [hc] at hv;simp only [Option.getD_some] at hv;subst hv;unfold zN at hc
   revert hc
   (repeat' split)<;>simp
 unfold F3 at h
 split at h
 .split at h
  .rename_i s' t x' hx
   split at h
   .simp at h
   .split at h
    .simp only [mI.fK.injEq] at h;obtain ⟨rfl,rfl,rfl,_⟩:=h;exact hx.symm
    .simp at h
  .exact absurd h (key _ rfl)
 .split at h<;>first|(exact absurd h (key _ rfl))|(split at h<;>simp at h;done)|(split at h<;>first|(simp at h;done)|(split at h<;>simp at h;done))
theorem zkB {P:Program} {Z:List Nat} {dst:Option Nat} {o:Oper} {f:aa} {xs ls:List aa} (h:mI.jG f xs ls=F3 Z dst ((zN P Z o).getD .stuck)):.call f xs=(zN P Z o).getD .stuck:=by
 have key:∀ v,(zN P Z o).getD .stuck=v->mI.jG f xs ls≠v:=fun v hv he=>by
  subst he
  cases hc:zN P Z o with
  | none=>rw [hc] at hv;simp at hv
  | some u =>
   rw [hc] at hv;simp only [Option.getD_some] at hv;subst hv;unfold zN at hc
   revert hc
   (repeat' split)<;>simp
 unfold F3 at h
 split at h
 .split at h
  .split at h
   .simp at h
   .split at h<;>simp at h
  .exact absurd h (key _ rfl)
 .split at h
  case h_11=>exact absurd h (key _ rfl)
  case h_9 =>
   rename_i f' xs' hx
   split at h
   .simp only [mI.jG.injEq] at h;obtain ⟨rfl,rfl,_⟩:=h;exact hx.symm
   .simp at h
  all_goals first|(exact absurd h (key _ rfl))|(split at h<;>simp at h;done)|(split at h<;>first|(simp at h;done)|(split at h<;>simp at h;done))
theorem zt3 {cl:Callee} {vo:mI} (fJ:bI C P cl) (hH:aS C S base φ H w) (hE:bq (aW S base φ H w) φ w env a) (jB:vo=F3 Z o.dst ((zN P Z o).getD .stuck)) (hs:step cl env H vo.plain=some e)
  (hK:∀ v w',GM C S base φ H w e v w'->K (a.put o.dst v) w'):o.wpIn (Fw ro) n P a w K Q:=by
 by_cases hx:∃ s x y ls,vo=.fK s x y ls
 .obtain ⟨s,x,y,ls,rfl⟩:=hx;exact xD fJ hH hE (zjh jB) hs hK
 .by_cases hy:∃ f xs ls,vo=.jG f xs ls
  .obtain ⟨f,xs,ls,rfl⟩:=hy;exact xD fJ hH hE (zkB jB) hs hK
  refine We fJ hH hE jB ?_ hK
  have:vo.plain=vo:=by
   cases vo<;>first|rfl|exact absurd ⟨_,_,_,_,rfl⟩ hx|exact absurd ⟨_,_,_,rfl⟩ hy
  rwa [this] at hs
end
section
variable {env env':Env} {H H':Heap} {cl:Callee}
theorem zw {x:aa} (h:∀ t∈qH x,env t=env' t):x.eval env=x.eval env':=by
 cases x with
 | tmp t=>exact h t (by simp [qH])
 | const p=>rfl
theorem Sn {xs:List aa} (h:∀ t∈xs.flatMap qH,env t=env' t):xs.map (fun x=>x.eval env)=xs.map (fun x=>x.eval env') :=
 List.map_congr_left fun x hx=>zw fun t ht=>h t (List.mem_flatMap.2 ⟨x,hx,ht⟩)
theorem Wh {ps:List (Nat×Nat×aa)} (h:∀ t∈ps.flatMap (fun p=>qH p.2.2),env t=env' t):vw env ps=vw env' ps :=
 List.map_congr_left fun p hp=>by
  obtain ⟨o,s,x⟩:=p;simp only;rw [zw (x:=x) fun t ht=>h t (List.mem_flatMap.2 ⟨_,hp,ht⟩)]
theorem JU {n d:Nat} {x:Option aa} (h:∀ t∈(x.map qH).getD [],env t=env' t):bound env n d x=bound env' n d x:=by
 cases x with
 | none=>rfl
 | some x =>
  unfold bound;simp only;rw [zw (x:=x) fun t ht=>h t (by simpa using ht)]
theorem Sr {op:mI} (h:∀ t∈op.reads,env t=env' t):step cl env H op=step cl env' H op:=by
 cases op<;>simp only [mI.reads] at h<;>simp only [step]
 case iL x=>rw [zw h]
 case pick c a b =>
  rw [zw (x:=c) fun t ht=>h t (by simp [ht]),zw (x:=a) fun t ht=>h t (by simp [ht]),zw (x:=b) fun t ht=>h t (by simp [ht])]
 case box x=>rw [zw h]
 case build z ps=>rw [Wh h]
 case buildSlice sz z ps=>rw [Wh h]
 case om sz z ps=>rw [Wh h]
 case pX z ps=>rw [Wh h]
 case load g s x=>rw [zw h]
 case store s a x=>rw [zw (x:=a) fun t ht=>h t (by simp [ht]),zw (x:=x) fun t ht=>h t (by simp [ht])]
 case nilCheck x=>rw [zw h]
 case bin op d a x=>rw [zw (x:=a) fun t ht=>h t (by simp [ht]),zw (x:=x) fun t ht=>h t (by simp [ht])]
 case og n s o a x=>rw [zw (x:=a) fun t ht=>h t (by simp [ht]),zw (x:=x) fun t ht=>h t (by simp [ht])]
 case un op x=>rw [zw h]
 case toInt k x=>rw [zw h]
 case tJ x=>rw [zw h]
 case tK x=>rw [zw h]
 case toStr x=>rw [zw h]
 case makeFunc f xs=>rw [Sn h]
 case iE f xs=>rw [Sn h]
 case makeSlice s b z a x=>rw [zw (x:=a) fun t ht=>h t (by simp [ht]),zw (x:=x) fun t ht=>h t (by simp [ht])]
 case slice sz x lo hi =>
  have e1:=zw (x:=x) (env:=env) (env':=env') fun t ht=>h t (by simp [ht]);have e2:∀ n d,bound env n d lo=bound env' n d lo:=fun n d=>JU fun t ht=>h t (by simp [ht]);have e3:∀ n d,bound env n d hi=bound env' n d hi:=fun n d=>JU fun t ht=>h t (by simp [ht]);simp only [e1,e2,e3]
 case substr x lo hi =>
  have e1:=zw (x:=x) (env:=env) (env':=env') fun t ht=>h t (by simp [ht]);have e2:∀ n d,bound env n d lo=bound env' n d lo:=fun n d=>JU fun t ht=>h t (by simp [ht]);have e3:∀ n d,bound env n d hi=bound env' n d hi:=fun n d=>JU fun t ht=>h t (by simp [ht]);simp only [e1,e2,e3]
 case slice3 sz x lo hi mx =>
  have e1:=zw (x:=x) (env:=env) (env':=env') fun t ht=>h t (by simp [ht]);have e2:∀ n d,bound env n d lo=bound env' n d lo:=fun n d=>JU fun t ht=>h t (by simp [ht]);have e3:∀ n d,bound env n d (some hi)=bound env' n d (some hi):=fun n d=>JU fun t ht=>h t (by simp at ht;simp [ht]);have e4:∀ n d,bound env n d (some mx)=bound env' n d (some mx):=fun n d=>JU fun t ht=>h t (by simp at ht;simp [ht]);simp only [e1,e2,e3,e4]
 case DT x=>rw [zw h]
 case EO x=>rw [zw h]
 case tL s b z a x=>rw [zw (x:=a) fun t ht=>h t (by simp [ht]),zw (x:=x) fun t ht=>h t (by simp [ht])]
 case idle i x=>rw [zw h]
 case yu x=>rw [zw h]
 case lu off x=>rw [zw h]
 case iR g s x=>rw [zw h]
 case uy g s x=>rw [zw h]
 case fK s a x ls =>
  have e3:ls.all (fun l=>beside 0 (l.eval env))=ls.all (fun l=>beside 0 (l.eval env)):=rfl;have e4:∀ id,ls.all (fun l=>beside id (l.eval env))=ls.all (fun l=>beside id (l.eval env')):=fun id=>by
   rw [Bool.eq_iff_iff,List.all_eq_true,List.all_eq_true]
   constructor
   .intro hh l hl;rw [<- zw (x:=l) fun t ht=>h t (by simp only [List.mem_append,List.mem_flatMap];exact .inr ⟨l,hl,ht⟩)];exact hh l hl
   .intro hh l hl;rw [zw (x:=l) fun t ht=>h t (by simp only [List.mem_append,List.mem_flatMap];exact .inr ⟨l,hl,ht⟩)];exact hh l hl
  simp only [e4];rw [zw (x:=a) fun t ht=>h t (by simp [ht]),zw (x:=x) fun t ht=>h t (by simp [ht])]
 case uu sz x lo hi =>
  have e1:=zw (x:=x) (env:=env) (env':=env') fun t ht=>h t (by simp [ht]);have e2:∀ n d,bound env n d lo=bound env' n d lo:=fun n d=>JU fun t ht=>h t (by simp [ht]);have e3:∀ n d,bound env n d hi=bound env' n d hi:=fun n d=>JU fun t ht=>h t (by simp [ht]);simp only [e1,e2,e3]
 case jZ s b a x=>rw [zw (x:=a) fun t ht=>h t (by simp [ht]),zw (x:=x) fun t ht=>h t (by simp [ht])]
 case bC s a x=>rw [zw (x:=a) fun t ht=>h t (by simp [ht]),zw (x:=x) fun t ht=>h t (by simp [ht])]
 case fieldAddr off x=>rw [zw h]
 case field off s g x=>rw [zw h]
 case indexAddr sz arr x i=>rw [zw (x:=x) fun t ht=>h t (by simp [ht]),zw (x:=i) fun t ht=>h t (by simp [ht])]
 case index sz l g x i=>rw [zw (x:=x) fun t ht=>h t (by simp [ht]),zw (x:=i) fun t ht=>h t (by simp [ht])]
 case byteAt x i=>rw [zw (x:=x) fun t ht=>h t (by simp [ht]),zw (x:=i) fun t ht=>h t (by simp [ht])]
 case extract i x=>rw [zw h]
 case jG f xs ls =>
  have e1:∀ H2,ls.all (fun l=>keeps H H2 (l.eval env))=ls.all (fun l=>keeps H H2 (l.eval env')):=fun H2=>by
   rw [Bool.eq_iff_iff,List.all_eq_true,List.all_eq_true]
   constructor
   .intro hh l hl;rw [<- zw (x:=l) fun t ht=>h t (by simp only [List.mem_append,List.mem_flatMap];exact .inr ⟨l,hl,ht⟩)];exact hh l hl
   .intro hh l hl;rw [zw (x:=l) fun t ht=>h t (by simp only [List.mem_append,List.mem_flatMap];exact .inr ⟨l,hl,ht⟩)];exact hh l hl
  rw [zw (x:=f) fun t ht=>h t (by simp [ht]),Sn (xs:=xs) fun t ht=>h t (by simp only [List.mem_append];exact .inl (.inr ht))];simp only [e1]
 case call f xs=>rw [zw (x:=f) fun t ht=>h t (by simp [ht]),Sn (xs:=xs) fun t ht=>h t (by simp only [List.mem_append];exact .inr ht)]
 case xu x=>rw [zw h]
 case wP x=>rw [zw h]
 case append s b a x=>rw [zw (x:=a) fun t ht=>h t (by simp [ht]),zw (x:=x) fun t ht=>h t (by simp [ht])]
 case bN m xs=>rw [Sn h]
 case clear z x=>rw [zw h]
 case lookup s z ok a x=>rw [zw (x:=a) fun t ht=>h t (by simp [ht]),zw (x:=x) fun t ht=>h t (by simp [ht])]
 case rJ s c a b =>
  rw [zw (x:=c) fun t ht=>h t (by simp [ht]),zw (x:=a) fun t ht=>h t (by simp [ht]),zw (x:=b) fun t ht=>h t (by simp [ht])]
 case uw x=>rw [zw h]
def nR (H H':Heap):Prop:=∀ id,H.get id≠.dead->(∀ z,H.get id≠.raw z)->H'.get id=H.get id
theorem nR.cells (h:nR H H') {id:Nat} {b:Bool} {cs:List AV} (hg:H.get id=.cells b cs):H'.get id=.cells b cs:=(h id (by rw [hg];simp) (by rw [hg];simp)).trans hg
theorem nR.jh (h:nR H H') {id:Nat} {es:List (PV×PV)} (hg:H.get id=.jh es):H'.get id=.jh es:=(h id (by rw [hg];simp) (by rw [hg];simp)).trans hg
theorem Mc {fr fr':AV->Option (PV×List Nat)} (qE:∀ v r,fr v=some r->fr' v=some r):∀ {cs:List AV} {r:List PV×List Nat},zS fr cs=some r->zS fr' cs=some r
 | [],r,h=>h
 | c::cs,r,h=>by
  unfold zS at h ⊢
  split at h
  .simp at h
  .rename_i p is hp;rw [qE _ _ hp];simp only
   split at h
   .simp at h
   .rename_i qs js hq;rw [Mc qE hq];exact h
theorem zl9 {k:Bool} (h:nR H H'):∀ (n:Nat) (v:AV) (r:PV×List Nat),freeze H k n v=some r->freeze H' k n v=some r:=by
 intro n
 induction n with
 | zero=>intro v r h;simp [freeze] at h
 | succ n ih =>
  intro v r hf;unfold freeze at hf ⊢
  split at hf
  .exact hf
  .split at hf
   .rename_i e;rw [Mc ih e];exact hf
   .simp at hf
  .split at hf
   .rename_i e;rw [Mc ih e];exact hf
   .simp at hf
  .split at hf
   .rename_i e;rw [Mc ih e];exact hf
   .simp at hf
  .split at hf
   .rename_i hg;rw [h.cells hg];simp only
    split at hf
    .rename_i e;rw [Mc ih e];exact hf
    .simp at hf
   .simp at hf
  .split at hf
   .rename_i hg;rw [h.cells hg];simp only
    split at hf
    .rename_i e;rw [Mc ih e];exact hf
    .simp at hf
   .simp at hf
  .split at hf
   .rename_i hg;rw [h.cells hg];simp only
    split at hf
    .rename_i e;rw [Mc ih e];exact hf
    .simp at hf
   .simp at hf
  .simp at hf
theorem zfc (h:nR H H') {s:Nat} {v:AV} {cs:List AV} (hl:zY H s v=some cs):zY H' s v=some cs:=by
 unfold zY at hl ⊢
 split at hl
 .exact hl
 .split at hl
  .rename_i hg;rw [h.cells hg];exact hl
  .simp at hl
 .simp at hl
theorem YG (h:nR H H') {s:Nat} {v:AV} {r:List AV×Nat} (hl:zO H s v=some r):zO H' s v=some r:=by
 unfold zO at hl ⊢
 split at hl
 .exact hl
 .exact hl
 .split at hl
  .rename_i hs;rw [if_pos hs]
   split at hl
   .rename_i hg;rw [h.cells hg];exact hl
   .simp at hl
  .simp at hl
 .simp at hl
theorem zjB (h:nR H H') {op:mI} {e:Eff} (he:sG e=false) (hs:step cl env H op=some e):step cl env H' op=some e:=by
 cases op<;>simp only [step] at hs ⊢
 case load g s x =>
  split at hs
  .rename_i cs hl;rw [zfc h hl];exact hs
  .simp at hs
 case iR g s x =>
  split at hs
  .rename_i cs hl;rw [zfc h hl];exact hs
  .simp at hs
 case store s a x =>
  split at hs
  .split at hs
   .split at hs
    .simp at hs;subst hs;simp [sG] at he
    .simp at hs
   .simp at hs
  .simp at hs
 case jG f xs ls =>
  split at hs
  .split at hs
   .simp at hs;subst hs;simp [sG] at he
   .simp at hs
  .simp at hs
 case fK s a x ls =>
  split at hs
  .split at hs
   .split at hs
    .split at hs
     .simp at hs;subst hs;simp [sG] at he
     .simp at hs
    .simp at hs
   .simp at hs
  .simp at hs
 case slice sz x lo hi =>
  split at hs
  .exact hs
  .exact hs
  .rename_i id s off len hx
   split at hs
   .rename_i si;rw [if_pos si]
    split at hs
    .rename_i N hN;have:Lu H' id sz off len=some N:=by
      unfold Lu at hN ⊢
      split at hN
      .rename_i own cs hg;rw [h.cells hg];exact hN
      .simp at hN
     rw [this];exact hs
    .simp at hs
   .simp at hs
  .simp at hs
 case toStr x =>
  split at hs
  .rename_i cs m hl;rw [YG h hl];exact hs
  .simp at hs
 case call f xs =>
  unfold zH at hs ⊢;have go:∀ (g:Nat) (ys:List AV),(if cl.shared g then
    match cl.run g ys H with
    | some (v,H')=>some (.upd v H')
    | none=>none
   else
    match zS (freeze H true qw) ys with
    | none=>none
    | some (ps,ids) =>
     match cl.pure g ps with
     | none=>none
     | some r=>if ids.isEmpty||r.cold then some (.val (.pure r)) else some (.upd (.pure r) (H.freeze ids)):Option Eff)=some e ->
    (if cl.shared g then
    match cl.run g ys H' with
    | some (v,H')=>some (.upd v H')
    | none=>none
   else
    match zS (freeze H' true qw) ys with
    | none=>none
    | some (ps,ids) =>
     match cl.pure g ps with
     | none=>none
     | some r=>if ids.isEmpty||r.cold then some (.val (.pure r)) else some (.upd (.pure r) (H'.freeze ids)):Option Eff)=some e:=by
   intro g ys hg
   split at hg
   .split at hg
    .simp at hg;subst hg;simp [sG] at he
    .simp at hg
   .rename_i Su;rw [if_neg Su]
    split at hg
    .simp at hg
    .rename_i ps ids hf;rw [Mc (zl9 h qw) hf];simp only
     split at hg
     .simp at hg
     .rename_i r hr
      split at hg
      .rename_i hc;rw [if_pos hc];exact hg
      .simp at hg;subst hg;simp [sG] at he
  split at hs
  .exact go _ _ hs
  .exact go _ _ hs
  .exact go _ _ hs
  .split at hs
   .simp at hs;subst hs;simp [sG] at he
   .simp at hs
  .simp at hs
 case bC s a x =>
  split at hs
  .split at hs
   .split at hs
    .simp at hs;subst hs;simp [sG] at he
    .simp at hs
   .simp at hs
  .simp at hs
 case jZ s b a x =>
  split at hs
  .simp at hs
  .rename_i new m hl;rw [YG h hl];exact hs
 case append s b a x =>
  unfold zm at hs ⊢
  split at hs
  .simp at hs
  .rename_i new m hl;rw [YG h hl];simp only
   split at hs
   .simp at hs
   .rename_i bG;rw [if_neg bG]
    split at hs
    .exact hs
    .split at hs
     .split at hs
      .split at hs
       .simp at hs;subst hs;simp [sG] at he
       .split at hs
        .simp at hs;subst hs;simp [sG] at he
        .simp at hs
      .simp at hs
     .simp at hs
    .split at hs
     .rename_i pM;rw [if_pos pM]
      split at hs
      .rename_i Br;rw [if_pos Br];exact hs
      .rename_i Br;rw [if_neg Br]
       split at hs
       .rename_i hg;rw [h.cells hg];exact hs
       .simp at hs
     .simp at hs
    .simp at hs
 case clear z x =>
  split at hs
  .exact hs
  .split at hs
   .split at hs
    .split at hs
     .simp at hs;subst hs;simp [sG] at he
     .simp at hs
    .simp at hs
   .simp at hs
  .simp at hs
 case lookup s z ok m k =>
  split at hs
  .rename_i id key e1 e2
   split at hs
   .rename_i es hg;simp only [h.jh hg];exact hs
   .simp at hs
  .simp at hs
 case rJ s m k x =>
  split at hs
  .split at hs
   .split at hs
    .simp at hs;subst hs;simp [sG] at he
    .simp at hs
   .simp at hs
  .simp at hs
 case uw x =>
  split at hs
  .rename_i id e1
   split at hs
   .rename_i es hg;simp only [h.jh hg];exact hs
   .simp at hs
  .simp at hs
 all_goals exact hs
end
abbrev Ha (r:Nat):Deferred:={ target:=.collected r,args:=#[] }
structure R (C:jH) (S:Bool->Nat->Prop) (base lo nt:Nat) (φ:jO) (H:Heap) (env:Env) (a:Act) (w:World):Prop where
 heap:aS C S base φ H w
 env:bq (aW S base φ H w) φ w env a
 size:a.tmps.size=nt
 vU:lo<=w.heap.size
 defs:∃ marks:List Nat,a.defers=marks.map Ha/\marks.Nodup/\∀ r∈marks,lo<=r/\w.heap[r]?=some (.deferred (some []))
section
variable {C:jH} {P:Program} {Z:List Nat} {S:Bool->Nat->Prop} {base lo nt:Nat} {φ φ':jO} {H H':Heap} {w w':World} {env env':Env} {a:Act} {e:Eff} {o:Oper}
variable {ro:Option Nat} {n:Nat} {K:Act->World->Prop} {Q:Exit->Act->World->Prop}
theorem zgZ (hH:aS C S base φ H w) {r:Nat} {x:Option (List Deferred)} (h:w.heap[r]?=some (.deferred x)):¬ DX φ H r:=by
 rintro ⟨id,m,au,hl⟩;have ho:=hH.obj _ _ _ au
 cases hg:H.get id with
 | dead=>rw [hg] at hl;simp [aU.live] at hl
 | cells own cs =>
  rw [hg] at ho;obtain ⟨c,t,fz,h1,_⟩:=ho;rw [h] at h1;simp at h1
 | raw z =>
  rw [hg] at ho;obtain ⟨c,t,fz,h1,_⟩:=ho;rw [h] at h1;simp at h1
 | jh es =>
  rw [hg] at ho;obtain ⟨ms,ck,h1,_⟩:=ho;rw [h] at h1;simp at h1
 | loop l =>
  rw [hg] at ho;obtain ⟨l',h1,_⟩:=ho;rw [h] at h1;simp at h1
theorem Qo (hH:aS C S base φ H w) (mJ:ig φ H w φ' H' w') {ds:List Deferred} (h:∃ marks:List Nat,ds=marks.map Ha/\marks.Nodup/\∀ r∈marks,lo<=r/\w.heap[r]?=some (.deferred (some []))) :
  ∃ marks:List Nat,ds=marks.map Ha/\marks.Nodup/\∀ r∈marks,lo<=r/\w'.heap[r]?=some (.deferred (some [])):=by
 obtain ⟨marks,h1,h2,h3⟩:=h
 refine ⟨marks,h1,h2,fun r hr=>?_⟩
 obtain ⟨h4,h5⟩:=h3 r hr;have aO:r < w.heap.size:=by
  rcases Nat.lt_or_ge r w.heap.size with h|h
  .exact h
  .rw [Array.getElem?_eq_none h] at h5;simp at h5
 exact ⟨h4,(mJ.same r aO (zgZ hH h5)).trans h5⟩
theorem zmP {d:Option Nat} {v:Value} (hd:∀ i,d=some i->i < a.tmps.size) (t:Nat):(a.put d v).tmps.getD t undef=if d=some t then v else a.tmps.getD t undef:=by
 cases d with
 | none=>simp [Act.put]
 | some i =>
  have hi:=hd i rfl;simp only [Act.put]
  by_cases h:i=t
  .subst h;simp [hi]
  .simp [h]
theorem zlW {d:Option Nat} {v:Value}:(a.put d v).tmps.size=a.tmps.size:=by cases d<;>simp [Act.put]
theorem zhj {d:Option Nat} {v:Value}:(a.put d v).defers=a.defers:=by cases d<;>rfl
theorem R.put (h:R C S base lo nt φ H env a w) (mJ:ig φ H w φ' H' w') (hH:aS C S base φ' H' w') {d:Option Nat} {av:AV} {v:Value} (hd:∀ i,d=some i->i < nt) (hv:aG (aW S base φ' H' w') φ' w' av v) :
  R C S base lo nt φ' H' (oV env d av) (a.put d v) w':=by
 refine ⟨hH,fun t=>?_,by rw [zlW];exact h.size,Nat.le_trans h.vU mJ.size,?_⟩
 .rw [zmP (by rw [h.size];exact hd)]
  by_cases ht:d=some t
  .subst ht;simp [oV,upd];exact hv
  .rw [if_neg ht];have e:oV env d av t=env t:=by
    cases d with
    | none=>rfl
    | some i=>simp only [oV,upd];rw [if_neg (fun e=>ht (by rw [e]))]
   rw [e];exact mJ.xx (h.env t)
 .rw [zhj];exact Qo h.heap mJ h.defs
theorem R.after (h:R C S base lo nt φ H env a w) {d:Option Nat} {v:Value} (hd:∀ i,d=some i->i < nt) (hp:GM C S base φ H w e v w') :
  ∃ φ',ig φ H w φ' (apply H e).2 w'/\R C S base lo nt φ' (apply H e).2 (oV env d (apply H e).1) (a.put d v) w':=by
 cases e with
 | val av =>
  obtain ⟨h1,h2⟩:=hp;exact ⟨φ,ig.of_below h1,h.put (ig.of_below h1) (h.heap.below h1) hd h2⟩
 | new ob f =>
  obtain ⟨b,m,h1,h2,h3,h4,h5⟩:=hp;have:=h.heap.new (H':=H.alloc ob) (id:=H.nx) h1 (Yy h.heap) NN (fun i hi _=>Lx hi) (Nat.lt_succ_self _) (Nat.le_succ _) h2 h3 h4;exact ⟨_,this.1,h.put this.1 this.2 hd (h5 _ _ _ (BS _ _))⟩
 | upd av H1 =>
  obtain ⟨φ',h1,h2,h3⟩:=hp;exact ⟨φ',h1,h.put h1 h2 hd h3⟩
theorem Sv {I:Bool->Nat->Prop}:aG I φ w (.aQ []) undef:=.aQ [] #[] rfl fun i p v h=>by simp at h
theorem Md {I:Bool->Nat->Prop} (hE:bq I φ w env a) {ops:Array Oper} {g:Option (Nat×Bool)} {g':Option (Option Nat×Bool)} (hg:VL ops g=some g') {b:Bool} (hw:wanted env g'=some b) (tY:o.guard=g) :
  Region.wanted o (yielded ops a.tmps)=b:=by
 unfold VL at hg
 split at hg
 .simp at hg;subst hg;simp [wanted] at hw;subst hw;simp [Region.wanted,tY]
 .rename_i j want
  split at hg
  .rename_i oj hj
   split at hg
   .rename_i d hd;simp at hg;subst hg;simp only [wanted] at hw;have hv:=hE d;simp only [Region.wanted,tY,yielded,hj,Option.bind_some,hd]
    split at hw
    .rename_i x e1;rw [e1] at hv;simp at hw;subst hw;have:=hv.iF;have aO:d < a.tmps.size:=by
      rcases Nat.lt_or_ge d a.tmps.size with h|h
      .exact h
      .simp [Array.getElem?_eq_none h,undef] at this
     have:a.tmps[d]?=some (.bool x):=by simpa [aO] using this
     rw [this];rfl
    .rename_i e1;rw [e1] at hv;simp at hw;subst hw;obtain ⟨vs,e2,e3,_⟩:=hv.tN;have Ce:vs=#[]:=Array.eq_empty_of_size_eq_zero (by simpa using e3.symm);subst Ce;rcases Nat.lt_or_ge d a.tmps.size with h|h
     .have:a.tmps[d]?=some (.tuple #[]):=by simpa [h] using e2
      rw [this];rfl
     .simp [Array.getElem?_eq_none h]
    .simp at hw
   .simp at hg
  .simp at hg
theorem YH {ops:Array Oper} {v:af} (h:VM P Z nt ops o=some v):v.op=F3 Z o.dst ((zN P Z o).getD .stuck)/\VL ops o.guard=some v.guard/\v.dst=o.dst/\∀ i,o.dst=some i->i < nt:=by
 unfold VM at h
 split at h
 .rename_i g' h2
  split at h
  .rename_i d hd
   split at h
   .rename_i aO;simp at h;subst h;exact ⟨by rw [hd],h2,hd.symm,fun i hi=>by rw [hd] at hi;simp at hi;rw [<- hi];exact aO⟩
   .simp at h
  .rename_i hd;simp at h;subst h;exact ⟨by rw [hd],h2,hd.symm,fun i hi=>by rw [hd] at hi;simp at hi⟩
 .simp at h
theorem znX {cl:Callee} (fJ:bI C P cl) {ops:Array Oper}:∀ (l:List Oper) (vs:List af) (k:Nat) (env:Env) (H:Heap) (φ:jO) (a:Act) (w:World) (env':Env) (H':Heap),
  (∀ j,l[j]?=ops[k+j]?)->BX P Z nt ops l=some vs->l6 cl 0 vs env H=some (env',H')->R C S base lo nt φ H env a w ->
  (∀ φ' a' w',ig φ H w φ' H' w'->R C S base lo nt φ' H' env' a' w'->Q .normal a' w')->wpOpsIn (Fw ro) n P ops Q (List.range' k l.length) a w:=by
 intro l
 induction l with
 | nil =>
  intro vs k env H φ a w env' H' hl hc hr hR hQ;simp [BX] at hc;subst hc;simp [l6] at hr;obtain ⟨rfl,rfl⟩:=hr;simp only [List.length_nil,List.range'_zero,wpOpsIn];exact hQ φ a w ig.refl hR
 | cons o l ih =>
  intro vs k env H φ a w env' H' hl hc hr hR hQ;unfold BX at hc
  split at hc
  .simp at hc
  .rename_i v hv
   split at hc
   .simp at hc
   .rename_i vs' pO;simp at hc;subst hc;obtain ⟨p1,p2,p3,p4⟩:=YH hv;have h0:ops[k]?=some o:=by simpa using (hl 0).symm
    have Me:∀ j,l[j]?=ops[k+1+j]?:=fun j=>by have:=hl (j+1);simpa [Nat.add_assoc,Nat.add_comm 1 j] using this
    unfold l6 at hr
    split at hr
    .simp at hr
    .rename_i hw;have qz:=Md hR.env p2 hw rfl;simp only [List.length_cons,List.range'_succ,wpOpsIn,h0,qz,Bool.false_eq_true,if_false]
     refine ⟨fun _ _=>trivial,?_⟩
     have su:=hR.put ig.refl hR.heap (d:=o.dst) p4 (Sv (φ:=φ) (w:=w));rw [p3] at hr;exact ih _ _ _ _ _ _ _ _ _ Me pO hr su hQ
    .rename_i hw;have qz:=Md hR.env p2 hw rfl;simp only [List.length_cons,List.range'_succ,wpOpsIn,h0,qz,if_true]
     split at hr
     .simp at hr
     .rename_i e he
      split at hr
      .rename_i hc;exact absurd rfl hc.1
      .refine We fJ hR.heap hR.env p1 he fun v w' hp=>?_
       obtain ⟨φ',h1,h2⟩:=hR.after (d:=o.dst) p4 hp;rw [p3] at hr;exact ih _ _ _ _ _ _ _ _ _ Me pO hr h2 fun φ'' a' w'' h3 h4=>hQ φ'' a' w'' (h1.trans h3) h4
structure Sol (cl:Callee) (vs:List af) (pre:Nat) (env:Env) (H:Heap) (aT:Env) (Hp:Heap) (ids:Nat->Nat):Prop where
 ext:nR H Hp
 nx:H.nx<=Hp.nx
 keep:∀ id,id < H.nx->Hp.get id=H.get id
 old:∀ t,(∀ (i:Nat) (v:af),i < pre->vs[i]?=some v->v.dst≠some t)->aT t=env t
 JV:∀ i,i < pre->H.nx<=ids i
 He:∀ i j,i < pre->j < pre->(∃ v o f,vs[i]?=some v/\step cl aT Hp v.op=some (.new o f)/\wanted aT v.guard=some true)->(∃ v o f,vs[j]?=some v/\step cl aT Hp v.op=some (.new o f)/\wanted aT v.guard=some true)->ids i=ids j->i=j
 each:∀ (i:Nat) (v:af),i < pre->vs[i]?=some v->(wanted aT v.guard=some false/\(∀ d,v.dst=some d->aT d=.aQ [])) \/
  (wanted aT v.guard=some true/\∃ e,step cl aT Hp v.op=some e/\sG e=false /\
   (match e with
    | .val av=>∀ d,v.dst=some d->aT d=av
    | .new o f=>ids i < Hp.nx/\Hp.get (ids i)=o/\∀ d,v.dst=some d->aT d=f (ids i)
    | .upd _ _=>False))
theorem zjX:nR H H:=fun _ _ _=>rfl
theorem zm4 {H1 H2 H3:Heap} (h:nR H1 H2) (k:nR H2 H3):nR H1 H3:=fun id au hr=>(k id (by rw [h id au hr];exact au) (by rw [h id au hr];exact hr)).trans (h id au hr)
theorem zn5 (o:aU):nR H (H.alloc o):=fun id au _=>Lx (fun e=>by
 subst e;exact absurd (Rx au) (Nat.lt_irrefl _))
theorem YI (cl:Callee) (pre:Nat) (v:af) (vs:List af) (env:Env) (H:Heap):l6 cl pre (v::vs) env H=match wanted env v.guard with
  | none=>none
  | some false=>l6 cl (pre - 1) vs (oV env v.dst (.aQ [])) H
  | some true=>match step cl env H v.op with
   | none=>none
   | some e=>if pre≠0/\sG e then none else l6 cl (pre - 1) vs (oV env v.dst (apply H e).1) (apply H e).2:=rfl
theorem YJ (cl:Callee):∀ (pre:Nat) (vs:List af) (env:Env) (H:Heap) (r:Env×Heap),pre<=vs.length->l6 cl pre vs env H=some r ->
  ∃ aT Hp,l6 cl pre (vs.take pre) env H=some (aT,Hp)/\l6 cl 0 (vs.drop pre) aT Hp=some r
 | 0,vs,env,H,r,hl,h=>⟨env,H,by simp [l6],by simpa using h⟩
 | pre+1,[],env,H,r,hl,h=>by simp at hl
 | pre+1,v::vs,env,H,r,hl,h=>by
  simp only [List.take_succ_cons,List.drop_succ_cons,YI] at h ⊢
  split at h
  .simp at h
  .exact YJ cl pre vs _ _ r (by simpa using hl) h
  .split at h
   .simp at h
   .split at h
    .simp at h
    .rename_i hc;rw [if_neg hc];exact YJ cl pre vs _ _ r (by simpa using hl) h
def Once (vs:List af):Prop:=∀ (i j:Nat) (a b:af),vs[i]?=some a->vs[j]?=some b->∀ d,b.dst=some d->(i≠j->a.dst≠some d)/\(d∈a.reads->j < i)
theorem Once.tail {v:af} {vs:List af} (h:Once (v::vs)):Once vs:=fun i j a b ha hb d hd=>by
 have:=h (i+1) (j+1) a b (by simpa using ha) (by simpa using hb) d hd;exact ⟨fun Hf=>this.1 (fun e=>Hf (Nat.succ.inj e)),fun hm=>by have:=this.2 hm;omega⟩
theorem Qp {v:af} {env env':Env} (h:∀ t∈v.reads,env t=env' t):wanted env v.guard=wanted env' v.guard:=by
 obtain ⟨dst,op,g⟩:=v
 cases g with
 | none=>rfl
 | some g =>
  obtain ⟨d,want⟩:=g
  cases d with
  | none=>rfl
  | some d =>
   simp only [wanted];rw [h d (by simp [af.reads])]
theorem YK (cl:Callee):∀ (vs:List af) (env:Env) (H:Heap) (aT:Env) (Hp:Heap) (pre:Nat),vs.length<=pre->Once vs->l6 cl pre vs env H=some (aT,Hp)->∃ ids,Sol cl vs vs.length env H aT Hp ids
 | [],env,H,aT,Hp,pre,hl,ho,h=>by
  simp [l6] at h;obtain ⟨rfl,rfl⟩:=h;exact ⟨fun _=>H.nx,⟨zjX,Nat.le_refl _,fun _ _=>rfl,fun _ _=>rfl,fun i hi=>by simp at hi,fun i j hi=>by simp at hi,fun i v hi=>by simp at hi⟩⟩
 | v::vs,env,H,aT,Hp,pre,hl,ho,h=>by
  simp only [List.length_cons] at hl;have uJ:pre≠0:=by omega
  -- slots: what this one reads and writes is not written any more
  have MB:∀ t∈v.reads,∀ (j:Nat) b,vs[j]?=some b->b.dst≠some t:=fun t ht j b hb hd=>by
   have:=(ho 0 (j+1) v b rfl (by simpa using hb) t hd).2 ht;omega
  have JW:∀ d,v.dst=some d->∀ (j:Nat) b,vs[j]?=some b->b.dst≠some d:=fun d hd j b hb qO=>by
   have:=(ho 0 (j+1) v b rfl (by simpa using hb) d qO).1 (by omega);exact this hd
  have D6:∀ d,v.dst=some d->d ∉ v.reads:=fun d hd hm=>by
   have:=(ho 0 0 v v rfl rfl d hd).2 hm;omega
  rw [YI] at h
  split at h
  .simp at h
  .rename_i hw;obtain ⟨ids,hs⟩:=YK cl vs _ _ _ _ (pre - 1) (by omega) ho.tail h;have hold:∀ t∈v.reads,aT t=env t:=fun t ht=>by
    rw [hs.old t fun i b hi hb=>MB t ht i b hb]
    cases hd:v.dst with
    | none=>rfl
    | some d=>simp only [oV,upd];rw [if_neg (fun (e:t=d)=>D6 d hd (e ▸ ht))]
   have qz:wanted aT v.guard=some false:=by rw [Qp hold];exact hw
   refine ⟨fun i=>match i with|0=>H.nx|i+1=>ids i,⟨hs.ext,hs.nx,hs.keep,fun t ht=>?_,fun i hi=>?_,fun i j hi hj lU x9 Hf=>?_,fun i b hi hb=>?_⟩⟩
   .rw [hs.old t fun i b hi hb=>ht (i+1) b (by simp;omega) (by simpa using hb)];have:=ht 0 v (by simp) rfl
    cases hd:v.dst with
    | none=>rfl
    | some d=>simp only [oV,upd];rw [if_neg (fun e=>this (by rw [hd,e]))]
   .cases i with
    | zero=>exact Nat.le_refl _
    | succ i=>exact hs.JV i (by simpa using hi)
   .cases i with
    | zero=>obtain ⟨b,o,f,e1,_,e3⟩:=lU;simp at e1;subst e1;rw [qz] at e3;simp at e3
    | succ i =>
     cases j with
     | zero=>obtain ⟨b,o,f,e1,_,e3⟩:=x9;simp at e1;subst e1;rw [qz] at e3;simp at e3
     | succ j=>rw [hs.He i j (by simpa using hi) (by simpa using hj) (by simpa using lU) (by simpa using x9) Hf]
   .cases i with
    | zero =>
     simp at hb;subst hb
     refine .inl ⟨qz,fun d hd=>?_⟩
     rw [hs.old d fun i b hi hb=>JW d hd i b hb,hd];simp [oV,upd]
    | succ i =>
     simp only [List.length_cons] at hi;exact hs.each i b (by omega) (by simpa using hb)
  .rename_i hw
   split at h
   .simp at h
   .rename_i e he
    split at h
    .simp at h
    .rename_i aH;have N9:sG e=false:=by
      cases hb:sG e with
      | false=>rfl
      | true=>exact absurd ⟨uJ,hb⟩ aH
     obtain ⟨ids,hs⟩:=YK cl vs _ _ _ _ (pre - 1) (by omega) ho.tail h;have hold:∀ t∈v.reads,aT t=env t:=fun t ht=>by
      rw [hs.old t fun i b hi hb=>MB t ht i b hb]
      cases hd:v.dst with
      | none=>rfl
      | some d=>simp only [oV,upd];rw [if_neg (fun (e:t=d)=>D6 d hd (e ▸ ht))]
     have qz:wanted aT v.guard=some true:=by rw [Qp hold];exact hw
     have y9:nR H (apply H e).2/\H.nx<=(apply H e).2.nx:=by
      cases e with
      | val av=>exact ⟨zjX,Nat.le_refl _⟩
      | new o f=>exact ⟨zn5 o,Nat.le_succ _⟩
      | upd av H'=>simp [sG] at N9
     have MC:=zm4 y9.1 hs.ext;have wV:∀ id,id < H.nx->(apply H e).2.get id=H.get id:=fun id au=>by
      cases e with
      | val av=>rfl
      | new o f=>exact Lx (by omega)
      | upd av H'=>simp [sG] at N9
     have Hg:step cl aT Hp v.op=some e:=by
      refine zjB MC N9 ?_
      rw [Sr (env':=env) fun t ht=>hold t (by simp [af.reads,ht])];exact he
     have lV:∀ d,v.dst=some d->aT d=(apply H e).1:=fun d hd=>by
      rw [hs.old d fun i b hi hb=>JW d hd i b hb,hd];simp [oV,upd]
     refine ⟨fun i=>match i with|0=>H.nx|i+1=>ids i,⟨MC,Nat.le_trans y9.2 hs.nx,fun id au=>(hs.keep id (Nat.lt_of_lt_of_le au y9.2)).trans (wV id au),fun t ht=>?_,fun i hi=>?_,fun i j hi hj lU x9 Hf=>?_,fun i b hi hb=>?_⟩⟩
     .rw [hs.old t fun i b hi hb=>ht (i+1) b (by simp;omega) (by simpa using hb)];have:=ht 0 v (by simp) rfl
      cases hd:v.dst with
      | none=>rfl
      | some d=>simp only [oV,upd];rw [if_neg (fun e=>this (by rw [hd,e]))]
     .cases i with
      | zero=>exact Nat.le_refl _
      | succ i=>exact Nat.le_trans y9.2 (hs.JV i (by simpa using hi))
     ·-- a fresh name is not given again
      have first:∀ j,j < vs.length->(∃ b o f,(v::vs)[0]?=some b/\step cl aT Hp b.op=some (.new o f)/\wanted aT b.guard=some true)->H.nx≠ids j:=by
       rintro j hj ⟨b,o,f,e1,e2,_⟩;simp at e1;subst e1;rw [Hg] at e2;simp at e2;subst e2;have h1:=hs.JV j hj;have h2:(apply H (.new o f)).2.nx=H.nx+1:=rfl;omega
      cases i with
      | zero =>
       cases j with
       | zero=>rfl
       | succ j=>exact absurd Hf (first j (by simpa using hj) lU)
      | succ i =>
       cases j with
       | zero=>exact absurd Hf.symm (first i (by simpa using hi) x9)
       | succ j=>rw [hs.He i j (by simpa using hi) (by simpa using hj) (by simpa using lU) (by simpa using x9) Hf]
     .cases i with
      | zero =>
       simp at hb;subst hb
       refine .inr ⟨qz,e,Hg,N9,?_⟩
       cases e with
       | val av=>exact lV
       | new o f =>
        refine ⟨Nat.lt_of_lt_of_le (Nat.lt_succ_self _) hs.nx,?_,lV⟩
        have h1:(H.alloc o).get H.nx=o:=NN;have h2:=hs.keep H.nx (Nat.lt_succ_self _);exact h2.trans h1
       | upd av H'=>simp [sG] at N9
      | succ i =>
       simp only [List.length_cons] at hi;exact hs.each i b (by omega) (by simpa using hb)
end
theorem ziZ {p q:Nat->Bool} {i:Nat} (hi:p i=true) (hq:∀ j,q j=if j=i then false else p j):∀ n,i < n->(List.range n).countP p=(List.range n).countP q+1
 | 0,h=>by omega
 | n+1,h=>by
  rw [List.range_succ,List.countP_append,List.countP_append]
  by_cases hn:n=i
  .subst hn;have:(List.range n).countP p=(List.range n).countP q:=by
    apply List.countP_congr;intro j hj;have:j≠n:=by have:=List.mem_range.1 hj;omega
    rw [hq,if_neg this]
   rw [this];simp [hi,hq]
  .rw [ziZ hi hq n (by omega)];have:q n=p n:=by rw [hq,if_neg hn]
   simp only [List.countP_cons,List.countP_nil,this];omega
section
variable {C:jH} {P:Program} {Z:List Nat} {S:Bool->Nat->Prop} {base lo nt:Nat} {φ φ' φ0:jO} {H H':Heap} {w w' w0:World} {env env' aT:Env} {a:Act} {e:Eff} {o:Oper} {Hp:Heap}
variable {ro:Option Nat} {n:Nat} {K:Act->World->Prop} {Q:Exit->Act->World->Prop}
theorem Sz {ops:Array Oper}:∀ {l:List Oper} {vs:List af},BX P Z nt ops l=some vs->vs.length=l.length/\∀ (i:Nat) v,vs[i]?=some v->∃ o,l[i]?=some o/\VM P Z nt ops o=some v
 | [],vs,h=>by simp [BX] at h;subst h;exact ⟨rfl,fun i v h=>by simp at h⟩
 | o::l,vs,h=>by
  unfold BX at h
  split at h
  .simp at h
  .rename_i v hv
   split at h
   .simp at h
   .rename_i vs' pO;simp at h;subst h;have ih:=Sz pO
    refine ⟨by simp [ih.1],fun i u hu=>?_⟩
    cases i with
    | zero=>simp at hu;subst hu;exact ⟨o,rfl,hv⟩
    | succ i=>simp at hu;simpa using ih.2 i u hu
inductive lI (ops:Array Oper):Nat->Nat->Prop
 | edge (i:Nat) (o:Oper) (e:Edge) (h:ops[i]?=some o) (he:e∈o.after) (hb:Region.binds .any e=true):lI ops i e.on
 | trans (i j:Nat) (o:Oper) (e:Edge) (h:ops[i]?=some o) (he:e∈o.after) (hb:Region.binds .any e=true) (ht:lI ops e.on j):lI ops i j
theorem lI.done {ops:Array Oper} {L:Array Bool} (hc:∀ i o,ops[i]?=some o->L.getD i true=true->∀ e∈o.after,Region.binds .any e=true->L.getD e.on true=true)
  {i j:Nat} (h:lI ops i j):(∀ o,ops[i]?=some o->∀ e∈o.after,Region.binds .any e=true->L.getD e.on true=true)->L.getD j true=true:=by
 induction h with
 | edge i o e h he hb=>intro hd;exact hd o h e he hb
 | trans i j o e h he hb ht ih=>intro hd;exact ih fun o' Eh=>hc _ o' Eh (hd o h e he hb)
theorem zmD {ops:Array Oper} {ms:List Nat} (Jg:∀ i j,(ms.getD i 0).testBit j=true->lI ops i j) {i:Nat} {o:Oper} (ho:ops[i]?=some o) {j:Nat} (h:(zqL ms o).testBit j=true):lI ops i j:=by
 have main:∀ (l:List Edge) (m:Nat),(∀ e∈l,e∈o.after)->(m.testBit j=true->lI ops i j) ->
   (l.foldl (fun m e=>if Region.binds .any e then m ||| (2 ^ e.on) ||| ms.getD e.on 0 else m) m).testBit j=true->lI ops i j:=by
  intro l
  induction l with
  | nil=>intro m _ hm h;exact hm h
  | cons e l ih =>
   intro m hl hm h
   refine ih _ (fun e' Hg=>hl e' (List.mem_cons_of_mem _ Hg)) (fun hb=>?_) h
   simp only at hb
   split at hb
   .rename_i hbi;rw [Nat.testBit_or,Nat.testBit_or,Bool.or_eq_true,Bool.or_eq_true] at hb;rcases hb with (hb|hb)|hb
    .exact hm hb
    .rw [Nat.testBit_two_pow] at hb;simp at hb;subst hb;exact .edge i o e ho (hl e (List.mem_cons_self ..)) hbi
    .exact .trans i j o e ho (hl e (List.mem_cons_self ..)) hbi (Jg _ _ hb)
   .exact hm hb
 exact main o.after.toList 0 (fun e he=>by simpa using he) (fun h=>by simp at h) h
theorem SA {ops:Array Oper}:∀ (os:List Oper) (ms:List Nat),(∀ k,os[k]?=ops[ms.length+k]?)->(∀ i j,(ms.getD i 0).testBit j=true->lI ops i j) ->
  ∀ i j,((masks os ms).getD i 0).testBit j=true->lI ops i j
 | [],ms,_,Jg=>Jg
 | o::os,ms,ho,Jg=>by
  unfold masks
  refine SA os _ (fun k=>?_) fun i j h=>?_
  .have:=ho (k+1);simp only [List.getElem?_cons_succ] at this;rw [this];simp only [List.length_append,List.length_cons,List.length_nil]
   congr 1
   omega
  .have h0:=ho 0;simp only [List.getElem?_cons_zero,Nat.add_zero] at h0;rcases Nat.lt_trichotomy i ms.length with aO|heq|hgt
   .refine Jg i j ?_
    simpa [List.getD_eq_getElem?_getD,List.getElem?_append_left aO] using h
   .subst heq
    refine zmD Jg h0.symm ?_
    simpa [List.getD_eq_getElem?_getD] using h
   .rw [List.getD_eq_getElem?_getD,List.getElem?_eq_none (by simp;omega)] at h;simp at h
structure CF (ops:Array Oper) (vs:List af) (pre:Nat):Prop where
 back:∀ i o,ops[i]?=some o->∀ e∈o.after,Region.binds .any e=true->e.on < i
 wait:∀ i o,ops[i]?=some o->pre+inits vs pre<=i->∀ j,j < i->D8 vs j=false->lI ops i j
 Wi:∀ i,pre<=i->i < pre+inits vs pre->i < ops.size/\∃ s a x,vs[i]?=some ⟨none,.bC s (.tmp a) x,none⟩ /\
  ∀ o,ops[i]?=some o->∀ (j:Nat) (y:af) d,j < pre->vs[j]?=some y->y.dst=some d->d∈af.reads ⟨none,.bC s (.tmp a) x,none⟩->∃ e∈o.after,Region.binds .any e=true/\e.on=j
 idle:∀ (i:Nat) v,vs[i]?=some v->vP v=true->i < pre/\v.guard=none/\∃ d,v.dst=some d/\∀ (j:Nat) b,pre<=j->vs[j]?=some b->b.dst≠some d/\(∀ t∈v.op.reads,b.dst≠some t)/\(d∈b.plain.reads->lI ops j i)
 mem:∀ (i j:Nat) (v b:af) (x:aa),vs[i]?=some v->LH v=some x->pre<=j->vs[j]?=some b->RH b=true\/VO b x=true\/lI ops j i
 once:∀ (i j:Nat) (x y:af) o,i < pre->j < pre->vs[i]?=some x->vs[j]?=some y->ops[i]?=some o->∀ d,y.dst=some d->(i≠j->x.dst≠some d)/\(d∈x.reads->j < i/\∃ e∈o.after,Region.binds .any e=true/\e.on=j)
theorem zgE {α:Type} {p:α->Bool}:∀ {l:List α} {i:Nat},i < (l.takeWhile p).length->∃ a,l[i]?=some a/\p a=true
 | [],i,h=>by simp at h
 | b::l,i,h=>by
  rw [List.takeWhile_cons] at h
  split at h
  .rename_i hb
   cases i with
   | zero=>exact ⟨b,rfl,hb⟩
   | succ i=>simpa using zgE (l:=l) (i:=i) (by simpa using h)
  .simp at h
theorem zl7 {ops:Array Oper} {vs:List af} {pre:Nat} (LX:vs.length=ops.size) (h:Jb ops vs pre=true):CF ops vs pre:=by
 unfold Jb at h;simp only [Bool.and_eq_true,List.all_eq_true,List.mem_range] at h;obtain ⟨⟨⟨⟨⟨⟨h1,h2⟩,h6⟩,h8⟩,h7⟩,h4⟩,h3⟩:=h;have bf:∀ i o,ops[i]?=some o->i < ops.size/\ops.getD i default=o:=fun i o ho=>by
  have aO:=(Array.getElem?_eq_some_iff.1 ho).1
  refine ⟨aO,?_⟩
  have:=(Array.getElem?_eq_some_iff.1 ho).2;simp [aO,this]
 have YL:∀ (o:Oper) j,VN o j=true->∃ e∈o.after,Region.binds .any e=true/\e.on=j:=fun o j hm=>by
  unfold VN at hm;rw [Array.any_eq_true'] at hm;obtain ⟨e,he,hb⟩:=hm;simp at hb;exact ⟨e,he,hb.2,hb.1⟩
 refine ⟨fun i o ho e he hb=>?_,fun i o ho hpi j hj l9=>?_,fun i hpi YM=>?_,fun i v hv l9=>?_,fun i j v b x hv hm hj hb=>?_,fun i j x y o hi hj hx hy ho d hd=>?_⟩
 .obtain ⟨aO,hg⟩:=bf i o ho;have:=h1 i aO;rw [hg,Array.all_eq_true'] at this;have:=this e he;simp [hb] at this;exact this
 .obtain ⟨aO,hg⟩:=bf i o ho;have:=h2 i aO;simp only [Bool.or_eq_true,decide_eq_true_eq] at this;rcases this with h|h
  .omega
  .refine SA (ops:=ops) ops.toList [] (fun k=>by simp) (fun i j h=>by simp at h) i j ?_
   unfold XX at h;have:=List.all_eq_true.1 h j (List.mem_range.2 hj);rw [l9,Bool.or_false] at this;exact this
 .have hx:i - pre < ((vs.drop pre).takeWhile Qd).length:=by unfold inits at YM;omega
  obtain ⟨v,hv,bD⟩:=zgE hx;rw [List.getElem?_drop,show pre+(i - pre)=i by omega] at hv;unfold Qd at bD
  split at bD
  .rename_i s a x;have jo:i < ops.size:=by
    rcases Nat.lt_or_ge i ops.size with h|h
    .exact h
    .exfalso;have:=LX;have:=(List.getElem?_eq_some_iff.1 hv).1;omega
   refine ⟨jo,s,a,x,hv,?_⟩
   have:=h6 i jo;simp only [Bool.or_eq_true,decide_eq_true_eq] at this;rcases this with (h|h)|h
   .omega
   .omega
   .unfold zq3 at h;rw [hv] at h;simp only [List.all_eq_true,List.mem_range] at h;have h9:=h
    refine fun o ho j y d hj hy hd hm=>?_
    have:=h9 j hj;rw [hy] at this;simp only [hd] at this;rw [(bf i o ho).2] at this;simp only [Bool.or_eq_true,Bool.not_eq_true',List.contains_eq_mem,decide_eq_false_iff_not] at this;rcases this with h|h
    .exact absurd hm h
    .exact YL o j h
  .simp at bD
 .have aO:i < vs.length:=(List.getElem?_eq_some_iff.1 hv).1;have:=h4 i aO;rw [hv] at this;simp only [l9,Bool.not_true,Bool.false_or,Bool.and_eq_true,decide_eq_true_eq] at this
  refine ⟨this.1,?_⟩
  have h5:=this.2;unfold zrb at h5
  split at h5
  .rename_i d hd ME
   refine ⟨ME,d,hd,fun j b hj hb=>?_⟩
   have j4:j < vs.length:=(List.getElem?_eq_some_iff.1 hb).1;have:=List.all_eq_true.1 h5 j (List.mem_range.2 j4);rw [hb] at this;simp only [Bool.or_eq_true,decide_eq_true_eq,Bool.and_eq_true,bne_iff_ne,ne_eq,List.all_eq_true,Bool.not_eq_true',List.contains_eq_mem,decide_eq_false_iff_not] at this;rcases this with h|h
   .omega
   .refine ⟨h.1.1,h.1.2,fun hm=>?_⟩
    rcases h.2 with h6|h6
    .exact absurd hm h6
    .exact SA (ops:=ops) ops.toList [] (fun k=>by simp) (fun i j h=>by simp at h) j i h6
  .simp at h5
 .have aX:i < vs.length:=(List.getElem?_eq_some_iff.1 hv).1;have j4:j < vs.length:=(List.getElem?_eq_some_iff.1 hb).1;have h9:=h8 i aX;rw [hv] at h9;simp only [hm,List.all_eq_true,List.mem_range] at h9;have h10:=h9 j j4;rw [hb] at h10;simp only [Bool.or_eq_true,decide_eq_true_eq] at h10;rcases h10 with h|(h|h)|h
  .omega
  .exact .inl h
  .exact .inr (.inl h)
  .exact .inr (.inr (SA (ops:=ops) ops.toList [] (fun k=>by simp) (fun i j h=>by simp at h) j i h))
 .obtain ⟨aO,hg⟩:=bf i o ho;have:=h3 i hi j hj;rw [hx,hy] at this;simp only [hd] at this;rw [hg] at this;simp at this
  refine ⟨fun Hf=>?_,fun hm=>?_⟩
  .rcases this.1 with h|h
   .exact absurd h Hf
   .exact h
  .rcases this.2 with h|h
   .exact absurd hm h
   .exact ⟨h.1,YL o j h.2⟩
theorem YN {ops:Array Oper} {vs:List af} {pre:Nat} (h:Jb ops vs pre=true):pre<=ops.size:=by
 unfold Jb at h;simp only [Bool.and_eq_true,decide_eq_true_eq] at h;exact h.1.1.2
theorem aS.ext' (h:aS C S base φ H w) (hk:∀ id,id < H.nx->Hp.get id=H.get id) (bX:H.nx<=Hp.nx):ig φ H w φ Hp w/\aS C S base φ Hp w:=by
 have bf:∀ id x,φ id=some x->Hp.get id=H.get id:=fun id x hx=>hk id (h.nx _ _ hx);have mJ:ig φ H w φ Hp w:=⟨fun _ _ h=>h,rfl,rfl,rfl,Nat.le_refl _,fun _ _ _=>rfl,fun b _ ⟨id,m,au,hl⟩=>⟨id,m,au,by rw [<- bf _ _ au];exact hl⟩,bX⟩
 refine ⟨mJ,h.sz,h.out,fun id x hx=>Nat.lt_of_lt_of_le (h.nx _ _ hx) bX,h.lt,fun id b m au=>?_,fun i j b m m' hi hj di dj=>h.inj _ _ _ _ _ hi hj (by rw [<- bf _ _ hi];exact di) (by rw [<- bf _ _ hj];exact dj)⟩
 rw [bf _ _ au];exact (h.obj _ _ _ au).mono (fun _ b hb=>mJ.DZ hb) (fun _ _ h=>h) rfl
def Wj (cl:Callee) (vs:List af) (aT:Env) (Hp:Heap) (i:Nat):Prop:=∃ v o f,vs[i]?=some v/\step cl aT Hp v.op=some (.new o f)/\wanted aT v.guard=some true
structure Oa (ops:Array Oper) (C:jH) (S:Bool->Nat->Prop) (base lo nt:Nat) (cl:Callee) (vs:List af) (pre:Nat) (aT:Env) (Hp:Heap) (hc:Array Bool->Heap) (ids:Nat->Nat) (φ0:jO) (H:Heap) (w0:World) (L:Array Bool) (φ:jO) (a:Act) (w:World):Prop where
 heap:aS C S base φ (hc L) w
 env:∀ t,(∀ (i:Nat) v,i < pre->L.getD i true=false->vs[i]?=some v->v.dst≠some t)->aG (aW S base φ (hc L) w) φ w (aT t) (a.tmps.getD t undef)
 size:a.tmps.size=nt
 vU:lo<=w.heap.size
 defs:∃ marks:List Nat,a.defers=marks.map Ha/\marks.Nodup/\∀ r∈marks,lo<=r/\w.heap[r]?=some (.deferred (some []))
 phi:∀ i,i < pre->L.getD i true=false->Wj cl vs aT Hp i->φ (ids i)=none
 closed:∀ i o,ops[i]?=some o->L.getD i true=true->∀ e∈o.after,Region.binds .any e=true->L.getD e.on true=true
 YO:ig φ0 H w0 φ (hc L) w
theorem YP {L:Array Bool} {i j:Nat} (d:Bool):(L.setIfInBounds i true).getD j d=if i=j/\j < L.size then true else L.getD j d:=by
 by_cases h:i=j
 .subst h
  by_cases hl:i < L.size
  .simp [hl]
  .simp [hl]
 .simp [h]
structure wW (cl:Callee) (vs:List af) (pre k:Nat) (aT:Env) (Hp:Heap) (tgt:Nat->Nat) (obj:Nat->aU):Prop where
 each:∀ i,pre<=i->i < pre+k->∀ s a x,vs[i]?=some ⟨none,.bC s (.tmp a) x,none⟩->∃ off z,aT a=.box (tgt i) off/\Hp.get (tgt i)=.raw z/\∀ Hq,Hq.get (tgt i)=.raw z->step cl aT Hq (.bC s (.tmp a) x)=some (.upd (.aQ []) (Hq.set (tgt i) (obj i)))
 inj:∀ i j,pre<=i->i < pre+k->pre<=j->j < pre+k->tgt i=tgt j->i=j
 cells:∀ i,pre<=i->i < pre+k->(∃ cs,obj i=.cells true cs)/\∃ z,Hp.get (tgt i)=.raw z
theorem znt {cl:Callee} {s:Nat} {x y:aa} (h:step cl env H (.bC s x y)=some e):∃ id off z cs,x.eval env=.box id off/\H.get id=.raw z/\(∀ H2,H2.get id=.raw z->step cl env H2 (.bC s x y)=some (.upd (.aQ []) (H2.set id (.cells true cs))))/\e=.upd (.aQ []) (H.set id (.cells true cs)):=by
 simp only [step] at h
 split at h
 .rename_i id off h1
  split at h
  .rename_i z h2
   split at h
   .rename_i h3;simp only [Option.some.injEq] at h;exact ⟨id,off,z,_,h1,h2,fun H2 h4=>by simp only [step,h1,h4];rw [if_pos h3],h.symm⟩
   .simp at h
  .simp at h
 .simp at h
noncomputable def iK (Hp:Heap) (pre k:Nat) (tgt:Nat->Nat) (obj:Nat->aU) (L:Array Bool):Heap :=
 ⟨Hp.nx,fun id=>open Classical in if h:∃ i,pre<=i/\i < pre+k/\L.getD i true=true/\tgt i=id then obj (Classical.choose h) else Hp.arr id⟩
section
variable {cl:Callee} {vs:List af} {pre k:Nat} {tgt:Nat->Nat} {obj:Nat->aU} {L:Array Bool}
theorem YQ {id:Nat} (h:∀ i,pre<=i->i < pre+k->L.getD i true=true->tgt i≠id):(iK Hp pre k tgt obj L).get id=Hp.get id:=by
 unfold Heap.get iK;simp only;rw [dif_neg (by rintro ⟨i,h1,h2,h3,h4⟩;exact h i h1 h2 h3 h4)]
theorem Qq (hi:wW cl vs pre k aT Hp tgt obj) {i:Nat} (h1:pre<=i) (h2:i < pre+k) (h3:L.getD i true=true):(iK Hp pre k tgt obj L).arr (tgt i)=obj i:=by
 unfold iK;simp only;have h:∃ j,pre<=j/\j < pre+k/\L.getD j true=true/\tgt j=tgt i:=⟨i,h1,h2,h3,rfl⟩
 rw [dif_pos h];obtain ⟨q1,q2,q3,q4⟩:=Classical.choose_spec h;rw [hi.inj _ _ q1 q2 h1 h2 q4]
theorem Qr {id:Nat} (h:∀ i,pre<=i->i < pre+k->L.getD i true=true->tgt i≠id):(iK Hp pre k tgt obj L).arr id=Hp.arr id:=by
 unfold iK;simp only;rw [dif_neg (by rintro ⟨i,h1,h2,h3,h4⟩;exact h i h1 h2 h3 h4)]
theorem znS {L':Array Bool} (hi:wW cl vs pre k aT Hp tgt obj) (h:∀ i,pre<=i->i < pre+k->L'.getD i true=L.getD i true):iK Hp pre k tgt obj L'=iK Hp pre k tgt obj L:=by
 refine Heap.ext' rfl fun id=>?_
 by_cases hx:∃ i,pre<=i/\i < pre+k/\L.getD i true=true/\tgt i=id
 .obtain ⟨i,h1,h2,h3,rfl⟩:=hx;rw [Qq hi h1 h2 h3,Qq hi h1 h2 (by rw [h i h1 h2];exact h3)]
 .rw [Qr (fun i h1 h2 h3 h4=>hx ⟨i,h1,h2,h3,h4⟩),Qr (fun i h1 h2 h3 h4=>hx ⟨i,h1,h2,by rw [<- h i h1 h2];exact h3,h4⟩)]
theorem zqD (hi:wW cl vs pre k aT Hp tgt obj) {i:Nat} (h1:pre<=i) (h2:i < pre+k) (hL:i < L.size):(iK Hp pre k tgt obj L).set (tgt i) (obj i)=iK Hp pre k tgt obj (L.setIfInBounds i true):=by
 refine Heap.ext' rfl fun id=>?_
 show upd _ _ _ id=_;simp only [upd]
 split
 .rename_i he;subst he;rw [Qq hi h1 h2 (by rw [YP,if_pos ⟨rfl,hL⟩])]
 .rename_i bJ
  by_cases hx:∃ j,pre<=j/\j < pre+k/\L.getD j true=true/\tgt j=id
  .obtain ⟨j,q1,q2,q3,rfl⟩:=hx;have q5:(L.setIfInBounds i true).getD j true=true:=by
    rw [YP]
    split
    .rfl
    .exact q3
   rw [Qq hi q1 q2 q3,Qq hi q1 q2 q5]
  .rw [Qr (fun j q1 q2 q3 q4=>hx ⟨j,q1,q2,q3,q4⟩),Qr (fun j q1 q2 q3 q4=>?_)];rw [YP] at q3
   split at q3
   .rename_i hh;obtain ⟨rfl,_⟩:=hh;exact bJ q4.symm
   .exact hx ⟨j,q1,q2,q3,q4⟩
theorem zmi (hi:wW cl vs pre k aT Hp tgt obj):nR Hp (iK Hp pre k tgt obj L):=fun id _ hr=>YQ fun i h1 h2 _ he=>by
 obtain ⟨_,z,hz⟩:=hi.cells i h1 h2;rw [he] at hz;exact hr z hz
theorem zkH (LX:∀ i,pre<=i->i < pre+k->∃ s a x,vs[i]?=some ⟨none,.bC s (.tmp a) x,none⟩) {r:Env×Heap} (hr:l6 cl 0 (vs.drop pre) aT Hp=some r) :
  ∃ tgt obj HI,wW cl vs pre k aT Hp tgt obj/\HI.nx=Hp.nx/\(∀ id,(∀ i,pre<=i->i < pre+k->tgt i≠id)->HI.arr id=Hp.arr id)/\(∀ i,pre<=i->i < pre+k->HI.arr (tgt i)=obj i)/\l6 cl 0 (vs.drop (pre+k)) aT HI=some r:=by
 induction k with
 | zero=>exact ⟨fun _=>0,fun _=>.dead,Hp,⟨fun i h1 h2=>by omega,fun i j h1 h2=>by omega,fun i h1 h2=>by omega⟩,rfl,fun _ _=>rfl,fun i h1 h2=>by omega,hr⟩
 | succ k ih =>
  obtain ⟨tgt,obj,HI,hi,hn,ha,hb,bP⟩:=ih fun i h1 h2=>LX i h1 (by omega);obtain ⟨s,a,x,hv⟩:=LX (pre+k) (by omega) (by omega);have hd:vs.drop (pre+k)=⟨none,.bC s (.tmp a) x,none⟩::vs.drop (pre+(k+1)):=by
   have aO:=(List.getElem?_eq_some_iff.1 hv)
   rw [List.drop_eq_getElem_cons aO.1,aO.2];rfl
  rw [hd] at bP;simp only [l6,wanted,oV] at bP
  split at bP
  .simp at bP
  .rename_i ee hs;obtain ⟨id,off,z,cs,q1,q2,q3,rfl⟩:=znt hs;simp only [sG,apply] at bP;rw [if_neg (by simp)] at bP;have aO:id < HI.nx:=Rx (by rw [q2];simp);have mQ:HI.arr id=.raw z:=by unfold Heap.get at q2;rw [if_pos aO] at q2;exact q2
   have xE:∀ i,pre<=i->i < pre+k->tgt i≠id:=fun i h1 h2 he=>by
    have:=hb i h1 h2;rw [he,mQ] at this;obtain ⟨⟨cs',uD⟩,_⟩:=hi.cells i h1 h2;rw [uD] at this;simp at this
   have hHp:Hp.get id=.raw z:=by
    unfold Heap.get;rw [if_pos (by omega),<- ha id xE];exact mQ
   have t1:∀ i,i < pre+k->upd tgt (pre+k) id i=tgt i:=fun i h=>by simp only [upd];rw [if_neg (by omega)]
   have t2:upd tgt (pre+k) id (pre+k)=id:=by simp [upd]
   have o1:∀ i,i < pre+k->upd obj (pre+k) (.cells true cs) i=obj i:=fun i h=>by simp only [upd];rw [if_neg (by omega)]
   have o2:upd obj (pre+k) (.cells true cs) (pre+k)=.cells true cs:=by simp [upd]
   refine ⟨upd tgt (pre+k) id,upd obj (pre+k) (.cells true cs),HI.set id (.cells true cs),⟨fun i h1 h2 s' a' x' qx=>?_,fun i j h1 h2 h3 h4 he=>?_,fun i h1 h2=>?_⟩,hn,fun YR h=>?_,fun i h1 h2=>?_,bP⟩
   .rcases Nat.lt_or_ge i (pre+k) with h|h
    .rw [t1 i h,o1 i h];exact hi.each i h1 h s' a' x' qx
    .have:i=pre+k:=by omega
     subst this;rw [hv] at qx;simp only [Option.some.injEq,af.mk.injEq,mI.bC.injEq,aa.tmp.injEq,true_and,and_true] at qx;obtain ⟨rfl,rfl,rfl⟩:=qx;rw [t2,o2];exact ⟨off,z,q1,hHp,q3⟩
   .rcases Nat.lt_or_ge i (pre+k) with h|h<;>rcases Nat.lt_or_ge j (pre+k) with h'|h'
    .rw [t1 i h,t1 j h'] at he;exact hi.inj i j h1 h h3 h' he
    .rw [t1 i h,show j=pre+k by omega,t2] at he;exact absurd he (xE i h1 h)
    .rw [t1 j h',show i=pre+k by omega,t2] at he;exact absurd he.symm (xE j h3 h')
    .omega
   .rcases Nat.lt_or_ge i (pre+k) with h|h
    .rw [t1 i h,o1 i h];exact hi.cells i h1 h
    .rw [show i=pre+k by omega,t2,o2];exact ⟨⟨cs,rfl⟩,z,hHp⟩
   .have bJ:=h (pre+k) (by omega) (by omega);rw [t2] at bJ;show upd _ _ _ YR=_;simp only [upd];rw [if_neg (fun e=>bJ e.symm)];exact ha YR fun i h1 h2=>by have:=h i h1 (by omega);rwa [t1 i h2] at this
   .show upd _ _ _ _=_;rcases Nat.lt_or_ge i (pre+k) with h|h
    .rw [t1 i h,o1 i h];simp only [upd];rw [if_neg (xE i h1 h)];exact hb i h1 h
    .rw [show i=pre+k by omega,t2,o2];simp [upd]
theorem zjq {P:Program} {Z:List Nat} {o:Oper} {s:Nat} {x y:aa} (h:mI.bC s x y=F3 Z none ((zN P Z o).getD .stuck)):.store s x y=(zN P Z o).getD .stuck:=by
 unfold F3 at h;simp only at h
 split at h
 .rename_i s' t x' hx
  split at h
  .simp only [mI.bC.injEq] at h;obtain ⟨rfl,rfl,rfl⟩:=h;exact hx.symm
  .split at h<;>simp at h
 .exfalso
  cases hc:zN P Z o with
  | none=>rw [hc] at h;simp at h
  | some v =>
   rw [hc] at h;simp only [Option.getD_some] at h;subst h;unfold zN at hc
   revert hc
   (repeat' split)<;>simp
end
theorem zT {L:Array Bool} {i j:Nat} (d:Bool):(L.setIfInBounds i true).getD j d=if i=j/\j < L.size then true else L.getD j d:=by
 by_cases h:i=j
 .subst h
  by_cases hl:i < L.size
  .simp [hl]
  .simp [hl]
 .simp [h]
theorem YS {ops:Array Oper} {L:Array Bool} (hL:L.size=ops.size) (Hl:∀ i o,ops[i]?=some o->∀ e∈o.after,Region.binds .any e=true->e.on < i)
  (hex:∃ i,i < ops.size/\L.getD i true=false):Region.ready .any ops L≠[]:=by
 have key:∀ k,(∃ i,i < k/\L.getD i true=false/\i < ops.size)->∃ i,L.getD i true=false/\i < ops.size/\∀ j,j < i->L.getD j true=true:=by
  intro k
  induction k with
  | zero=>rintro ⟨i,hi,_⟩;omega
  | succ k ihk =>
   rintro ⟨i,hi,hl,hs⟩
   by_cases Hm:∃ i,i < k/\L.getD i true=false/\i < ops.size
   .exact ihk Hm
   .refine ⟨i,hl,hs,fun j hj=>?_⟩
    cases j4:L.getD j true with
    | true=>rfl
    | false=>exact absurd ⟨j,by omega,j4,by omega⟩ Hm
 obtain ⟨i0,Wl,Cb⟩:=hex;obtain ⟨i,hl,hs,YT⟩:=key (i0+1) ⟨i0,by omega,Cb,by omega⟩;intro G6;have hg:ops[i]?=some ops[i]:=Array.getElem?_eq_getElem hs;have:i∈Region.ready .any ops L:=mem_ready.2 ⟨hl,_,hg,fun e he hb=>by
  have aO:=Hl i _ hg e he hb;have:=YT e.on aO;simp [hL,show e.on < ops.size by omega] at this ⊢;exact this⟩
 rw [G6] at this
 cases this
abbrev Closed (ops:Array Oper) (L:Array Bool):Prop:=∀ i o,ops[i]?=some o->L.getD i true=true->∀ e∈o.after,Region.binds .any e=true->L.getD e.on true=true
theorem Qs {ops:Array Oper} {L:Array Bool} (hL:L.size=ops.size) (Hl:∀ i o,ops[i]?=some o->∀ e∈o.after,Region.binds .any e=true->e.on < i) {i:Nat} (hi:i∈Region.ready .any ops L) :
  L.getD i true=false/\i < ops.size/\∀ o,ops[i]?=some o->∀ e∈o.after,Region.binds .any e=true->L.getD e.on true=true:=by
 obtain ⟨hu,oi,ho,fq⟩:=mem_ready.1 hi;have bR:i < ops.size:=(Array.getElem?_eq_some_iff.1 ho).1
 refine ⟨hu,bR,fun o Eh e he hb=>?_⟩
 rw [ho] at Eh;simp only [Option.some.injEq] at Eh;subst Eh;have yL:=Hl i _ ho e he hb;have:=fq e he hb;simp [hL,show e.on < ops.size by omega] at this ⊢;exact this
theorem YU {ops:Array Oper} {L:Array Bool} (hL:L.size=ops.size) (hc:Closed ops L) {i:Nat} (hi:∀ o,ops[i]?=some o->∀ e∈o.after,Region.binds .any e=true->L.getD e.on true=true):Closed ops (L.setIfInBounds i true):=by
 intro i1 o1 hq hd e he hb;rw [zT]
 split
 .rfl
 .by_cases ry:i1=i
  .subst ry;exact hi o1 hq e he hb
  .rw [zT,if_neg (fun h=>ry h.1.symm)] at hd;exact hc i1 o1 hq hd e he hb
theorem YV {ops:Array Oper} {L:Array Bool} (hL:L.size=ops.size) {i m:Nat} (hi:i < ops.size) (hu:L.getD i true=false) (hm:m+1=(List.range ops.size).countP (fun i=>!L.getD i true)) :
  m=(List.range ops.size).countP (fun j=>!(L.setIfInBounds i true).getD j true):=by
 have:=ziZ (p:=fun j=>!L.getD j true) (q:=fun j=>!(L.setIfInBounds i true).getD j true) (i:=i) (by simp only [hu];rfl) (fun j=>by
  simp only [zT]
  by_cases hj:j=i
  .subst hj;simp [hL,hi]
  .rw [if_neg hj,if_neg (fun h=>hj h.1.symm)]) ops.size hi
 omega
def lg (H H2:Heap):Prop:=∀ id own cs,H.get id=.cells own cs->H2.get id=.cells own cs
theorem nR.same {H2:Heap} (h:nR H H2):lg H H2:=fun _ _ _ hg=>h.cells hg
theorem zrI {cl:Callee} {v:af} (hv:RH v=true) (h:step cl env H v.op=some e):lg H (apply H e).2:=by
 obtain ⟨dst,op,guard⟩:=v
 cases op<;>simp only [RH] at hv<;>first|contradiction|skip
 simp only [step] at h
 split at h
 .rename_i id key x e1 e2 e3
  split at h
  .rename_i es hg
   split at h
   .simp only [Option.some.injEq] at h;subst h;intro i own cs hi;have bJ:i≠id:=fun he=>by subst he;rw [hg] at hi;simp at hi
    show Heap.get (Heap.set _ _ _) _=_;unfold Heap.get Heap.set at *;simp only [upd];rw [if_neg bJ];exact hi
   .simp at h
  .simp at h
 .simp at h
theorem ziS {H2:Heap} (h:lg H H2) {s:Nat} {v:AV} {cs:List AV} (hl:zY H s v=some cs):zY H2 s v=some cs:=by
 unfold zY at hl ⊢
 split at hl
 .exact hl
 .split at hl
  .rename_i hg;rw [h _ _ _ hg];exact hl
  .simp at hl
 .simp at hl
def Qt (v:af) (env:Env) (H H2:Heap):Prop:=∀ x,LH v=some x->∀ s cs,zY H s (x.eval env)=some cs->zY H2 s (x.eval env)=some cs
theorem zi3 {v:af}:Qt v env H H:=fun _ _ _ _ h=>h
theorem lg.reads {v:af} {H2:Heap} (h:lg H H2):Qt v env H H2:=fun _ _ _ _ hl=>ziS h hl
theorem ziQ:∀ {p q:PV},p.jq q=true->p=q
 | .int k a,.int k' b,h=>by simp [PV.jq] at h;rw [h.1,h.2]
 | .bool a,.bool b,h=>by simp [PV.jq] at h;rw [h]
 | .str _,_,h|.agg _,_,h|.aQ _,_,h|.nils,_,h|.slice _ _ _,_,h|.mD,_,h|.ptr _ _ _,_,h|.func _ _,_,h|.mE,_,h|.lQ _ _,_,h=>by simp [PV.jq] at h
 | .int _ _,.bool _,h|.int _ _,.str _,h|.int _ _,.agg _,h|.int _ _,.aQ _,h|.int _ _,.nils,h|.int _ _,.slice _ _ _,h|.int _ _,.mD,h|.int _ _,.ptr _ _ _,h|.int _ _,.func _ _,h|.int _ _,.mE,h|.int _ _,.lQ _ _,h=>by simp [PV.jq] at h
 | .bool _,.int _ _,h|.bool _,.str _,h|.bool _,.agg _,h|.bool _,.aQ _,h|.bool _,.nils,h|.bool _,.slice _ _ _,h|.bool _,.mD,h|.bool _,.ptr _ _ _,h|.bool _,.func _ _,h|.bool _,.mE,h|.bool _,.lQ _ _,h=>by simp [PV.jq] at h
theorem SB {α:Type} {f:α->α->Bool} (hf:∀ a b,f a b=true->a=b):∀ {l m:List α},all2 f l m=true->l=m
 | [],[],_=>rfl
 | a::l,[],h=>by simp [all2] at h
 | [],b::m,h=>by simp [all2] at h
 | a::l,b::m,h=>by
  simp only [all2,Bool.and_eq_true] at h;rw [hf a b h.1,SB hf h.2]
theorem YW:∀ (n:Nat) (p q:PV),PV.jr n p q=true->p=q
 | 0,_,_,h=>by simp [PV.jr] at h
 | n+1,p,q,h=>by
  unfold PV.jr at h
  split at h
  .split at h
   .simp only [Bool.and_eq_true,beq_iff_eq] at h;rw [h.1.1,h.1.2,SB (fun _ _ h=>SB (YW n) h) h.2]
   .simp at h
  .split at h
   .simp only [Bool.and_eq_true,beq_iff_eq] at h;rw [h.1.1,h.1.2,SB (YW n) h.2]
   .simp at h
  .split at h
   .rfl
   .simp at h
  .exact ziQ h
theorem znV (a b:AV) (h:AV.l5 a b=true):a=b:=by
 unfold AV.l5 at h
 split at h
 .rw [YW _ _ _ h]
 .simp only [Bool.and_eq_true,beq_iff_eq] at h;rw [h.1,h.2]
 .simp at h
theorem YX:∀ {l m:List AV},EP l m=true->l=m
 | [],[],_=>rfl
 | a::l,[],h=>by cases a<;>simp [EP] at h
 | [],b::m,h=>by simp [EP] at h
 | a::l,b::m,h=>by
  cases a<;>cases b<;>first|(simp [EP] at h;done)|skip
  .simp only [EP,Bool.and_eq_true] at h;rw [ziQ h.1,YX h.2]
  .simp only [EP,Bool.and_eq_true,beq_iff_eq] at h;rw [h.1.1,SB znV h.1.2,YX h.2]
theorem zl0 {cl:Callee} {b v:af} (hb:∀ x,LH v=some x->VO b x=true) (h:step cl env H b.op=some e):Qt v env H (apply H e).2:=by
 intro x hx s cs hl;have h1:=hb x hx;obtain ⟨dst,op,guard⟩:=b;unfold VO at h1;simp only at h1 h
 split at h1
 .rename_i sz a y ls;rw [List.any_eq_true] at h1;obtain ⟨l,JX,h2⟩:=h1;have Bw:l=x:=by
   unfold XW at h2
   split at h2
   .simp only [beq_iff_eq] at h2;rw [h2]
   .simp at h2
  subst Bw;simp only [step] at h
  split at h
  .rename_i id off ha
   split at h
   .rename_i fq
    split at h
    .rename_i cs0 hg
     split at h
     .simp only [Option.some.injEq] at h;subst h;have YY:=List.all_eq_true.1 fq l JX;unfold zY at hl ⊢
      split at hl
      .exact hl
      .rename_i i2 o2 hv;rw [hv] at YY;simp only [beside,bne_iff_ne,ne_eq] at YY;have e:(Heap.set H id (.cells true (cs0.take off++(y.eval env).cells++cs0.drop (off+sz)))).get i2=H.get i2:=by
        unfold Heap.get Heap.set;simp only [upd];rw [if_neg YY]
       simp only [apply];rw [e];exact hl
      .simp at hl
     .simp at h
    .simp at h
   .simp at h
  .simp at h
 .rename_i f xs ls;rw [List.any_eq_true] at h1;obtain ⟨l,JX,h2⟩:=h1;have Bw:l=x:=by
   unfold XW at h2
   split at h2
   .simp only [beq_iff_eq] at h2;rw [h2]
   .simp at h2
  subst Bw;simp only [step] at h
  split at h
  .rename_i v H2 hd
   split at h
   .rename_i fq;simp only [Option.some.injEq] at h;subst h;have hk:=List.all_eq_true.1 fq l JX;show zY H2 s (l.eval env)=some cs;unfold keeps at hk
    split at hk
    .rename_i id off hv
     split at hk
     .rename_i o c1 o2 c2 g1 g2;simp only [Bool.and_eq_true,beq_iff_eq] at hk;have hc:=YX hk.2;subst hc;rw [hv] at hl ⊢;simp only [zY] at hl ⊢;rw [g1] at hl;rw [g2];exact hl
     .simp at hk
    .simp at hk
   .simp at h
  .simp at h
 .simp only [step] at h
  split at h
  .simp only [Option.some.injEq] at h;subst h;exact hl
  .simp only [Option.some.injEq] at h;subst h;exact hl
  .simp at h
 .simp at h1
theorem Wm {cl:Callee} {v:af} (hv:vP v=true) {e:Eff} (h:step cl env H v.op=some e):∃ av,e=.val av/\∀ ji H2,Qt v env H H2->(∀ t∈v.op.reads,ji t=env t)->step cl ji H2 v.op=some (.val av):=by
 obtain ⟨dst,op,guard⟩:=v;have fe:∃ av,e=.val av:=by
  cases op<;>simp only [vP] at hv<;>first|contradiction|skip
  all_goals
   simp only [step] at h
   revert h
   (repeat' split)<;>(intro h;simp at h)<;>first|exact ⟨_,h.symm⟩|exact ⟨_,h.2.symm⟩|exact ⟨_,h.choose_spec.2.symm⟩
 obtain ⟨av,rfl⟩:=fe
 refine ⟨av,rfl,fun ji H2 hm h3=>?_⟩
 rw [Sr h3]
 cases vE:LH ⟨dst,op,guard⟩ with
 | none =>
  have hH:step cl env H2 op=step cl env H op:=by
   cases op<;>first|rfl|(exfalso;simp [LH] at vE;done)|(exfalso;simp [vP] at hv;done)
  simp only at h ⊢;rw [hH,h]
 | some x =>
  have hs:=hm x vE
  cases op<;>simp only [LH] at vE<;>first|contradiction|skip
  simp only [Option.some.injEq] at vE;subst vE;simp only [step] at h ⊢
  split at h
  .rename_i cs hl;rw [hs _ _ hl];exact h
  .simp at h
noncomputable def mask (vs:List af) (L:Array Bool) (env:Env):Env:=fun t =>
 open Classical in if ∃ (i:Nat) (v:af),vs[i]?=some v/\vP v=true/\L.getD i true=false/\v.dst=some t then .undef else env t
theorem SC {vs:List af} {L:Array Bool} {t:Nat} (h:∀ (i:Nat) (v:af),vs[i]?=some v->vP v=true->v.dst=some t->L.getD i true=true):mask vs L env t=env t:=by
 unfold mask;rw [if_neg];rintro ⟨i,v,h1,h2,h3,h4⟩;rw [h i v h1 h2 h4] at h3;simp at h3
theorem ziB {vs:List af} {L L':Array Bool} {env':Env} {t:Nat} (h:∀ (i:Nat) (v:af),vs[i]?=some v->vP v=true->v.dst=some t->L'.getD i true=L.getD i true) (he:env' t=env t):mask vs L' env' t=mask vs L env t:=by
 have SE:(∃ (i:Nat) (v:af),vs[i]?=some v/\vP v=true/\L'.getD i true=false/\v.dst=some t)↔(∃ (i:Nat) (v:af),vs[i]?=some v/\vP v=true/\L.getD i true=false/\v.dst=some t):=by
  constructor
  .rintro ⟨i,v,h1,h2,h3,h4⟩;exact ⟨i,v,h1,h2,by rw [<- h i v h1 h2 h4];exact h3,h4⟩
  .rintro ⟨i,v,h1,h2,h3,h4⟩;exact ⟨i,v,h1,h2,by rw [h i v h1 h2 h4];exact h3,h4⟩
 unfold mask
 by_cases hx:∃ (i:Nat) (v:af),vs[i]?=some v/\vP v=true/\L.getD i true=false/\v.dst=some t
 .rw [if_pos (SE.2 hx),if_pos hx]
 .rw [if_neg (fun h=>hx (SE.1 h)),if_neg hx];exact he
theorem zpT {cl:Callee} (fJ:bI C P cl) {ops:Array Oper} {vs:List af} {pre:Nat} (bH:CF ops vs pre) (jf:BX P Z nt ops ops.toList=some vs):∀ (m:Nat) (k:Nat) (L:Array Bool) (env:Env) (H:Heap) (φ:jO) (a:Act) (w:World) (env':Env) (H':Heap),
  m=(List.range ops.size).countP (fun i=>!L.getD i true)->pre+inits vs pre<=k->k<=ops.size->L.size=ops.size->(∀ i,i < k->D8 vs i=false->L.getD i true=true)->(∀ i,k<=i->i < ops.size->L.getD i true=false)->Closed ops L ->
  (∀ (i:Nat) v,vs[i]?=some v->vP v=true->L.getD i true=false->∀ d,v.dst=some d->step cl env H v.op=some (.val (env d))) ->
  l6 cl 0 (vs.drop k) env H=some (env',H')->R C S base lo nt φ H (mask vs L env) a w ->
  (∀ φ' a' w',ig φ H w φ' H' w'->R C S base lo nt φ' H' env' a' w'->Q .normal a' w')->wpAnyIn (Fw ro) n P .any ops Q m L a w:=by
 have bf:=Sz jf;have SF:vs.length=ops.size:=by simpa using bf.1
 intro m
 induction m with
 | zero =>
  intro k L env H φ a w env' H' hm JY hks hL h1 h2 Ho au hr hR hQ;have fq:∀ i,i < ops.size->L.getD i true=true:=fun i hi=>by
   have:=List.countP_eq_zero.1 hm.symm i (List.mem_range.2 hi)
   simpa using this
  have hk:k=ops.size:=by
   rcases Nat.lt_or_ge k ops.size with h|h
   .have h3:=h2 k (Nat.le_refl _) h;rw [fq k h] at h3;simp at h3
   .omega
  have YZ:vs.drop k=[]:=by rw [List.drop_eq_nil_iff];omega
  rw [YZ] at hr;simp [l6] at hr;obtain ⟨rfl,rfl⟩:=hr;have SG:mask vs L env=env:=funext fun t=>SC fun i v hv _ _=>fq i (by have:=(List.getElem?_eq_some_iff.1 hv).1;omega);rw [SG] at hR
  refine ⟨?_,hQ _ _ _ ig.refl hR⟩
  rw [List.eq_nil_iff_forall_not_mem];intro i hi;obtain ⟨hu,aO,_⟩:=Qs hL bH.back hi;rw [fq i aO] at hu;simp at hu
 | succ m ih =>
  intro k L env H φ a w env' H' hm JY hks hL h1 h2 Ho au hr hR hQ;have hex:∃ i,i < ops.size/\L.getD i true=false:=by
   have:0 < (List.range ops.size).countP (fun i=>!L.getD i true):=by omega
   obtain ⟨i,hi,hp⟩:=List.countP_pos_iff.1 this;exact ⟨i,List.mem_range.1 hi,by simpa using hp⟩
  refine ⟨fun h=>absurd h (YS hL bH.back hex),fun i hi=>?_⟩
  obtain ⟨hu,aO,mf⟩:=Qs hL bH.back hi;have Ei:(L.setIfInBounds i true).size=ops.size:=by simpa using hL
  have DY:=YV hL aO hu hm;have Hr:=YU hL Ho mf;have Ht:ops[i]?=some ops[i]:=Array.getElem?_eq_getElem aO;have lU:vs[i]?=some vs[i]:=List.getElem?_eq_getElem (by omega);obtain ⟨o',Eh,MF⟩:=bf.2 i _ lU;rw [Array.getElem?_toList,Ht] at Eh;simp only [Option.some.injEq] at Eh;subst Eh;obtain ⟨p1,p2,p3,p4⟩:=YH MF;have Ob:∀ j,(L.setIfInBounds i true).getD j true=false->L.getD j true=false:=fun j hj=>by
   rw [zT] at hj
   split at hj
   .simp at hj
   .exact hj
  cases l9:vP vs[i] with
  | true =>
   obtain ⟨Aa,F9,d,hd,wX⟩:=bH.idle i _ lU l9;have Y0:=au i _ lU l9 hu d hd;obtain ⟨av,vV,pR⟩:=Wm l9 Y0;simp only [Eff.val.injEq] at vV;subst vV;have fA:step cl (mask vs L env) H vs[i].op=some (.val (env d)):=pR _ _ zi3 fun t ht=>SC fun i' v' qx xB qO=>by
    obtain ⟨Oc,_⟩:=bH.idle i' v' qx xB;obtain ⟨_,h3⟩:=bH.once i i' _ v' _ Aa Oc lU qx Ht t qO;obtain ⟨_,e,he,hb,Gf⟩:=h3 (by simp [af.reads,ht]);have:=mf _ Ht e he hb;rw [Gf] at this;exact this
   have qz:=Md hR.env p2 (b:=true) (by rw [F9];rfl) rfl;unfold wpOpIn;simp only [Ht];rw [qz];simp only [if_true]
   refine We fJ hR.heap hR.env p1 fA fun u w' hp=>?_
   obtain ⟨φ',g1,g2⟩:=hR.after (d:=ops[i].dst) p4 hp;have Y1:oV (mask vs L env) ops[i].dst (apply H (.val (env d))).1=mask vs (L.setIfInBounds i true) env:=by
    rw [<- p3,hd]
    funext t
    simp only [oV,upd,apply]
    split
    .rename_i ht;subst ht
     refine (SC fun i' v' qx xB qO=>?_).symm
     obtain ⟨Oc,_⟩:=bH.idle i' v' qx xB;have ry:i=i':=by
      rcases Decidable.em (i=i') with h|h
      .exact h
      .exact absurd hd ((bH.once i i' _ v' _ Aa Oc lU qx Ht t qO).1 h)
     rw [zT,if_pos ⟨ry,by omega⟩]
    .rename_i ht
     refine (ziB (fun i' v' qx xB qO=>?_) rfl).symm
     rw [zT,if_neg];rintro ⟨rfl,_⟩;rw [lU] at qx;simp only [Option.some.injEq] at qx;subst qx;rw [hd] at qO;simp only [Option.some.injEq] at qO;exact ht qO.symm
   rw [Y1] at g2
   refine ih k _ env H φ' _ w' env' H' DY JY hks Ei (fun j hj EX=>?_) (fun j hj tZ=>?_) Hr (fun j v hv hi hl=>au j v hv hi (Ob j hl)) hr g2 fun φ'' a' w'' h3 h4=>hQ φ'' a' w'' (g1.trans h3) h4
   .rw [zT]
    split
    .rfl
    .exact h1 j hj EX
   .rw [zT,if_neg (by omega)];exact h2 j hj tZ
  | false =>
   have Jh:i=k:=by
    rcases Nat.lt_trichotomy i k with h|h|h
    .have:=h1 i h (by unfold D8;rw [lU];exact l9);rw [hu] at this;simp at this
    .exact h
    .exfalso;have hki:D8 vs k=false:=by
      unfold D8;have Wn:vs[k]?=some vs[k]:=List.getElem?_eq_getElem (by omega);rw [Wn]
      cases hq:vP vs[k] with
      | false=>exact hq
      | true=>have:=(bH.idle k _ Wn hq).1;omega
     have:=(bH.wait i _ Ht (by omega) k h hki).done Ho mf;rw [h2 k (Nat.le_refl _) (by omega)] at this;simp at this
   subst Jh;have tO:∀ j,j < i+1->D8 vs j=false->(L.setIfInBounds i true).getD j true=true:=fun j hj EX=>by
    rw [zT]
    split
    .rfl
    .rename_i bJ;exact h1 j (by rw [hL] at bJ;omega) EX
   have Hu:∀ j,i+1<=j->j < ops.size->(L.setIfInBounds i true).getD j true=false:=fun j hj tZ=>by
    rw [zT,if_neg (by omega)];exact h2 j (by omega) tZ
   have xB:∀ (H2:Heap) (av:AV),(∀ (j:Nat) v,vs[j]?=some v->(L.setIfInBounds i true).getD j true=false->Qt v env H H2)->∀ (j:Nat) v,vs[j]?=some v->vP v=true->(L.setIfInBounds i true).getD j true=false->∀ d,v.dst=some d->step cl (oV env vs[i].dst av) H2 v.op=some (.val (oV env vs[i].dst av d)):=by
    intro H2 av ah j v hv Oe Wp d hd;obtain ⟨_,_,d',qO,wX⟩:=bH.idle j _ hv Oe;have SH:d=d':=by rw [hd] at qO;simpa using qO
    subst SH;have fA:=au j _ hv Oe (Ob j Wp) d hd;have bJ:=wX i _ (by omega) lU;have lV:∀ t,vs[i].dst≠some t->oV env vs[i].dst av t=env t:=fun t ht=>by
     cases hd:vs[i].dst with
     | none=>rfl
     | some y=>simp only [oV,upd];rw [if_neg (fun e=>ht (by rw [hd,e]))]
    rw [lV d bJ.1];obtain ⟨av',vV,pR⟩:=Wm Oe fA;simp only [Eff.val.injEq] at vV;subst vV;exact pR _ _ (ah j v hv Wp) fun t ht=>lV t (bJ.2.1 t ht)
   have Y2:∀ t∈vs[i].plain.reads,mask vs L env t=env t:=fun t ht=>SC fun i' v' qx lW qO=>by
    obtain ⟨_,_,d',mP,wX⟩:=bH.idle i' _ qx lW;have SH:t=d':=by rw [qO] at mP;simpa using mP
    subst SH;exact ((wX i _ (by omega) lU).2.2 ht).done Ho mf
   have MG:∀ av,oV (mask vs L env) ops[i].dst av=mask vs (L.setIfInBounds i true) (oV env vs[i].dst av):=by
    intro av;rw [<- p3]
    funext t
    have MH:∀ ji:Env,ji t=env t->mask vs (L.setIfInBounds i true) ji t=mask vs L env t:=fun ji he=>ziB (fun i' v' qx lW qO=>by
     rw [zT,if_neg];rintro ⟨rfl,_⟩;rw [lU] at qx;simp only [Option.some.injEq] at qx;subst qx;rw [l9] at lW;simp at lW) he
    cases Qu:vs[i].dst with
    | none=>exact (MH env rfl).symm
    | some y =>
     simp only [oV,upd]
     split
     .rename_i ht;subst ht;have:mask vs (L.setIfInBounds i true) (upd env t av) t=upd env t av t:=SC fun i' v' qx lW qO=>by
       obtain ⟨_,_,d',mP,wX⟩:=bH.idle i' _ qx lW;have SH:t=d':=by rw [qO] at mP;simpa using mP
       subst SH;exact absurd Qu (wX i _ (by omega) lU).1
      simpa [upd] using this.symm
     .rename_i ht;exact (MH _ (by simp only [upd];rw [if_neg ht])).symm
   have Og:vs.drop i=vs[i]::vs.drop (i+1):=List.drop_eq_getElem_cons (by omega);rw [Og,YI] at hr;unfold wpOpIn;simp only [Ht]
   split at hr
   .simp at hr
   .rename_i hw;have qz:=Md hR.env p2 (b:=false) (by rw [show wanted (mask vs L env) vs[i].guard=wanted env vs[i].guard from Qp (v:=vs[i].plain) Y2];exact hw) rfl;rw [qz];simp only [Bool.false_eq_true,if_false]
    refine ⟨fun _ _=>trivial,?_⟩
    have su:=hR.put ig.refl hR.heap (d:=ops[i].dst) p4 (Sv (φ:=φ) (w:=w));rw [MG] at su;exact ih (i+1) _ _ _ _ _ _ _ _ DY (by omega) (by omega) Ei tO Hu Hr (xB _ _ fun _ _ _ _=>zi3) hr su hQ
   .rename_i hw;have qz:=Md hR.env p2 (b:=true) (by rw [show wanted (mask vs L env) vs[i].guard=wanted env vs[i].guard from Qp (v:=vs[i].plain) Y2];exact hw) rfl;rw [qz];simp only [if_true]
    split at hr
    .simp at hr
    .rename_i e he
     split at hr
     .rename_i tV;exact absurd rfl tV.1
     .have Hg:step cl (mask vs L env) H vs[i].op.plain=some e:=by
       rw [Sr (env':=env) fun t ht=>Y2 t (by simp [af.reads,af.plain,ht])];exact YF he
      have Ec:∀ (j:Nat) v,vs[j]?=some v->(L.setIfInBounds i true).getD j true=false->Qt v env H (apply H e).2:=fun j v hv Wp=>by
       cases Y3:LH v with
       | none=>exact fun x hx=>by rw [Y3] at hx;simp at hx
       | some x =>
        rcases bH.mem j i v _ x hv Y3 (by omega) lU with h|h|h
        .exact (zrI h he).reads
        .exact zl0 (fun y hy=>by rw [Y3] at hy;simp only [Option.some.injEq] at hy;rw [<- hy];exact h) he
        .have:=h.done Ho mf;rw [Ob j Wp] at this;simp at this
      refine zt3 fJ hR.heap hR.env p1 Hg fun u w' hp=>?_
      obtain ⟨φ',g1,g2⟩:=hR.after (d:=ops[i].dst) p4 hp;rw [MG] at g2;exact ih (i+1) _ _ _ _ _ _ _ _ DY (by omega) (by omega) Ei tO Hu Hr (xB _ _ Ec) hr g2 fun φ'' a' w'' h3 h4=>hQ φ'' a' w'' (g1.trans h3) h4
theorem zrW {cl:Callee} (fJ:bI C P cl) {ops:Array Oper} {vs:List af} {pre:Nat} (bH:CF ops vs pre) (uJ:pre<=ops.size) (jf:BX P Z nt ops ops.toList=some vs) {aT:Env} {Hp HI:Heap} {ids:Nat->Nat} {w0:World} {tgt:Nat->Nat} {obj:Nat->aU}
  (vW:Sol cl (vs.take pre) pre env H aT Hp ids) (vX:wW cl vs pre (inits vs pre) aT Hp tgt obj) (Jh:pre+inits vs pre<=ops.size)
  (Y4:∀ L:Array Bool,(∀ i,pre<=i->i < pre+inits vs pre->L.getD i true=true)->iK Hp pre (inits vs pre) tgt obj L=HI) (SI:l6 cl 0 (vs.drop (pre+inits vs pre)) aT HI=some (env',H'))
  (hQ:∀ φ' a' w',ig φ0 H w0 φ' H' w'->R C S base lo nt φ' H' env' a' w'->Q .normal a' w'):∀ (m:Nat) (L:Array Bool) (φ:jO) (a:Act) (w:World),
  m=(List.range ops.size).countP (fun i=>!L.getD i true)->L.size=ops.size->(∀ i,pre+inits vs pre<=i->i < ops.size->L.getD i true=false) ->
  Oa ops C S base lo nt cl vs pre aT Hp (iK Hp pre (inits vs pre) tgt obj) ids φ0 H w0 L φ a w->wpAnyIn (Fw ro) n P .any ops Q m L a w:=by
 have bf:=Sz jf;have SF:vs.length=ops.size:=by simpa using bf.1
 have Y5:∀ (i:Nat) v,vs[i]?=some v->vP v=true->∀ d,v.dst=some d->step cl aT Hp v.op=some (.val (aT d)):=by
  intro i v hv l9 d hd;obtain ⟨Aa,F9,_⟩:=bH.idle i v hv l9;have Y6:(vs.take pre)[i]?=some v:=by rw [List.getElem?_take_of_lt Aa];exact hv
  rcases vW.each i v Aa Y6 with ⟨hw,_⟩|⟨_,e,he,_,bA⟩
  .rw [F9] at hw;simp [wanted] at hw
  .obtain ⟨av,rfl,_⟩:=Wm l9 he;rw [he,bA d hd]
 have Hw:∀ (m:Nat) (L:Array Bool) (φ:jO) (a:Act) (w:World),m=(List.range ops.size).countP (fun i=>!L.getD i true)->L.size=ops.size->(∀ i,pre+inits vs pre<=i->i < ops.size->L.getD i true=false) ->
   Oa ops C S base lo nt cl vs pre aT Hp (iK Hp pre (inits vs pre) tgt obj) ids φ0 H w0 L φ a w->(∀ i,i < pre+inits vs pre->D8 vs i=false->L.getD i true=true)->wpAnyIn (Fw ro) n P .any ops Q m L a w:=by
  intro m L φ a w hm hL h2 hD fq;have Y7:∀ i,pre<=i->i < pre+inits vs pre->D8 vs i=false:=fun i h1 h2=>by
   obtain ⟨_,s,b,x,hv,_⟩:=bH.Wi i h1 h2;unfold D8;rw [hv];rfl
  have JZ:iK Hp pre (inits vs pre) tgt obj L=HI:=Y4 L fun i h1 h2=>fq i h2 (Y7 i h1 h2);have hR:R C S base lo nt φ HI (mask vs L aT) a w:=⟨by rw [<- JZ];exact hD.heap,fun t=>by
   rw [<- JZ]
   by_cases ht:∃ (i:Nat) (v:af),vs[i]?=some v/\vP v=true/\L.getD i true=false/\v.dst=some t
   .have:mask vs L aT t=.undef:=by unfold mask;rw [if_pos ht]
    rw [this];exact .undef _
   .have:mask vs L aT t=aT t:=by unfold mask;rw [if_neg ht]
    rw [this]
    refine hD.env t fun i v hi hl hv hd=>ht ⟨i,v,hv,?_,hl,hd⟩
    cases hq:vP v with
    | true=>rfl
    | false =>
     have:=fq i (by omega) (by unfold D8;rw [hv];exact hq);rw [hl] at this;simp at this,hD.size,hD.vU,hD.defs⟩
  have mJ:=hD.YO;rw [JZ] at mJ;exact zpT fJ bH jf m (pre+inits vs pre) L aT HI φ a w env' H' hm (Nat.le_refl _) Jh hL fq h2 hD.closed (fun i v hv au _ d hd=>by
   have h:=Y5 i v hv au d hd;obtain ⟨av,h5,h6⟩:=Wm au h;rw [h6 aT HI (lg.reads (by rw [<- JZ];exact (zmi vX).same)) (fun _ _=>rfl),h5]) SI hR fun φ' a' w' h3 h4=>hQ φ' a' w' (mJ.trans h3) h4
 intro m
 induction m with
 | zero =>
  intro L φ a w hm hL h2 hD
  refine Hw 0 L φ a w hm hL h2 hD fun i hi _=>?_
  have:=List.countP_eq_zero.1 hm.symm i (List.mem_range.2 (by omega))
  simpa using this
 | succ m ih =>
  intro L φ a w hm hL h2 hD
  by_cases MI:∀ i,i < pre+inits vs pre->D8 vs i=false->L.getD i true=true
  .exact Hw (m+1) L φ a w hm hL h2 hD MI
  have hex:∃ i,i < pre+inits vs pre/\D8 vs i=false/\L.getD i true=false:=by
   rcases Classical.em (∃ i,i < pre+inits vs pre/\D8 vs i=false/\L.getD i true=false) with h|h
   .exact h
   .refine absurd (fun i hi l9=>?_) MI
    cases hq:L.getD i true with
    | true=>rfl
    | false=>exact absurd ⟨i,hi,l9,hq⟩ h
  have uN:∀ i∈Region.ready .any ops L,i < pre+inits vs pre:=fun i hi=>by
   obtain ⟨hu,aO,mf⟩:=Qs hL bH.back hi;rcases Nat.lt_or_ge i (pre+inits vs pre) with h|h
   .exact h
   .exfalso;obtain ⟨j,hj,SK,j4⟩:=hex;have:=(bH.wait i _ (Array.getElem?_eq_getElem aO) h j (by omega) SK).done hD.closed mf;rw [j4] at this;simp at this
  have uO:Region.ready .any ops L≠[]:=by
   obtain ⟨j,hj,SK,j4⟩:=hex;exact YS hL bH.back ⟨j,by omega,j4⟩
  refine ⟨fun h=>absurd h uO,fun i hi=>?_⟩
  have J2:=uN i hi;obtain ⟨hu,o,ho,fq⟩:=mem_ready.1 hi;have aX:i < vs.length:=by omega
  have lU:vs[i]?=some vs[i]:=List.getElem?_eq_getElem aX;obtain ⟨o',Eh,MF⟩:=bf.2 i _ lU;have Hy:o'=o:=by
   rw [Array.getElem?_toList] at Eh;rw [Eh] at ho
   simpa using ho
  subst Hy;obtain ⟨p1,p2,p3,p4⟩:=YH MF;have rP:=YV hL (show i < ops.size by omega) hu hm;have Ei:(L.setIfInBounds i true).size=ops.size:=by simpa using hL
  have Hu:∀ j,pre+inits vs pre<=j->j < ops.size->(L.setIfInBounds i true).getD j true=false:=fun j hj tZ=>by
   rw [zT,if_neg (by omega)];exact h2 j hj tZ
  have J3:∀ j,(L.setIfInBounds i true).getD j true=false->j≠i/\L.getD j true=false:=fun j hj=>by
   rw [zT] at hj
   split at hj
   .simp at hj
   .rename_i bJ
    refine ⟨fun e=>bJ ⟨e.symm,by rw [e,hL];omega⟩,hj⟩
  have Ej:=YU hL hD.closed (Qs hL bH.back hi).2.2;have aB:∀ e∈o'.after,Region.binds .any e=true->L.getD e.on true=true:=fun e he hb=>(Qs hL bH.back hi).2.2 o' ho e he hb;rcases Nat.lt_or_ge i pre with Aa|Aa
  .have Y6:(vs.take pre)[i]?=some vs[i]:=by rw [List.getElem?_take_of_lt Aa];exact lU
   -- what it reads is there
   have CG:∀ t∈vs[i].reads,aG (aW S base φ (iK Hp pre (inits vs pre) tgt obj L) w) φ w (aT t) (a.tmps.getD t undef):=fun t ht=>by
    refine hD.env t fun j v hj j4 x9 hd=>?_
    obtain ⟨_,h3⟩:=bH.once i j _ v o' Aa hj lU x9 ho t hd;obtain ⟨_,e,he,hb,Gf⟩:=h3 ht;have:=aB e he hb;rw [Gf,j4] at this;simp at this
   let xG:Env:=fun t=>if t∈vs[i].reads then aT t else .undef
   have hE:bq (aW S base φ (iK Hp pre (inits vs pre) tgt obj L) w) φ w xG a:=fun t=>by
    show aG _ _ _ (if t∈vs[i].reads then aT t else .undef) _
    split
    .rename_i h;exact CG t h
    .exact .undef _
   have Ab:∀ t∈vs[i].reads,xG t=aT t:=fun t ht=>if_pos ht;have ah:iK Hp pre (inits vs pre) tgt obj (L.setIfInBounds i true)=iK Hp pre (inits vs pre) tgt obj L:=znS vX fun j h3 h4=>by
    rw [zT,if_neg (by omega)]
   have vO:∀ (φ':jO) (v:Value) (w':World),ig φ (iK Hp pre (inits vs pre) tgt obj L) w φ' (iK Hp pre (inits vs pre) tgt obj L) w'->aS C S base φ' (iK Hp pre (inits vs pre) tgt obj L) w'->(∀ d,vs[i].dst=some d->aG (aW S base φ' (iK Hp pre (inits vs pre) tgt obj L) w') φ' w' (aT d) v)->(∀ j,j < pre->(L.setIfInBounds i true).getD j true=false->Wj cl vs aT Hp j->φ' (ids j)=none) ->
     Oa ops C S base lo nt cl vs pre aT Hp (iK Hp pre (inits vs pre) tgt obj) ids φ0 H w0 (L.setIfInBounds i true) φ' (a.put o'.dst v) w':=by
    intro φ' v w' mJ Y8 JW Y9
    refine ⟨by rw [ah];exact Y8,fun t ht=>?_,by rw [zlW];exact hD.size,Nat.le_trans hD.vU mJ.size,by rw [zhj];exact Qo hD.heap mJ hD.defs,Y9,Ej,by rw [ah];exact hD.YO.trans mJ⟩
    rw [ah,zmP (by rw [hD.size];exact p4)]
    by_cases J4:o'.dst=some t
    .rw [if_pos J4];exact JW t (by rw [p3];exact J4)
    .rw [if_neg J4]
     refine mJ.xx (hD.env t fun j v' hj j4 x9=>?_)
     by_cases EX:j=i
     .subst EX;rw [lU] at x9;simp at x9;subst x9;rw [p3];exact J4
     .refine ht j v' hj ?_ x9
      rw [zT,if_neg (fun h=>EX h.1.symm)];exact j4
   have aux:∀ k,k < pre->Wj cl vs aT Hp k->∃ v o f,(vs.take pre)[k]?=some v/\step cl aT Hp v.op=some (.new o f)/\wanted aT v.guard=some true:=fun k hk ⟨v,o,f,h1,h2,h3⟩=>⟨v,o,f,by rw [List.getElem?_take_of_lt hk];exact h1,h2,h3⟩
   unfold wpOpIn;rw [ho];simp only;rcases vW.each i _ Aa Y6 with ⟨hw,hd⟩|⟨hw,e,he,N9,bA⟩
   .have qz:wanted xG vs[i].guard=some false:=by rw [Qp Ab];exact hw
    rw [Md hE p2 qz rfl];simp only [Bool.false_eq_true,if_false]
    refine ⟨fun _ _=>trivial,ih _ φ _ w rP Ei Hu (vO φ undef w ig.refl hD.heap (fun d qO=>by rw [hd d qO];exact Sv) fun j hj j4 hn=>hD.phi j hj (J3 j j4).2 hn)⟩
   .have qz:wanted xG vs[i].guard=some true:=by rw [Qp Ab];exact hw
    rw [Md hE p2 qz rfl];simp only [if_true];have Hg:step cl xG (iK Hp pre (inits vs pre) tgt obj L) vs[i].op=some e:=by
     rw [Sr (env':=aT) fun t ht=>Ab t (by simp [af.reads,ht])];exact zjB (zmi vX) N9 he
    refine We fJ hD.heap hE p1 Hg fun v w' hp=>?_
    cases e with
    | val av =>
     obtain ⟨g1,g2⟩:=hp;exact ih _ φ _ w' rP Ei Hu (vO φ v w' (ig.of_below g1) (hD.heap.below g1) (fun d qO=>by rw [bA d qO];exact g2) fun j hj j4 hn=>hD.phi j hj (J3 j j4).2 hn)
    | new ob f =>
     obtain ⟨b,mm,g1,g2,g3,g4,g5⟩:=hp;obtain ⟨r1,r2,r3⟩:=bA;have aR:Wj cl vs aT Hp i:=⟨_,ob,f,lU,he,hw⟩
     have MJ:=hD.phi i Aa hu aR
     -- nothing was written there yet
     have r2':(iK Hp pre (inits vs pre) tgt obj L).get (ids i)=ob:=by
      rw [YQ fun j RV F7 Wq Za=>?_]
      .exact r2
      .obtain ⟨tZ,s,b',x,x9,mf⟩:=bH.Wi j RV F7;obtain ⟨off,z',jR,_⟩:=vX.each j RV F7 s b' x x9;have hgj:ops[j]?=some ops[j]:=Array.getElem?_eq_getElem tZ;have hbr:=hD.env b' fun i' v bR Zb Zc YZ=>by
        obtain ⟨e2,rz,YD,Gf⟩:=mf _ hgj i' _ b' bR Zc YZ (by simp [af.reads,mI.reads,qH]);have:=hD.closed j _ hgj Wq e2 rz YD;rw [Gf,Zb] at this;simp at this
       rw [jR] at hbr;obtain ⟨b2,n2,lW,_⟩:=hbr.l7;rw [Za,MJ] at lW;simp at lW
     have hn:=hD.heap.new (H':=iK Hp pre (inits vs pre) tgt obj L) (id:=ids i) g1 MJ r2' (fun _ _ _=>rfl) r1 (Nat.le_refl _) g2 g3 g4
     refine ih _ _ _ w' rP Ei Hu (vO _ v w' hn.1 hn.2 (fun d qO=>by rw [r3 d qO];exact g5 _ _ _ (BS _ _)) fun j hj j4 hnj=>?_)
     obtain ⟨EX,Zd⟩:=J3 j j4;rw [x8 _ fun e=>EX (vW.He j i hj Aa (aux j hj hnj) (aux i Aa aR) e)];exact hD.phi j hj Zd hnj
    | upd av H1=>exact bA.elim
  ·-- a first write
   obtain ⟨qy,s,b,x,Ze,mf⟩:=bH.Wi i Aa J2;obtain ⟨off,z,hb,hz,fA⟩:=vX.each i Aa J2 s b x Ze;have Zf:vs[i]=⟨none,.bC s (.tmp b) x,none⟩:=by rw [lU] at Ze;simpa using Ze
   rw [Zf] at p1 p2 p3;simp only at p1 p2 p3;have CG:∀ t∈af.reads ⟨none,.bC s (.tmp b) x,none⟩,aG (aW S base φ (iK Hp pre (inits vs pre) tgt obj L) w) φ w (aT t) (a.tmps.getD t undef):=fun t ht=>by
    refine hD.env t fun j v hj j4 x9 hd=>?_
    obtain ⟨e,he,hb3,Gf⟩:=mf o' ho j v t hj x9 hd ht;have:=aB e he hb3;rw [Gf,j4] at this;simp at this
   let xG:Env:=fun t=>if t∈af.reads ⟨none,.bC s (.tmp b) x,none⟩ then aT t else .undef
   have hE:bq (aW S base φ (iK Hp pre (inits vs pre) tgt obj L) w) φ w xG a:=fun t=>by
    show aG _ _ _ (if t∈af.reads ⟨none,.bC s (.tmp b) x,none⟩ then aT t else .undef) _
    split
    .rename_i h;exact CG t h
    .exact .undef _
   have Ab:∀ t∈af.reads ⟨none,.bC s (.tmp b) x,none⟩,xG t=aT t:=fun t ht=>if_pos ht;have Zg:(iK Hp pre (inits vs pre) tgt obj L).get (tgt i)=.raw z:=by
    rw [YQ fun j RV F7 Wq Za=>?_]
    .exact hz
    .have:=vX.inj j i RV F7 Aa J2 Za;subst this;rw [hu] at Wq;simp at Wq
   have MK:step cl xG (iK Hp pre (inits vs pre) tgt obj L) (.bC s (.tmp b) x)=some (.upd (.aQ []) ((iK Hp pre (inits vs pre) tgt obj L).set (tgt i) (obj i))):=by
    rw [Sr (env':=aT) fun t ht=>Ab t (by simp [af.reads,ht])];exact fA _ Zg
   rw [zqD vX Aa J2 (by omega)] at MK;unfold wpOpIn;rw [ho];simp only;rw [Md hE p2 (b:=true) rfl rfl];simp only [if_true];rw [<- p3] at p1;obtain ⟨H2,Gg,hw⟩:=zkh (ro:=ro) (n:=n) (Q:=Q) (K:=fun a' w'=>wpAnyIn (Fw ro) n P .any ops Q m (L.setIfInBounds i true) a' w') hD.heap hE (zjq p1) MK;simp only [Eff.upd.injEq,true_and] at Gg;subst Gg
   refine hw fun w' mJ Y8=>?_
   rw [<- p3]
   refine ih _ φ _ w' rP Ei Hu ⟨Y8,fun t ht=>?_,hD.size,Nat.le_trans hD.vU mJ.size,Qo hD.heap mJ hD.defs,fun j hj j4 hn=>hD.phi j hj (J3 j j4).2 hn,Ej,hD.YO.trans mJ⟩
   refine mJ.xx (hD.env t fun j v' hj j4 x9=>ht j v' hj ?_ x9)
   rw [zT,if_neg (by omega)];exact j4
theorem Zh {cl:Callee} (fJ:bI C P cl) {ops:Array Oper} {vs:List af} {pre:Nat} (bH:Jb ops vs pre=true) (uJ:pre<=ops.size) (jf:BX P Z nt ops ops.toList=some vs)
  (hr:l6 cl pre vs env H=some (env',H')) (hR:R C S base lo nt φ H env a w) (hQ:∀ φ' a' w',ig φ H w φ' H' w'->R C S base lo nt φ' H' env' a' w'->Q .normal a' w') :
  wpAnyIn (Fw ro) n P .any ops Q ops.size (Array.replicate ops.size false) a w:=by
 have hlen:vs.length=ops.size:=by have:=(Sz jf).1;simpa using this
 have hD:=zl7 hlen bH;obtain ⟨aT,Hp,h1,h2⟩:=YJ cl pre vs env H _ (by omega) hr;have bf:=Sz jf;have SL:Once (vs.take pre):=fun i j x y hx hy d hd=>by
  have hi:i < pre:=by have:=(List.getElem?_eq_some_iff.1 hx).1;simp at this;omega
  have hj:j < pre:=by have:=(List.getElem?_eq_some_iff.1 hy).1;simp at this;omega
  rw [List.getElem?_take_of_lt hi] at hx;rw [List.getElem?_take_of_lt hj] at hy;obtain ⟨o,ho,_⟩:=bf.2 i _ hx;rw [Array.getElem?_toList] at ho;have:=hD.once i j x y o hi hj hx hy ho d hd;exact ⟨this.1,fun hm=>(this.2 hm).1⟩
 obtain ⟨ids,vW⟩:=YK cl (vs.take pre) env H aT Hp pre (by simp;omega) SL h1;have hl:(vs.take pre).length=pre:=by rw [List.length_take];omega
 rw [hl] at vW;have Cf:Below w.heap.size w w:=Below.refl _ w;have su:R C S base lo nt φ H env a w:=hR;have y9:=su.heap.ext' vW.keep vW.nx;obtain ⟨tgt,obj,HI,vX,bX,ha,hb,bP⟩:=zkH (k:=inits vs pre) (fun i h3 h4=>by obtain ⟨_,s,b,x,hv,_⟩:=hD.Wi i h3 h4;exact ⟨s,b,x,hv⟩) h2;have Jh:pre+inits vs pre<=ops.size:=by
  unfold inits;have:=(List.takeWhile_sublist Qd (l:=vs.drop pre)).length_le;simp only [List.length_drop] at this;omega
 have Oh:iK Hp pre (inits vs pre) tgt obj (Array.replicate ops.size false)=Hp:=Heap.ext' rfl fun id=>Qr fun i h3 h4 h5=>by
  simp [show i < ops.size by omega] at h5
 have Y4:∀ L:Array Bool,(∀ i,pre<=i->i < pre+inits vs pre->L.getD i true=true)->iK Hp pre (inits vs pre) tgt obj L=HI:=fun L hL=>by
  refine Heap.ext' bX.symm fun id=>?_
  by_cases hx:∃ i,pre<=i/\i < pre+inits vs pre/\tgt i=id
  .obtain ⟨i,h3,h4,rfl⟩:=hx;rw [Qq vX h3 h4 (hL i h3 h4),hb i h3 h4]
  .rw [Qr (fun i h3 h4 _ h5=>hx ⟨i,h3,h4,h5⟩),ha id fun i h3 h4 h5=>hx ⟨i,h3,h4,h5⟩]
 have rP:(List.range ops.size).countP (fun i=>!(Array.replicate ops.size false).getD i true)=ops.size:=by
  have:(List.range ops.size).countP (fun i=>!(Array.replicate ops.size false).getD i true)=(List.range ops.size).length:=List.countP_eq_length.2 fun i hi=>by
   have:=List.mem_range.1 hi;simp [this]
  simpa using this
 have:=zrW (ro:=ro) (n:=n) (Q:=Q) fJ hD uJ jf vW vX Jh Y4 bP (φ0:=φ) (w0:=w) (fun φ' a' w' h3 h4=>hQ φ' a' w' h3 h4) ops.size (Array.replicate ops.size false) φ a w rP.symm (by simp) (fun i _ hi=>by simp [hi]) ⟨by rw [Oh];exact y9.2,fun t ht=>?_,su.size,su.vU,su.defs,fun i hi _ _=>?_,fun i o ho hd=>?_,by rw [Oh];exact (ig.of_below Cf).trans y9.1⟩
 .exact this
 .rw [Oh];have hold:aT t=env t:=vW.old t fun i v hi hv=>by
   rw [List.getElem?_take_of_lt hi] at hv;exact ht i v hi (by simp [show i < ops.size by omega]) hv
  rw [hold];exact y9.1.xx (su.env t)
 .cases hc:φ (ids i) with
  | none=>rfl
  | some x =>
   have h3:=hR.heap.nx _ _ hc;have h4:=vW.JV i hi;omega
 .have bR:i < ops.size:=(Array.getElem?_eq_some_iff.1 ho).1;simp [bR] at hd
theorem Ac:ig φ H w φ H w.drew:=ig.of_below ((Below.refl _ w).drew)
theorem Zi (hR:R C S base lo nt φ H env a w):R C S base lo nt φ H env a w.drew :=
 ⟨hR.heap.below ((Below.refl _ w).drew),fun t=>(ig.of_below ((Below.refl _ w).drew)).xx (hR.env t),hR.size,hR.vU,Qo hR.heap (ig.of_below ((Below.refl _ w).drew)) hR.defs⟩
theorem zqT {cl:Callee} (fJ:bI C P cl) {ops:Array Oper} {vs:List af} {pre:Nat} (bH:Jb ops vs pre=true) (uJ:pre<=ops.size) (jf:BX P Z nt ops ops.toList=some vs)
  (hr:l6 cl pre vs env H=some (env',H')) (hR:R C S base lo nt φ H env a w) (hQ:∀ φ' a' w',ig φ H w φ' H' w'->R C S base lo nt φ' H' env' a' w'->Q .normal a' w') :
  wpAnyIn (Fw ro) n P .any ops Q ops.size (Array.replicate ops.size false) a w.drew :=
 Zh fJ bH uJ jf hr (Zi hR) fun φ' a' w' he su=>hQ φ' a' w' ((ig.of_below ((Below.refl _ w).drew)).trans he) su
theorem zti {cl:Callee} (fJ:bI C P cl) (p8:P.follows .mixedOrders=true) {id:Nat} {ops:Array Oper} {vs:List af} {pre:Nat} (bH:Jb ops vs pre=true) (uJ:pre<=ops.size) (jf:BX P Z nt ops ops.toList=some vs)
  (hr:l6 cl pre vs env H=some (env',H')) (hR:R C S base lo nt φ H env a w) (hQ:∀ φ' a' w',ig φ H w φ' H' w'->R C S base lo nt φ' H' env' a' w'->Q .normal a' w') :
  (Code.region id ops true).wpIn (Fw ro) n P Q a w:=by
 refine wpIn_region_any p8 ?_
 exact zqT fJ bH uJ jf hr hR hQ
end
open Go
structure Perm (pos inv:Nat->Nat) (n:Nat):Prop where
 lt:∀ i,i < n->pos i < n
 out:∀ i,n<=i->pos i=i
 li:∀ i,inv (pos i)=i
 ri:∀ i,pos (inv i)=i
section
variable {pos inv:Nat->Nat} {ops ops':Array Oper} {F:Fence} {n:Nat} {P:Program} {Q:Exit->Act->World->Prop}
theorem Perm.Oi (h:Perm pos inv n) {i:Nat} (hi:i < n):inv i < n:=by
 rcases Nat.lt_or_ge (inv i) n with h1|h1
 .exact h1
 .have:=h.out _ h1;rw [h.ri] at this;omega
theorem zrz {L L':Array Bool} (hp:Perm pos inv ops.size) (hL:L.size=ops.size) (Ei:L'.size=ops.size) (h:∀ i d,L'.getD (pos i) d=L.getD i d) {i:Nat} (hi:i < ops.size) :
  ∀ j d,(L'.setIfInBounds (pos i) true).getD (pos j) d=(L.setIfInBounds i true).getD j d:=by
 intro j d;rw [zT,zT,h j d]
 by_cases e:i=j
 .subst e;rw [if_pos ⟨rfl,by rw [Ei];exact hp.lt i hi⟩,if_pos ⟨rfl,by rw [hL];exact hi⟩]
 .rw [if_neg (fun h1=>e (by have:=congrArg inv h1.1;rwa [hp.li,hp.li] at this)),if_neg (fun h1=>e h1.1)]
theorem jP {L:Array Bool} {i:Nat}:i∈Region.ready .any ops L↔i < ops.size/\L.getD i true=false/\∃ o,ops[i]?=some o/\∀ e∈o.after,Region.binds .any e=true->L.getD e.on false=true:=by
 unfold Region.ready;simp only [List.mem_filter,List.mem_range,Bool.and_eq_true,Bool.not_eq_true']
 constructor
 .rintro ⟨h1,h2,h3⟩
  refine ⟨h1,h2,ops[i],Array.getElem?_eq_getElem h1,?_⟩
  rw [Array.getElem?_eq_getElem h1] at h3;simp only [Option.map_some,Option.getD_some,Array.all_eq_true_iff_forall_mem] at h3;intro e he hb;have:=h3 e he
  simpa [hb] using this
 .rintro ⟨h1,h2,o,h3,h4⟩
  refine ⟨h1,h2,?_⟩
  rw [h3];simp only [Option.map_some,Option.getD_some,Array.all_eq_true_iff_forall_mem];intro e he
  cases hb:Region.binds .any e with
  | false=>rfl
  | true=>simp [h4 e he hb]
theorem Zj {L L':Array Bool} (hp:Perm pos inv ops.size) (hs:ops'.size=ops.size) (aj:∀ i o,ops[i]?=some o->ops'[pos i]?=some (GK pos o)) (h:∀ i d,L'.getD (pos i) d=L.getD i d) {i:Nat} :
  i∈Region.ready .any ops L↔pos i∈Region.ready .any ops' L':=by
 rw [jP,jP,hs]
 constructor
 .rintro ⟨h1,h2,o,h3,h4⟩
  refine ⟨hp.lt i h1,by rw [h];exact h2,_,aj i o h3,?_⟩
  intro e he hb;simp only [GK,Array.mem_map] at he;obtain ⟨e0,Zk,rfl⟩:=he;have:=h4 e0 Zk hb;simp only [XY];rw [h];exact this
 .rintro ⟨h1,h2,o,h3,h4⟩;have hi:i < ops.size:=by
   have:=hp.Oi h1;rwa [hp.li] at this
  refine ⟨hi,by rw [<- h i];exact h2,ops[i],Array.getElem?_eq_getElem hi,?_⟩
  have h5:=aj i _ (Array.getElem?_eq_getElem hi);rw [h3] at h5;obtain rfl:=Option.some.inj h5;intro e he hb;have:=h4 (XY pos e) (by simp only [GK,Array.mem_map];exact ⟨e,he,rfl⟩) hb;rw [<- h e.on];exact this
theorem zkN {tmps:Array Value} (hp:Perm pos inv ops.size) (hs:ops'.size=ops.size) (aj:∀ i o,ops[i]?=some o->ops'[pos i]?=some (GK pos o)) (j:Nat):yielded ops' tmps (pos j)=yielded ops tmps j:=by
 unfold yielded
 by_cases hj:j < ops.size
 .rw [Array.getElem?_eq_getElem hj,aj j _ (Array.getElem?_eq_getElem hj)];rfl
 .rw [hp.out j (by omega),Array.getElem?_eq_none (by omega),Array.getElem?_eq_none (by omega)]
theorem zlS {tmps:Array Value} (hp:Perm pos inv ops.size) (hs:ops'.size=ops.size) (aj:∀ i o,ops[i]?=some o->ops'[pos i]?=some (GK pos o)) (o:Oper):Region.wanted (GK pos o) (yielded ops' tmps)=Region.wanted o (yielded ops tmps):=by
 unfold Region.wanted;simp only [GK]
 cases o.guard with
 | none=>rfl
 | some g=>simp only [Option.map_some];rw [zkN hp hs aj]
theorem zqq {i:Nat} (hp:Perm pos inv ops.size) (hs:ops'.size=ops.size) (aj:∀ i o,ops[i]?=some o->ops'[pos i]?=some (GK pos o)) (hi:i < ops.size) {K:Act->World->Prop} {a:Act} {w:World} (h:wpOpIn F n P ops' Q (pos i) K a w):wpOpIn F n P ops Q i K a w:=by
 unfold wpOpIn at *;have hg:=Array.getElem?_eq_getElem hi;rw [aj i _ hg] at h;rw [hg];simp only at h ⊢;rw [zlS hp hs aj] at h;exact h
theorem znC (hp:Perm pos inv ops.size) (hs:ops'.size=ops.size) (aj:∀ i o,ops[i]?=some o->ops'[pos i]?=some (GK pos o)):∀ (m:Nat) (L L':Array Bool) (a:Act) (w:World),L.size=ops.size->L'.size=ops.size->(∀ i d,L'.getD (pos i) d=L.getD i d) ->
  wpAnyIn F n P .any ops' Q m L' a w->wpAnyIn F n P .any ops Q m L a w:=by
 intro m
 induction m with
 | zero =>
  intro L L' a w hL Ei h hw
  refine ⟨?_,hw.2⟩
  rw [List.eq_nil_iff_forall_not_mem];intro i hi;have:=(Zj hp hs aj h).1 hi;rw [hw.1] at this;simp at this
 | succ m ih =>
  intro L L' a w hL Ei h hw
  refine ⟨fun hr=>hw.1 ?_,fun i hi=>?_⟩
  .rw [List.eq_nil_iff_forall_not_mem];intro p uf;have h1:pos (inv p)∈Region.ready .any ops' L':=by rw [hp.ri];exact uf
   have:=(Zj hp hs aj h).2 h1;rw [hr] at this;simp at this
  .have bR:=(jP.1 hi).1;have h1:=zqq hp hs aj bR (hw.2 _ ((Zj hp hs aj h).1 hi))
   refine wpOpIn_mono (fun a' w' hk=>?_) h1
   exact ih _ _ _ _ (by simpa using hL) (by simpa using Ei) (zrz hp hL Ei h bR) hk
end
theorem zl1 {n:Nat} {order pos:List Nat} (h:XZ n order pos=true):Perm (yJ pos) (yJ order) n/\order.length=n:=by
 unfold XZ at h;simp only [Bool.and_eq_true,beq_iff_eq,List.all_eq_true,List.mem_range,decide_eq_true_eq] at h;obtain ⟨⟨h1,h2⟩,h3⟩:=h;have pY:∀ i,i < n->yJ pos i=pos.getD i 0:=fun i hi=>by unfold yJ;rw [if_pos (by omega)]
 have SN:∀ i,i < n->yJ order i=order.getD i 0:=fun i hi=>by unfold yJ;rw [if_pos (by omega)]
 have ik:∀ i,n<=i->yJ pos i=i:=fun i hi=>by unfold yJ;rw [if_neg (by omega)]
 have ML:∀ i,n<=i->yJ order i=i:=fun i hi=>by unfold yJ;rw [if_neg (by omega)]
 refine ⟨⟨fun i hi=>by rw [pY i hi];exact (h3 i hi).1.1.1,ik,fun i=>?_,fun i=>?_⟩,h1⟩
 .rcases Nat.lt_or_ge i n with hi|hi
  .rw [pY i hi,SN _ (h3 i hi).1.1.1];exact (h3 i hi).1.2
  .rw [ik i hi,ML i hi]
 .rcases Nat.lt_or_ge i n with hi|hi
  .rw [SN i hi,pY _ (h3 i hi).1.1.2];exact (h3 i hi).2
  .rw [ML i hi,ik i hi]
section
variable {C:jH} {P:Program} {Z:List Nat} {S:Bool->Nat->Prop} {base lo nt:Nat} {φ:jO} {H H':Heap} {w:World} {env env':Env} {a:Act}
variable {ro:Option Nat} {n:Nat} {Q:Exit->Act->World->Prop}
theorem zj8 {cl:Callee} (fJ:bI C P cl) {ops:Array Oper} {vs:List af} {c:aV} (hc:Qe P Z nt ops vs=some c) :
  ∃ pre vs',c=.region (some pre) vs'/\∀ (env:Env) (H:Heap) (env':Env) (H':Heap) (φ:jO) (a:Act) (w:World) (Q:Exit->Act->World->Prop),l6 cl pre vs' env H=some (env',H')->R C S base lo nt φ H env a w->(∀ φ' a' w',ig φ H w φ' H' w'->R C S base lo nt φ' H' env' a' w'->Q .normal a' w') ->
  wpAnyIn (Fw ro) n P .any ops Q ops.size (Array.replicate ops.size false) a w:=by
 unfold Qe at hc
 split at hc
 .simp at hc
 .rename_i order pos Z' _;simp only at hc
  split at hc
  .simp at hc
  .rename_i vs' pO
   split at hc
   .rename_i bH;simp only [Option.some.injEq] at hc;subst hc;simp only [Bool.and_eq_true] at bH;obtain ⟨hp,hl⟩:=zl1 bH.1
    refine ⟨_,_,rfl,fun env H env' H' φ a w Q hr hR hQ=>?_⟩
    have bZ:(reorder ops order pos).size=ops.size:=by simp [reorder,hl]
    have aj:∀ i o,ops[i]?=some o->(reorder ops order pos)[yJ pos i]?=some (GK (yJ pos) o):=fun i o ho=>by
     have hi:i < ops.size:=(Array.getElem?_eq_some_iff.1 ho).1;have h1:yJ order (yJ pos i)=i:=hp.li i;have h2:=hp.lt i hi;generalize yJ pos i=k at h1 h2 ⊢;unfold yJ at h1;rw [if_pos (by rw [hl];exact h2)] at h1;have h3:order[k]?=some i:=by
      rw [List.getD_eq_getElem?_getD] at h1;have h4:order[k]?=some order[k]:=List.getElem?_eq_getElem (by rw [hl];exact h2);rw [h4] at h1 ⊢
      simpa using h1
     simp only [reorder,List.getElem?_toArray,List.getElem?_map,h3,Option.map_some];rw [Array.getD_eq_getD_getElem?,ho];rfl
    have:=Zh (ro:=ro) (n:=n) (Q:=Q) fJ bH.2 (YN bH.2) pO hr hR hQ;rw [bZ] at this
    refine znC hp bZ aj ops.size _ _ a _ (by simp) (by simp) (fun i d=>?_) this
    by_cases hi:i < ops.size
    .simp [hi,hp.lt i hi]
    .rw [hp.out i (by omega)]
   .simp at hc
theorem zrL {cl:Callee} (fJ:bI C P cl) (p8:P.follows .mixedOrders=true) {id:Nat} {ops:Array Oper} {vs:List af} {c:aV} (hc:Qe P Z nt ops vs=some c) :
  ∃ pre vs',c=.region (some pre) vs'/\(l6 cl pre vs' env H=some (env',H')->R C S base lo nt φ H env a w->(∀ φ' a' w',ig φ H w φ' H' w'->R C S base lo nt φ' H' env' a' w'->Q .normal a' w') ->
  (Code.region id ops true).wpIn (Fw ro) n P Q a w):=by
 obtain ⟨pre,vs',h1,h2⟩:=zj8 (S:=S) (base:=base) (lo:=lo) (ro:=ro) (n:=n) fJ hc;exact ⟨pre,vs',h1,fun hr hR hQ=>wpIn_region_any p8 (h2 _ _ _ _ _ _ _ _ hr (Zi hR) fun φ' a' w' he su=>hQ φ' a' w' (Ac.trans he) su)⟩
end
section
variable {ops:Array Oper} {F:Fence} {n s:Nat} {P:Program} {Q:Exit->Act->World->Prop}
theorem Zl (ops:Array Oper) (s i:Nat):(xy ops s)[i]?=(ops[s+i]?).map (NQ s):=by
 simp [xy]
theorem Zm (ops:Array Oper) {s i:Nat} (h:i < s):(BZ ops s)[i]?=ops[i]?:=by
 simp [BZ,List.getElem?_take_of_lt h]
theorem zjx (ops:Array Oper) (s:Nat):(xy ops s).size=ops.size - s:=by simp [xy]
theorem Qv {ops:Array Oper} {s:Nat} (h:s<=ops.size):(BZ ops s).size=s:=by simp [BZ,h]
structure wY (ops:Array Oper) (s:Nat):Prop where
 le:s<=ops.size
 back:∀ i o,ops[i]?=some o->∀ e∈o.after,Region.binds .any e=true->e.on < i
 gh:∀ i o g,ops[i]?=some o->o.guard=some g->i < s->g.1 < s
 gt:∀ i o g,ops[i]?=some o->o.guard=some g->s<=i->s<=g.1
 wait:∀ i,s<=i->i < ops.size->∀ j,j < s->lI ops i j
theorem zn8 (h:X3 ops s=true):wY ops s:=by
 unfold X3 at h;simp only [Bool.and_eq_true,decide_eq_true_eq,List.all_eq_true,List.mem_range] at h;obtain ⟨h1,h2⟩:=h;have bf:∀ i o,ops[i]?=some o->i < ops.size/\ops.getD i default=o:=fun i o ho=>by
  have aO:=(Array.getElem?_eq_some_iff.1 ho).1
  refine ⟨aO,?_⟩
  have:=(Array.getElem?_eq_some_iff.1 ho).2;simp [aO,this]
 refine ⟨h1,fun i o ho e he hb=>?_,fun i o g ho hg hi=>?_,fun i o g ho hg hi=>?_,fun i hi hn j hj=>?_⟩
 .obtain ⟨a,b⟩:=bf i o ho;have:=(h2 i a).1;rw [b,Array.all_eq_true_iff_forall_mem] at this;have:=this e he;rw [hb] at this
  simpa using this
 .obtain ⟨a,b⟩:=bf i o ho;have:=(h2 i a).2;rw [b,if_pos hi,hg] at this
  simpa using this
 .obtain ⟨a,b⟩:=bf i o ho;have:=(h2 i a).2;rw [b,if_neg (by omega),hg] at this;simp only [Bool.and_eq_true,decide_eq_true_eq] at this;exact this.1
 .have:=(h2 i hn).2;rw [if_neg (by omega)] at this;simp only [Bool.and_eq_true,List.all_eq_true,List.mem_range] at this;exact SA ops.toList [] (fun k=>by simp) (fun a b h=>by simp at h) i j (this.2 j hj)
theorem zkQ {tmps:Array Value} {j:Nat} (h:s<=j):yielded (xy ops s) tmps (j - s)=yielded ops tmps j:=by
 unfold yielded;rw [Zl,show s+(j - s)=j by omega]
 cases ops[j]?<;>rfl
theorem zlf {tmps:Array Value} {j:Nat} (h:j < s):yielded (BZ ops s) tmps j=yielded ops tmps j:=by
 unfold yielded;rw [Zm ops h]
theorem zpe (hc:wY ops s) {i:Nat} (hi:s<=i) (hn:i < ops.size) {K:Act->World->Prop} {a:Act} {w:World} (h:wpOpIn F n P (xy ops s) Q (i - s) K a w):wpOpIn F n P ops Q i K a w:=by
 unfold wpOpIn at *;have hg:=Array.getElem?_eq_getElem hn;rw [Zl,show s+(i - s)=i by omega,hg] at h;rw [hg];simp only [Option.map_some] at h ⊢;have hw:Region.wanted (NQ s ops[i]) (yielded (xy ops s) a.tmps)=Region.wanted ops[i] (yielded ops a.tmps):=by
  unfold Region.wanted NQ
  cases Qw:ops[i].guard with
  | none=>rfl
  | some g =>
   simp only [Option.map_some];rw [zkQ (hc.gt i _ g hg Qw hi)]
 rw [hw] at h;exact h
theorem zpW {o:Oper} {a:Act} {w:World} {K K1:Act->World->Prop} (h:o.wpIn F n P a w K (Exit.then K1 Q)):o.wpIn F n P a w K Q:=by
 unfold Oper.wpIn at *
 refine ⟨h.1,?_⟩
 have hh:=h.2;generalize (o.semAt F.round a.eval).run P w=r at *;have hl:LetsOut (Exit.then K1 Q)->LetsOut Q:=fun ⟨a,w,h⟩=>⟨a,w,h⟩
 cases r with
 | ok x w' =>
  cases x<;>simp only [Oper.uponIn] at hh ⊢ <;>
   first
    | exact hh
    | exact ⟨hh.1,CallsIn.mono hh.2 (fun e w'' he=>by cases e<;>first|exact hl he|exact he)⟩
    | exact ⟨hh.1,RoundIn.mono hh.2 (fun e w'' he=>by cases e<;>first|exact hl he|exact he)⟩
 | halt x w'=>cases x<;>simp only [Oper.uponIn] at hh ⊢<;>exact hh
theorem zpc (hc:wY ops s) {i:Nat} (hi:i < s) {K K1:Act->World->Prop} {a:Act} {w:World} (h:wpOpIn F n P (BZ ops s) (Exit.then K1 Q) i K a w):wpOpIn F n P ops Q i K a w:=by
 unfold wpOpIn at *;have hn:i < ops.size:=by have:=hc.le;omega
 have hg:=Array.getElem?_eq_getElem hn;rw [Zm ops hi,hg] at h;rw [hg];simp only at h ⊢;have hw:Region.wanted ops[i] (yielded (BZ ops s) a.tmps)=Region.wanted ops[i] (yielded ops a.tmps):=by
  unfold Region.wanted
  cases Qw:ops[i].guard with
  | none=>rfl
  | some g =>
   simp only;rw [zlf (hc.gh i _ g hg Qw hi)]
 rw [hw] at h
 split
 .rename_i hx;rw [if_pos hx] at h;exact zpW h
 .rename_i hx;rw [if_neg hx] at h;exact h
theorem zrx (hc:wY ops s):∀ (m:Nat) (L L2:Array Bool) (a:Act) (w:World),L.size=ops.size->L2.size=ops.size - s->(∀ j,j < s->L.getD j true=true/\L.getD j false=true)->(∀ j d,L2.getD j d=L.getD (s+j) d) ->
  wpAnyIn F n P .any (xy ops s) Q m L2 a w->wpAnyIn F n P .any ops Q m L a w:=by
 have uO:∀ (L L2:Array Bool),(∀ j,j < s->L.getD j true=true/\L.getD j false=true)->(∀ j d,L2.getD j d=L.getD (s+j) d)->∀ i,i∈Region.ready .any ops L↔s<=i/\i - s∈Region.ready .any (xy ops s) L2:=fun L L2 hd h i=>by
  rw [jP,jP,zjx,Zl]
  constructor
  .rintro ⟨h1,h2,o,h3,h4⟩;have hi:s<=i:=by
    rcases Nat.lt_or_ge i s with aO|SQ
    .have:=(hd i aO).1;rw [this] at h2;simp at h2
    .exact SQ
   refine ⟨hi,by omega,by rw [h,show s+(i - s)=i by omega];exact h2,NQ s o,by rw [show s+(i - s)=i by omega,h3];rfl,?_⟩
   intro e he hb;simp only [NQ,Array.mem_map,Array.mem_filter,decide_eq_true_eq] at he;obtain ⟨e0,⟨Zk,pM⟩,rfl⟩:=he;have:=h4 e0 Zk hb;rw [h];simp only;rw [show s+(e0.on - s)=e0.on by omega];exact this
  .rintro ⟨hi,h1,h2,o,h3,h4⟩;have e1:s+(i - s)=i:=by omega
   rw [h,e1] at h2;rw [e1] at h3;have hn:i < ops.size:=by omega
   rw [Array.getElem?_eq_getElem hn] at h3;simp only [Option.map_some,Option.some.injEq] at h3
   refine ⟨hn,h2,ops[i],Array.getElem?_eq_getElem hn,fun e he hb=>?_⟩
   rcases Nat.lt_or_ge e.on s with aO|SQ
   .exact (hd _ aO).2
   .have:=h4 { e with on:=e.on - s } (by rw [<- h3];simp only [NQ,Array.mem_map,Array.mem_filter,decide_eq_true_eq];exact ⟨e,⟨he,SQ⟩,rfl⟩) hb;rw [h] at this;simp only at this;rwa [show s+(e.on - s)=e.on by omega] at this
 intro m
 induction m with
 | zero =>
  intro L L2 a w hL hL2 hd h hw
  refine ⟨?_,hw.2⟩
  rw [List.eq_nil_iff_forall_not_mem];intro i hi;have:=((uO L L2 hd h i).1 hi).2;rw [hw.1] at this;simp at this
 | succ m ih =>
  intro L L2 a w hL hL2 hd h hw
  refine ⟨fun hr=>hw.1 ?_,fun i hi=>?_⟩
  .rw [List.eq_nil_iff_forall_not_mem];intro p hp;have:=(uO L L2 hd h (s+p)).2 ⟨by omega,by rw [show s+p - s=p by omega];exact hp⟩;rw [hr] at this;simp at this
  .obtain ⟨h1,h2⟩:=(uO L L2 hd h i).1 hi;have hn:=(jP.1 hi).1
   refine wpOpIn_mono (fun a' w' hk=>?_) (zpe hc h1 hn (hw.2 _ h2))
   refine ih _ _ _ _ (by simpa using hL) (by simpa using hL2) (fun j hj=>?_) (fun j d=>?_) hk
   .rw [zT,zT,if_neg (by omega),if_neg (by omega)];exact hd j hj
   .rw [zT,zT,h j d]
    by_cases e:i - s=j
    .rw [if_pos ⟨e,by omega⟩,if_pos ⟨by omega,by omega⟩]
    .rw [if_neg (fun h=>e h.1),if_neg (fun h=>e (by omega))]
theorem zr5 (hc:wY ops s):∀ (m:Nat) (L LA:Array Bool) (a:Act) (w:World),L.size=ops.size->LA.size=s->(∀ j,j < s->∀ d,LA.getD j d=L.getD j d)->(∀ j,s<=j->j < ops.size->L.getD j true=false)->Closed ops L ->
  m=(List.range s).countP (fun i=>!LA.getD i true) ->
  wpAnyIn F n P .any (BZ ops s) (Exit.then (fun a' w'=>wpAnyIn F n P .any (xy ops s) Q (ops.size - s) (Array.replicate (ops.size - s) false) a' w') Q) m LA a w->wpAnyIn F n P .any ops Q (m+(ops.size - s)) L a w:=by
 intro m
 induction m with
 | zero =>
  intro L LA a w hL Zn h ht fJ hm hw;have fq:∀ j,j < s->LA.getD j true=true:=fun j hj=>by
   have h0:(List.range s).countP (fun i=>!LA.getD i true)=0:=hm.symm;rw [List.countP_eq_zero] at h0;have:=h0 j (List.mem_range.2 hj)
   simpa using this
  have J5:wpAnyIn F n P .any (xy ops s) Q (ops.size - s) (Array.replicate (ops.size - s) false) a w:=hw.2;rw [Nat.zero_add]
  refine zrx hc _ L _ a w hL (by simp) (fun j hj=>?_) (fun j d=>?_) J5
  .have h1:=fq j hj;have h2:=h j hj;have Zo:j < L.size:=by have:=hc.le;omega
   rw [h2] at h1
   refine ⟨h1,?_⟩
   simpa [Zo] using h1
  .by_cases hj:s+j < ops.size
   .have:=ht (s+j) (by omega) hj;have Zo:s+j < L.size:=by omega
    simp only [Array.getD_eq_getD_getElem?,Zo,Array.getElem?_eq_getElem,Option.getD_some] at this ⊢;rw [this];simp [show j < ops.size - s by omega]
   .simp [Array.getD_eq_getD_getElem?,show ¬ j < ops.size - s by omega,show L.size<=s+j by omega]
 | succ m ih =>
  intro L LA a w hL Zn h ht fJ hm hw;have hex:∃ j,j < s/\L.getD j true=false:=Classical.byContradiction fun uD=>by
   have h0:(List.range s).countP (fun i=>!LA.getD i true)=0:=by
    rw [List.countP_eq_zero];intro j hj;have hj:=List.mem_range.1 hj
    cases hx:L.getD j true with
    | true=>rw [h j hj,hx];simp
    | false=>exact absurd ⟨j,hj,hx⟩ uD
   omega
  obtain ⟨j0,hj0,hu0⟩:=hex;have CJ:=hc.le;rw [show m+1+(ops.size - s)=m+(ops.size - s)+1 by omega]
  refine ⟨fun hr=>absurd hr (YS hL hc.back ⟨j0,by omega,hu0⟩),fun i hi=>?_⟩
  obtain ⟨hu,hn,mf⟩:=Qs hL hc.back hi;have bR:i < s:=by
   rcases Nat.lt_or_ge i s with aO|SQ
   .exact aO
   .have:=(hc.wait i SQ hn j0 hj0).done fJ mf;rw [hu0] at this;simp at this
  have hiA:i∈Region.ready .any (BZ ops s) LA:=by
   rw [jP];obtain ⟨a1,a2,o,a3,a4⟩:=jP.1 hi
   refine ⟨by rw [Qv CJ];exact bR,by rw [h i bR];exact a2,o,by rw [Zm ops bR];exact a3,fun e he hb=>?_⟩
   have:=hc.back i o a3 e he hb;rw [h _ (by omega)];exact a4 e he hb
  refine wpOpIn_mono (fun a' w' hk=>?_) (zpc hc bR (hw.2 i hiA))
  refine ih _ _ _ _ (by simpa using hL) (by simpa using Zn) (fun j hj d=>?_) (fun j h1 h2=>?_) (YU hL fJ mf) ?_ hk
  .rw [zT,zT,h j hj d]
   by_cases e:i=j
   .rw [if_pos ⟨e,by omega⟩,if_pos ⟨e,by omega⟩]
   .rw [if_neg (fun x=>e x.1),if_neg (fun x=>e x.1)]
  .rw [zT,if_neg (by omega)];exact ht j h1 h2
  .have hAs:LA.size=(BZ ops s).size:=by rw [Qv CJ];exact Zn
   have:=YV (ops:=BZ ops s) (L:=LA) hAs (i:=i) (m:=m) (by rw [Qv CJ];exact bR) (by rw [h i bR];exact hu) (by rw [Qv CJ];exact hm);rwa [Qv CJ] at this
theorem zsU (hc:wY ops s) {a:Act} {w:World} (h:wpAnyIn F n P .any (BZ ops s) (Exit.then (fun a' w'=>wpAnyIn F n P .any (xy ops s) Q (xy ops s).size (Array.replicate (xy ops s).size false) a' w') Q) (BZ ops s).size (Array.replicate (BZ ops s).size false) a w) :
  wpAnyIn F n P .any ops Q ops.size (Array.replicate ops.size false) a w:=by
 have hle:=hc.le;rw [Qv hle,zjx] at h;have Zp:s=(List.range s).countP (fun i=>!(Array.replicate s false).getD i true):=by
  have:(List.range s).countP (fun i=>!(Array.replicate s false).getD i true)=(List.range s).length:=List.countP_eq_length.2 fun i hi=>by
   have:=List.mem_range.1 hi;simp [this]
  rw [this,List.length_range]
 have:=zr5 (Q:=Q) hc s (Array.replicate ops.size false) (Array.replicate s false) a w (by simp) (by simp) (fun j hj d=>by simp [hj,show j < ops.size by omega]) (fun j h1 h2=>by simp [h2]) (fun i o ho hd=>by
  have bR:i < ops.size:=(Array.getElem?_eq_some_iff.1 ho).1;simp [bR] at hd) Zp h
 rwa [show s+(ops.size - s)=ops.size by omega] at this
end
section
variable {C:jH} {P:Program} {Z:List Nat} {S:Bool->Nat->Prop} {base lo nt:Nat} {φ:jO} {H H':Heap} {w:World} {env env':Env} {a:Act}
variable {ro:Option Nat} {n:Nat} {Q:Exit->Act->World->Prop}
theorem zhw {cl:Callee} (fJ:bI C P cl) {ops:Array Oper} {c:aV} (hc:Qf P Z nt ops=some c) :
  ∃ pre vs',c=.region (some pre) vs'/\∀ (env:Env) (H:Heap) (env':Env) (H':Heap) (φ:jO) (a:Act) (w:World) (Q:Exit->Act->World->Prop),l6 cl pre vs' env H=some (env',H')->R C S base lo nt φ H env a w->(∀ φ' a' w',ig φ H w φ' H' w'->R C S base lo nt φ' H' env' a' w'->Q .normal a' w') ->
  wpAnyIn (Fw ro) n P .any ops Q ops.size (Array.replicate ops.size false) a w:=by
 unfold Qf at hc
 split at hc
 .simp at hc
 .rename_i vs pO
  split at hc
  .rename_i c' Em;simp at hc;subst hc;exact zj8 fJ Em
  .split at hc
   .rename_i bH;simp at hc;subst hc;exact ⟨_,_,rfl,fun env H env' H' φ a w Q hr hR hQ=>Zh fJ bH (YN bH) pO hr hR hQ⟩
   .simp at hc
theorem zhB {ops:Array Oper} {c:aV} (hc:Qf P Z nt ops=some c):∃ pre vs',c=.region (some pre) vs':=by
 unfold Qf at hc
 split at hc
 .simp at hc
 .split at hc
  .rename_i c' Em;simp at hc;subst hc;unfold Qe at Em
   split at Em
   .simp at Em
   .simp only at Em
    split at Em
    .simp at Em
    .split at Em
     .simp at Em;exact ⟨_,_,Em.symm⟩
     .simp at Em
  .split at hc
   .simp at hc;exact ⟨_,_,hc.symm⟩
   .simp at hc
theorem Zq {cl:Callee}:∀ (ss:List Nat) (ops:Array Oper) (c:aV),Qg P Z nt ss ops=some c->∀ {env:Env} {H:Heap} {x:fZ} {env':Env} {H':Heap},exec cl c env H=some (x,env',H')->x=.normal
 | [],ops,c,hc,env,H,x,env',H',hx=>by
  obtain ⟨pre,vs',rfl⟩:=zhB hc;simp only [exec] at hx
  split at hx
  .simp at hx;exact hx.1.symm
  .simp at hx
 | s::ss,ops,c,hc,env,H,x,env',H',hx=>by
  unfold Qg at hc
  split at hc
  .split at hc
   .rename_i c1 c2 h1 h2;simp at hc;subst hc;obtain ⟨pre,vs',rfl⟩:=zhB h1;simp only [exec] at hx
    cases hr:l6 cl ((some pre).getD 0) vs' env H with
    | none=>rw [hr] at hx;simp at hx
    | some r =>
     obtain ⟨e1,H1⟩:=r;rw [hr] at hx;exact Zq ss _ _ h2 hx
   .simp at hc
  .simp at hc
theorem zjG {cl:Callee} (fJ:bI C P cl):∀ (ss:List Nat) (ops:Array Oper) (c:aV),Qg P Z nt ss ops=some c->∀ (env:Env) (H:Heap) (x:fZ) (env':Env) (H':Heap) (φ:jO) (a:Act) (w:World) (Q:Exit->Act->World->Prop),exec cl c env H=some (x,env',H')->R C S base lo nt φ H env a w->(∀ φ' a' w',ig φ H w φ' H' w'->R C S base lo nt φ' H' env' a' w'->Q .normal a' w') ->
  x=.normal/\wpAnyIn (Fw ro) n P .any ops Q ops.size (Array.replicate ops.size false) a w
 | [],ops,c,hc,env,H,x,env',H',φ,a,w,Q,hx,hR,hQ=>by
  obtain ⟨pre,vs',rfl,hw⟩:=zhw (S:=S) (base:=base) (lo:=lo) (ro:=ro) (n:=n) fJ hc;simp only [exec,Option.getD_some] at hx
  split at hx
  .rename_i e1 H1 hr;simp at hx;obtain ⟨rfl,rfl,rfl⟩:=hx;exact ⟨rfl,hw _ _ _ _ _ _ _ _ hr hR hQ⟩
  .simp at hx
 | s::ss,ops,c,hc,env,H,x,env',H',φ,a,w,Q,hx,hR,hQ=>by
  unfold Qg at hc
  split at hc
  .rename_i bH
   split at hc
   .rename_i c1 c2 h1 h2;simp at hc;subst hc;obtain ⟨pre,vs',rfl,hw⟩:=zhw (S:=S) (base:=base) (lo:=lo) (ro:=ro) (n:=n) fJ h1;simp only [exec,Option.getD_some] at hx
    cases hr:l6 cl pre vs' env H with
    | none=>rw [hr] at hx;simp at hx
    | some r =>
     obtain ⟨e1,H1⟩:=r;rw [hr] at hx;simp only at hx;have main:∀ φ1 a1 w1,ig φ H w φ1 H1 w1->R C S base lo nt φ1 H1 e1 a1 w1->x=.normal/\wpAnyIn (Fw ro) n P .any (xy ops s) Q (xy ops s).size (Array.replicate (xy ops s).size false) a1 w1:=fun φ1 a1 w1 he mg =>
      zjG fJ ss (xy ops s) c2 h2 e1 H1 x env' H' φ1 a1 w1 Q hx mg fun φ' a' w' Hg su=>hQ φ' a' w' (he.trans Hg) su
     have Zr:x=.normal:=by
      exact Zq ss _ _ h2 hx
     exact ⟨Zr,zsU (zn8 bH) (hw _ _ _ _ _ _ _ _ hr hR fun φ1 a1 w1 he mg=>(main φ1 a1 w1 he mg).2)⟩
   .simp at hc
  .simp at hc
end
def CC (P:Program):jH:=fun nt c v=>∃ Z,zR P Z nt c=some v/\v.fI=true
section rules
variable {F:Fence} {n:Nat} {P:Program} {Q:Exit->Act->World->Prop} {a:Act} {w:World}
theorem Qx {b:Frame} {k:List Item} {cs:List Frame} {c:Code}:Go.step P (lone (b.atR a (.code (.scope c)::k)) cs w)=.next (lone (b.atR a (.code c::.inScope c::k)) cs w) :=
 step_lone_go (by simp [stepG,stepG.exec,Frame.atR])
theorem zjo {b:Frame} {k:List Item} {cs:List Frame} {c:Code}:Go.step P (lone (b.atR a (.inScope c::k)) cs w)=.next (lone (b.atR a k) cs w) :=
 step_lone_go (by simp [stepG,stepG.exec,Frame.atR])
theorem zot {c:Code} (h:c.wpIn F n P (fun e a w=>Q e a w/\∀ l,e≠.goto l) a w):(Code.scope c).wpIn F n P Q a w:=by
 intro b k cs ug hb hr;have h0:(lone (b.atR a (.code (.scope c)::k)) cs w).fenced P F:=fenced_calm hb hr rfl;obtain ⟨e,a₁,w₁,⟨hq,Ws⟩,mQ⟩:=h b (.inScope c::k) cs ug hb hr
 cases e with
 | normal=>exact ⟨.normal,a₁,w₁,hq,.head h0 Qx (StepsIn.trans mQ (.one (fenced_calm hb hr rfl) zjo))⟩
 | exit id =>
  have hx:exitTo id (.inScope c::k)=exitTo id k:=by simp [exitTo]
  exact ⟨.exit id,a₁,w₁,hq,fun k' hk=>.head h0 Qx (mQ.1 k' (by rw [hx];exact hk)),
   fun En hk=>let ⟨k₁,h1,h2⟩:=mQ.2 En (by rw [hx];exact hk);⟨k₁,h1,.head h0 Qx h2⟩⟩
 | goto l=>exact absurd rfl (Ws l)
 | ret=>exact ⟨_,a₁,w₁,hq,.of_steps (.one h0 Qx) mQ⟩
 | panic ch=>exact ⟨_,a₁,w₁,hq,.of_steps (.one h0 Qx) mQ⟩
 | outgrown=>exact ⟨_,a₁,w₁,hq,.of_steps (.one h0 Qx) mQ⟩
theorem zmZ {c:Code} (I:Nat->Act->World->Prop) (m:Nat) (h₀:I m a w)
  (round:∀ m a w,I m a w->∃ k,m=k+1/\c.wpIn F n P (Exit.then (fun a' w'=>I k a' w') Q) a w):(Code.loop c).wpIn F n P Q a w:=by
 intro b k cs ug hb hr;have key:∀ j a w,I j a w ->
   ∃ e a' w',Q e a' w'/\ArrivesIn (Machine.fenced P F) P (lone (b.atR a (.code c::.inLoop c::k)) cs w) b k cs e a' w':=by
  intro j
  induction j with
  | zero=>intro a w hI;obtain ⟨k,h,_⟩:=round 0 a w hI;omega
  | succ j ih =>
   intro a w hI;obtain ⟨k',wS,CB⟩:=round _ a w hI;have Zt:k'=j:=by omega
   subst Zt;obtain ⟨e,a₁,w₁,hq,mQ⟩:=CB b (.inLoop c::k) cs ug hb hr
   cases e with
   | normal =>
    obtain ⟨e₂,a₂,w₂,hq₂,harr₂⟩:=ih a₁ w₁ hq;exact ⟨e₂,a₂,w₂,hq₂,.of_steps (StepsIn.trans mQ (.one (fenced_calm hb hr rfl) stepR_inLoop)) harr₂⟩
   | exit id=>exact ⟨_,a₁,w₁,hq,.pass (x:=.inLoop c) rfl (fun _ _=>.inl (by simp)) mQ⟩
   | goto l=>exact ⟨_,a₁,w₁,hq,.pass (x:=.inLoop c) rfl (fun _ _=>.inl (by simp)) mQ⟩
   | ret=>exact ⟨_,a₁,w₁,hq,.pass (x:=.inLoop c) rfl (fun _ _=>.inl (by simp)) mQ⟩
   | panic ch=>exact ⟨_,a₁,w₁,hq,.pass (x:=.inLoop c) rfl (fun _ _=>.inl (by simp)) mQ⟩
   | outgrown=>exact ⟨_,a₁,w₁,hq,.pass (x:=.inLoop c) rfl (fun _ _=>.inl (by simp)) mQ⟩
 obtain ⟨e,a',w',hq,mQ⟩:=key _ a w h₀;exact ⟨e,a',w',hq,.of_steps (.one (fenced_calm hb hr rfl) stepR_loop) mQ⟩
end rules
theorem zhE {P:Program} {w:World} {b:Nat} {l:Loop} (h:w.heap[b]?=some (.loop l)):(getObj b).run P w=.ok (.loop l) w:=by simp [getObj,Sem.run,h]
theorem Zu {P:Program} {w:World} {b:Nat} {l:Loop} (h:w.heap[b]?=some (.loop l)):(Instr.getLoop b).run P w=.ok l w:=by
 simp only [Instr.getLoop,Sem.run_bind,zhE h,Result.andThen_ok,Sem.run_pure]
def laid (w:World) (b:Nat) (o:Obj):World:={ w with heap:=w.heap.setIfInBounds b o }
theorem Zw {P:Program} {w:World} {b:Nat} {l:Loop} (h:w.heap[b]?=some (.loop l)) (o:Obj):(setObj b o).run P w=.ok () (laid w b o):=by simp [setObj,Sem.run,h,laid]
theorem EY {w:World} {b c:Nat} {o:Obj} (h:c≠b):(laid w b o).heap[c]?=w.heap[c]?:=by
 simp only [laid,Array.getElem?_setIfInBounds];rw [if_neg (fun e=>h e.symm)]
theorem zjT {w:World} {b:Nat} {o:Obj} (h:b < w.heap.size):(laid w b o).heap[b]?=some o:=by
 simp [laid,h]
theorem SS {w:World} {b:Nat} {o:Obj} (h:w.heap[b]?=some o):b < w.heap.size:=by
 rcases Nat.lt_or_ge b w.heap.size with hb|hb
 .exact hb
 .rw [Array.getElem?_eq_none hb] at h;simp at h
theorem Qy (w:World) (o:Obj):(w.alloc o).heap.size=w.heap.size+1:=Array.size_push _
theorem zmd (w:World) (o:Obj):(w.alloc o).heap[w.heap.size]?=some o:=Array.getElem?_push_size
theorem zqC {P:Program} {w:World} (o:Obj):(newObj o).run P w=.ok w.heap.size (w.alloc o):=rfl
theorem zjv {P:Program} {w:World} (fn:FuncId) (tmps:Array Value) (ps:Array Tmp) (assign body:Code) :
  (Instr.enterLoop fn tmps ps assign body none).run P w=.ok (w.heap.size+1,[Ha w.heap.size]) ((w.alloc (.deferred (some []))).alloc (.loop { state:=.ready,pending:=none,fn:=fn,tmps:=tmps,params:=ps,assign:=assign,body:=body,defers:=w.heap.size })):=by
 simp only [Instr.enterLoop,Sem.run_bind,Result.andThen_ok,Sem.run_pure,zqC,Qy]
theorem zib (x:fZ) (l:Nat):XT x≠.goto l:=by cases x<;>simp [XT]
section
variable {P:Program} {Z:List Nat} {S:Bool->Nat->Prop} {base lo nt:Nat} {n:Nat}
theorem zqw (f:Env->Heap->Out) (m:Nat) (env:Env) (H:Heap):iter f (m+1) env H=match f env H with
  | some (.normal,env',H')=>iter f m env' H'
  | r=>r:=rfl
theorem Zx {cl:Callee} (fJ:bI (CC P) P cl) (p8:P.follows .mixedOrders=true) {ro:Option Nat}:∀ (c:Code) (vc:aV) (env:Env) (H:Heap) (x:fZ) (env':Env) (H':Heap) (φ:jO) (a:Act) (w:World) (Q:Exit->Act->World->Prop),
  (ro=none\/vc.fI=true)->zR P Z nt c=some vc->exec cl vc env H=some (x,env',H')->R (CC P) S base lo nt φ H env a w ->
  (∀ φ' a' w',ig φ H w φ' H' w'->R (CC P) S base lo nt φ' H' env' a' w'->Q (XT x) a' w')->c.wpIn (Fw ro) n P Q a w:=by
 intro c
 induction c with
 | skip =>
  intro vc env H x env' H' φ a w Q ug hc hx hR hQ;simp [zR] at hc;subst hc;simp [exec] at hx;obtain ⟨rfl,rfl,rfl⟩:=hx;exact wpIn_skip (hQ φ a w ig.refl hR)
 | label l =>
  intro vc env H x env' H' φ a w Q ug hc hx hR hQ;simp [zR] at hc;subst hc;simp [exec] at hx;obtain ⟨rfl,rfl,rfl⟩:=hx;exact wpIn_label (hQ φ a w ig.refl hR)
 | region id ops draw =>
  intro vc env H x env' H' φ a w Q ug hc hx hR hQ;simp only [zR] at hc
  split at hc
  .rename_i s ss _
   split at hc
   .rename_i hd;subst hd;have qO:ig φ H w φ H w.drew:=Ac;have Zr:=Zq (s::ss) ops vc hc hx;subst Zr;exact wpIn_region_any p8 (zjG (S:=S) (base:=base) (lo:=lo) (ro:=ro) (n:=n) fJ (s::ss) ops vc hc env H .normal env' H' φ a w.drew Q hx (Zi hR) fun φ' a' w' he su=>hQ φ' a' w' (qO.trans he) su).2
   .simp at hc
  split at hc
  .simp at hc
  .rename_i vs pO
   split at hc
   .rename_i hd;subst hd
    split at hc
    .rename_i c' Em;simp at hc;subst hc;obtain ⟨pre,vs',rfl,hw⟩:=zrL (ro:=ro) (n:=n) (Q:=Q) (id:=id) (env:=env) (H:=H) (env':=env') (H':=H') (φ:=φ) (a:=a) (w:=w) fJ p8 Em;simp only [exec,Option.getD_some] at hx
     split at hx
     .rename_i e1 H1 hr;simp at hx;obtain ⟨rfl,rfl,rfl⟩:=hx;exact hw hr hR hQ
     .simp at hx
    split at hc
    .rename_i bH;simp at hc;subst hc;simp only [exec,Option.getD_some] at hx
     split at hx
     .rename_i e1 H1 hr;simp at hx;obtain ⟨rfl,rfl,rfl⟩:=hx;exact zti fJ p8 bH (YN bH) pO hr hR hQ
     .simp at hx
    .simp at hc
   .rename_i hd;simp at hc;subst hc;have qO:draw=false:=by simpa using hd
    subst qO;simp only [exec,Option.getD_none] at hx
    split at hx
    .rename_i e1 H1 hr;simp at hx;obtain ⟨rfl,rfl,rfl⟩:=hx
     refine wpIn_region ?_
     rw [List.range_eq_range'];exact znX fJ ops.toList vs 0 env H φ a w _ _ (fun j=>by simp) pO hr hR hQ
    .simp at hx
 | seq c1 c2 ih1 ih2 =>
  intro vc env H x env' H' φ a w Q ug hc hx hR hQ;simp only [zR] at hc
  split at hc
  .rename_i v1 v2 h1 h2;simp at hc;subst hc;have Oj:ro=none\/v1.fI=true:=ug.imp id fun h=>by simp [aV.fI] at h;exact h.1
   have Ol:ro=none\/v2.fI=true:=ug.imp id fun h=>by simp [aV.fI] at h;exact h.2
   refine wpIn_seq ?_
   simp only [exec] at hx
   cases CK:exec cl v1 env H with
   | none=>rw [CK] at hx;simp at hx
   | some r =>
    obtain ⟨x1,vY,H1⟩:=r;rw [CK] at hx
    refine ih1 v1 env H x1 vY H1 φ a w _ Oj h1 CK hR fun φ1 a1 w1 rA mg=>?_
    cases x1 with
    | normal =>
     simp only at hx;exact ih2 v2 vY H1 x env' H' φ1 a1 w1 Q Ol h2 hx mg fun φ2 a2 w2 rz jC=>hQ φ2 a2 w2 (rA.trans rz) jC
    | exit i =>
     simp at hx;obtain ⟨rfl,rfl,rfl⟩:=hx;exact hQ φ1 a1 w1 rA mg
    | ret =>
     simp at hx;obtain ⟨rfl,rfl,rfl⟩:=hx;exact hQ φ1 a1 w1 rA mg
  .simp at hc
 | cond cnd c1 c2 ih1 ih2 =>
  intro vc env H x env' H' φ a w Q ug hc hx hR hQ;simp only [zR] at hc
  split at hc
  .rename_i z v1 v2 hz h1 h2;simp at hc;subst hc;have Oj:ro=none\/v1.fI=true:=ug.imp id fun h=>by simp [aV.fI] at h;exact h.1
   have Ol:ro=none\/v2.fI=true:=ug.imp id fun h=>by simp [aV.fI] at h;exact h.2
   simp only [exec] at hx
   split at hx
   .rename_i t ht;have hv:=zG hR.env hz;rw [ht] at hv
    refine wpIn_cond hv.iF ?_
    cases t with
    | true=>simp only [if_true] at hx ⊢;exact ih1 v1 env H x env' H' φ a w Q Oj h1 hx hR hQ
    | false=>simp only [Bool.false_eq_true,if_false] at hx ⊢;exact ih2 v2 env H x env' H' φ a w Q Ol h2 hx hR hQ
   .simp at hx
  .simp at hc
 | block id c ih =>
  intro vc env H x env' H' φ a w Q ug hc hx hR hQ;simp only [zR,Option.map_eq_some_iff] at hc;obtain ⟨v,hv,rfl⟩:=hc
  refine wpIn_block ?_
  simp only [exec] at hx
  cases CK:exec cl v env H with
  | none=>rw [CK] at hx;simp at hx
  | some r =>
   obtain ⟨x1,vY,H1⟩:=r;rw [CK] at hx
   refine ih v env H x1 vY H1 φ a w _ ug hv CK hR fun φ1 a1 w1 rA mg=>?_
   cases x1 with
   | normal =>
    simp at hx;obtain ⟨rfl,rfl,rfl⟩:=hx;exact hQ φ1 a1 w1 rA mg
   | exit i =>
    simp only at hx;show Exit.inBlock id Q (.exit i) a1 w1
    by_cases hi:i=id
    .simp [hi] at hx;obtain ⟨rfl,rfl,rfl⟩:=hx;simp only [Exit.inBlock,hi,if_true];exact hQ φ1 a1 w1 rA mg
    .simp [hi] at hx;obtain ⟨rfl,rfl,rfl⟩:=hx;simp only [Exit.inBlock,hi,if_false];exact hQ φ1 a1 w1 rA mg
   | ret =>
    simp at hx;obtain ⟨rfl,rfl,rfl⟩:=hx;exact hQ φ1 a1 w1 rA mg
 | loop c ih =>
  intro vc env H x env' H' φ a w Q ug hc hx hR hQ;simp only [zR,Option.map_eq_some_iff] at hc;obtain ⟨v,hv,rfl⟩:=hc;simp only [exec] at hx
  refine zmZ (I:=fun m a1 w1=>∃ φ1 vY H1,ig φ H w φ1 H1 w1/\R (CC P) S base lo nt φ1 H1 vY a1 w1/\iter (exec cl v) m vY H1=some (x,env',H')) zF ⟨φ,env,H,ig.refl,hR,hx⟩ ?_
  rintro m a1 w1 ⟨φ1,vY,H1,rA,mg,hi⟩
  cases m with
  | zero=>simp [iter] at hi
  | succ m =>
   refine ⟨m,rfl,?_⟩
   rw [zqw] at hi
   cases CK:exec cl v vY H1 with
   | none=>rw [CK] at hi;simp at hi
   | some r =>
    obtain ⟨x2,ji,H2⟩:=r;rw [CK] at hi
    refine ih v vY H1 x2 ji H2 φ1 a1 w1 _ ug hv CK mg fun φ2 a2 w2 rz jC=>?_
    cases x2 with
    | normal=>exact ⟨φ2,ji,H2,rA.trans rz,jC,hi⟩
    | exit i =>
     simp at hi;obtain ⟨rfl,rfl,rfl⟩:=hi;exact hQ φ2 a2 w2 (rA.trans rz) jC
    | ret =>
     simp at hi;obtain ⟨rfl,rfl,rfl⟩:=hi;exact hQ φ2 a2 w2 (rA.trans rz) jC
 | exit id =>
  intro vc env H x env' H' φ a w Q ug hc hx hR hQ;simp [zR] at hc;subst hc;simp [exec] at hx;obtain ⟨rfl,rfl,rfl⟩:=hx;exact wpIn_exit (hQ φ a w ig.refl hR)
 | ret =>
  intro vc env H x env' H' φ a w Q ug hc hx hR hQ;simp [zR] at hc;subst hc;simp [exec] at hx;obtain ⟨rfl,rfl,rfl⟩:=hx;exact wpIn_ret (hQ φ a w ig.refl hR)
 | scope c ih =>
  intro vc env H x env' H' φ a w Q ug hc hx hR hQ;simp only [zR] at hc;exact zot (ih vc env H x env' H' φ a w _ ug hc hx hR fun φ' a' w' he su=>⟨hQ φ' a' w' he su,zib x⟩)
 | goto l =>
  intro vc env H x env' H' φ a w Q ug hc;simp [zR] at hc
 | refuse u =>
  intro vc env H x env' H' φ a w Q ug hc;simp [zR] at hc
 | rangeFunc g ps assign body ih1 ih2 =>
  intro vc env H x env' H' φ a w Q ug hc hx hR hQ;clear ih1 ih2;simp only [zR] at hc
  split at hc
  .rename_i z v1 v2 hz h1 h2
   split at hc
   .rename_i aH;simp at hc;subst hc;simp only [Bool.and_eq_true,List.all_eq_true,decide_eq_true_eq] at aH;obtain ⟨⟨vD,Ad⟩,SV⟩:=aH;have Zy:ro=none:=by
     rcases ug with h|h
     .exact h
     .simp [aV.fI] at h
    subst Zy
    refine wpIn_rangeFunc fun fn _=>?_
    -- the record is laid
    let lp:Loop:={ state:=.ready,pending:=none,fn:=fn,tmps:=a.tmps,params:=ps,assign:=assign,body:=body,defers:=w.heap.size }
    let w1:World:=(w.alloc (.deferred (some []))).alloc (.loop lp)
    have y8:Below w.heap.size w w1:=((Below.refl _ w).alloc (Nat.le_refl _) _).alloc (by rw [Qy];omega) _;have Zz:w1.heap[w.heap.size+1]?=some (.loop lp):=by have:=zmd (w.alloc (.deferred (some []))) (.loop lp);rwa [Qy] at this
    have LK:w1.heap[w.heap.size]?=some (.deferred (some [])):=(Below.heap_alloc _ _ _ (by rw [Qy];omega)).trans (zmd w _);have ZA:w1.heap.size=w.heap.size+2:=by show ((w.alloc (.deferred (some []))).alloc (.loop lp)).heap.size=_;rw [Qy,Qy]
    have aR:=hR.heap.new (H':=H.alloc (.loop { env:=env,params:=ps.toList,assign:=v1,body:=v2,state:=.ready,pending:=.normal })) (id:=H.nx) (b:=w.heap.size+1) (n:=0) y8 (Yy hR.heap) NN (fun i hi _=>Lx hi)
     (Nat.lt_succ_self _) (Nat.le_succ _) (Nat.le_succ _) (by rw [ZA];omega)
     ⟨lp,Zz,rfl,rfl,rfl,⟨Z,by show zR P Z a.tmps.size assign=_;rw [hR.size];exact h1,Ad⟩,⟨Z,by show zR P Z a.tmps.size body=_;rw [hR.size];exact h2,SV⟩,
      fun t=>(hR.env t).mono (fun _ b hb=>⟨hb,y8.block b hb.2.1⟩) (fun _ _ h=>h),fun t ht=>by show t < a.tmps.size;rw [hR.size];exact vD t ht⟩
    obtain ⟨CL,Om⟩:=aR;generalize Yx:H.alloc (.loop { env:=env,params:=ps.toList,assign:=v1,body:=v2,state:=.ready,pending:=.normal })=H1 at CL Om;generalize hφe:D5 φ H.nx (w.heap.size+1,0)=φ1 at CL Om;have hφ1:φ1 H.nx=some (w.heap.size+1,0):=by rw [<- hφe,BS]
    have Oo:aG (aW S base φ1 H1 w1) φ1 w1 (.yield H.nx) (.func (.yield (w.heap.size+1)) #[] #[]):=.yield _ _ _ hφ1;have Oq:(Instr.enterLoop fn a.tmps ps assign body (Fw none).round).run P w=.ok (w.heap.size+1,[Ha w.heap.size]) w1:=by
     show (Instr.enterLoop fn a.tmps ps assign body none).run P w=_;exact zjv fn a.tmps ps assign body
    have Wt:=CL.xx (zG hR.env hz)
    -- after the call
    have after:∀ (v:AV) (H2:Heap) (r:DU),H2.get H.nx=.loop r->(match r.state with|.busy=>none|_=>some (r.pending,env,H2.set H.nx .dead):Out)=some (x,env',H') ->
      ∀ (φ2:jO) (w3:World),ig φ1 H1 w1 φ2 H2 w3->aS (CC P) S base φ2 H2 w3 ->
      ∃ jump w₄,(Instr.endLoop (w.heap.size+1)).run P w3=.ok jump w₄ /\
       (match jump with
        | none=>Q .normal { a with defers:=[Ha w.heap.size]++a.defers } w₄
        | some c=>c.wpIn (Fw none) n P Q { a with defers:=[Ha w.heap.size]++a.defers } w₄):=by
     intro v H2 r hr bA φ2 w3 sK Gg;have lW:=sK.phi _ _ hφ1;have ho:=Gg.obj _ _ _ lW;rw [hr] at ho;obtain ⟨l2,g1,g2,g3,g4,g5,g6,g7,g8⟩:=ho;have Ji:r.state≠.busy:=fun e=>by rw [e] at bA;simp at bA
     have SX:r.pending=x/\env=env'/\H2.set H.nx .dead=H':=by
      cases hs:r.state<;>rw [hs] at bA<;>simp at bA<;>first|exact bA|exact absurd hs Ji
     obtain ⟨rfl,rfl,rfl⟩:=SX;have CO:(l2.state == LoopState.busy)=false:=by
      rw [g2]
      cases hs:r.state<;>first|rfl|exact absurd hs Ji
     have CP:(Instr.endLoop (w.heap.size+1)).run P w3=.ok l2.pending (laid w3 (w.heap.size+1) (.loop { l2 with state:=.exhausted })):=by
      simp only [Instr.endLoop,Sem.run_bind,Zu g1,Result.andThen_ok,CO,Bool.false_eq_true,if_false,Sem.run_pure,Zw g1]
     obtain ⟨Hz,hH3⟩:=Gg.write (o:=.dead) (w':=laid w3 (w.heap.size+1) (.loop { l2 with state:=.exhausted })) lW (by rw [hr];rfl) rfl rfl rfl (by simp [laid]) (fun c hc=>EY hc) trivial;have Ot:=CL.trans (sK.trans Hz);have su:R (CC P) S base lo nt φ2 (H2.set H.nx .dead) env { a with defers:=[Ha w.heap.size]++a.defers } (laid w3 (w.heap.size+1) (.loop { l2 with state:=.exhausted })):=by
      refine ⟨hH3,fun t=>Ot.xx (hR.env t),hR.size,Nat.le_trans hR.vU Ot.size,?_⟩
      obtain ⟨marks,m1,m2,m3⟩:=hR.defs
      refine Qo Om (sK.trans Hz) ⟨w.heap.size::marks,by simp [m1],List.nodup_cons.2 ⟨fun hm=>?_,m2⟩,fun r hr=>?_⟩
      .have:=SS (m3 _ hm).2;omega
      .rcases List.mem_cons.1 hr with rfl|hr
       .exact ⟨hR.vU,LK⟩
       .have:=m3 r hr;exact ⟨this.1,(y8.block r (SS this.2)).trans this.2⟩
     refine ⟨_,_,CP,?_⟩
     have hq:=hQ φ2 _ _ Ot su;generalize laid w3 (w.heap.size+1) (.loop { l2 with state:=.exhausted })=w4 at hq ⊢;rw [g3]
     cases hp:r.pending with
     | normal=>rw [hp] at hq;exact hq
     | exit i=>rw [hp] at hq;exact wpIn_exit hq
     | ret=>rw [hp] at hq;exact wpIn_ret hq
    have fin:∀ (f:Nat) (caps:List AV) (lG:Array Value),a.eval g=.func (.func f) #[] lG->aC (aW S base φ1 H1 w1) φ1 w1 caps lG.toList ->
      (match cl.run f (.yield H.nx::caps) H1 with
       | some (_,H2)=>match H2.get H.nx with
        | .loop r=>match r.state with
         | .busy=>none
         | _=>some (r.pending,env,H2.set H.nx .dead)
        | _=>none
       | none=>none:Out)=some (x,env',H') ->
      ∃ (l:Nat) (mark:List Deferred) (w₁:World) (d:Deferred) (w₁':World) (f:FuncId) (args:Array Value) (w₂:World),
       (Instr.enterLoop fn a.tmps ps assign body (Fw none).round).run P w=.ok (l,mark) w₁ /\
       (resolve a.eval (rangeCall g l) 0).run P w₁=.ok d w₁' /\
       (∀ f',Target.leads P w₁' d.target d.args=some f'->(Fw none).fn f') /\
       (invoke d.target d.args).run P w₁'=.ok (.enter f args) w₂ /\
       ((Fw none).depth.isSome=true->1<=n) /\
       CallsIn (Fw none) (n - 1) P f args w₂ (rangePost (Fw none) n P l Q { a with defers:=mark++a.defers }):=by
     intro f caps lG hg yZ hm
     cases bP:cl.run f (.yield H.nx::caps) H1 with
     | none=>rw [bP] at hm;simp at hm
     | some res =>
      obtain ⟨v,H2⟩:=res;rw [bP] at hm;simp only at hm;obtain ⟨hf,Ou⟩:=fJ.run _ _ _ _ _ bP;have Eg:(Value.func (.yield (w.heap.size+1)) #[] #[]::lG.toList).toArray=#[Value.func (.yield (w.heap.size+1)) #[] #[]]++lG:=by
       apply Array.ext';simp
      refine ⟨w.heap.size+1,[Ha w.heap.size],w1,{ target:=.fn (.func f) lG,args:=#[.func (.yield (w.heap.size+1)) #[] #[]] },w1,f,#[Value.func (.yield (w.heap.size+1)) #[] #[]]++lG,w1,Oq,?_,fun _ _=>trivial,?_,fun h=>by simp [Fw,Fence.wide] at h,?_⟩
      .simp only [resolve,rangeCall,hg,Deferred.ofValue,Sem.run_pure];simp [Act.eval]
      .simp only [invoke];rw [zgx hf]
      .rw [<- Eg]
       refine CallsIn.mono (Ou (n - 1) S base φ1 w1 _ Om (.cons Oo yZ)) ?_
       rintro e w3 ⟨u,φ2,rfl,sK,Gg,_⟩
       cases hr:H2.get H.nx with
       | loop r =>
        rw [hr] at hm;exact after v H2 r hr hm φ2 w3 sK Gg
       | dead=>rw [hr] at hm;simp at hm
       | cells o cs=>rw [hr] at hm;simp at hm
       | raw z=>rw [hr] at hm;simp at hm
       | jh es=>rw [hr] at hm;simp at hm
    simp only [exec] at hx;rw [Yx] at hx
    split at hx
    .rename_i f caps hf;rw [hf] at Wt;obtain ⟨vs,e1,e2,e3⟩:=Wt.aA.lD;exact fin f _ vs e1 (aC.pK (by simpa using e2) fun i p v hp hv=>e3 i p v hp (by simpa using hv)) hx
    .rename_i f caps hf;rw [hf] at Wt;obtain ⟨vs,e1,e2,e3⟩:=Wt.lD;exact fin f _ vs e1 (aC.rO e2 e3) hx
    .simp at hx
   .simp at hc
  .simp at hc
end
def Wu (w:World) (b:Nat):Prop:=∃ c t fz,w.heap[b]?=some (.cells c t fz)
theorem ze4 {w:World} {b k:Nat} {v:Value} (h:w.cell? ⟨b,k,none⟩=some v):Wu w b:=by
 simp only [World.cell?] at h
 split at h
 .rename_i c t fz hb;exact ⟨c,t,fz,hb⟩
 .simp at h
theorem bK.touch {I I':Bool->Nat->Prop} {w w':World} (hI:∀ k b,I k b->Wu w b->I' k b/\w'.heap[b]?=w.heap[b]?) {p:PV} {v:Value} (h:bK I w p v):bK I' w' p v:=by
 induction h with
 | int k n=>exact .int k n
 | bool b=>exact .bool b
 | str s=>exact .str s
 | agg cs vs hl _ ih=>exact .agg cs vs hl ih
 | aQ cs vs hl _ ih=>exact .aQ cs vs hl ih
 | nils=>exact .nils
 | slice k sz es b o len cap val hlen hc hz hm _ ih =>
  refine .slice k sz es b o len cap val hlen hc hz (fun i e j p he hp=>?_) ih
  obtain ⟨h1,h2⟩:=hm i e j p he hp;have h3:=hI _ _ h1 (ze4 h2);exact ⟨h3.1,(World.cell?_of_block (a:=⟨b,o+i*sz+j,none⟩) h3.2).trans h2⟩
 | mD=>exact .mD
 | ptr k cs off b o o' val ho hm _ ih =>
  refine .ptr k cs off b o o' val ho (fun j p hp=>?_) ih
  obtain ⟨h1,h2⟩:=hm j p hp;have h3:=hI _ _ h1 (ze4 h2);exact ⟨h3.1,(World.cell?_of_block (a:=⟨b,o+j,none⟩) h3.2).trans h2⟩
 | func f cs vs hl _ ih=>exact .func f cs vs hl ih
 | mE=>exact .mE
 | lQ f cs vs hl _ ih=>exact .lQ f cs vs hl ih
theorem aG.touch {I I':Bool->Nat->Prop} {φ:jO} {w w':World} (hI:∀ k b,I k b->Wu w b->I' k b/\w'.heap[b]?=w.heap[b]?) {a:AV} {v:Value} (h:aG I φ w a v):aG I' φ w' a v:=by
 induction h with
 | undef v=>exact .undef v
 | pure p v h=>exact .pure p v (h.touch hI)
 | box id off b n h=>exact .box id off b n h
 | row id sz off len b n o cap h ho hc hn=>exact .row id sz off len b n o cap h ho hc hn
 | agg cs vs hl _ ih=>exact .agg cs vs hl ih
 | aQ cs vs hl _ ih=>exact .aQ cs vs hl ih
 | func f cs vs hl _ ih=>exact .func f cs vs hl ih
 | yield id b n h=>exact .yield id b n h
 | void id sz b h=>exact .void id sz b h
 | lq id b n h=>exact .lq id b n h
 | lS id sz off len b n o h ho=>exact .lS id sz off len b n o h ho
section
variable {P:Program} {Z:List Nat} {C:jH} {S:Bool->Nat->Prop} {base lo nt:Nat} {n:Nat} {φ φ':jO} {H H':Heap} {w w':World} {env:Env} {a:Act}
theorem aS.touch (h:aS C S base φ H w) {r:Nat} {x:Option (List Deferred)} (hr:w.heap[r]?=some (.deferred x)) (o:Obj):aS C S base φ H (laid w r o):=by
 have bZ:(laid w r o).heap.size=w.heap.size:=by simp [laid]
 have bJ:∀ id b n,φ id=some (b,n)->(H.get id).fM=false->b≠r:=fun id b n au hd e=>by
  subst e;have ho:=h.obj _ _ _ au
  cases hg:H.get id with
  | dead=>rw [hg] at hd;simp [aU.fM] at hd
  | cells own cs=>rw [hg] at ho;obtain ⟨c,t,fz,h1,_⟩:=ho;rw [hr] at h1;simp at h1
  | raw z=>rw [hg] at ho;obtain ⟨c,t,fz,h1,_⟩:=ho;rw [hr] at h1;simp at h1
  | jh es=>rw [hg] at ho;obtain ⟨ms,ck,h1,_⟩:=ho;rw [hr] at h1;simp at h1
  | loop l=>rw [hg] at ho;obtain ⟨l',h1,_⟩:=ho;rw [hr] at h1;simp at h1
 have CE:∀ k b,aW S base φ H w k b->Wu w b->aW S base φ H (laid w r o) k b/\(laid w r o).heap[b]?=w.heap[b]?:=fun k b hb hc=>by
  refine ⟨⟨hb.1,by rw [bZ];exact hb.2.1,hb.2.2⟩,EY fun e=>?_⟩
  subst e;obtain ⟨c,t,fz,h1⟩:=hc;rw [hr] at h1;simp at h1
 refine ⟨by rw [bZ];exact h.sz,h.out,h.nx,fun id b n au=>by rw [bZ];exact h.lt _ _ _ au,fun id b n au=>?_,h.inj⟩
 have ho:=h.obj _ _ _ au
 cases hg:H.get id with
 | dead=>trivial
 | cells own cs =>
  rw [hg] at ho;obtain ⟨c,e,fz,h1,h2,h3,h4,h5⟩:=ho;exact ⟨c,e,fz,(EY (bJ _ _ _ au (by rw [hg];rfl))).trans h1,h2,h3,h4,fun j a v ha hv=>(h5 j a v ha hv).touch CE⟩
 | raw z =>
  rw [hg] at ho;obtain ⟨c,e,fz,h1,h2,h3,h4,h5⟩:=ho;exact ⟨c,e,fz,(EY (bJ _ _ _ au (by rw [hg];rfl))).trans h1,h2,h3,h4,fun j a v ha hv=>(h5 j a v ha hv).touch CE⟩
 | jh es =>
  rw [hg] at ho;obtain ⟨ms,ck,h1,h2,h3⟩:=ho;exact ⟨ms,ck,(EY (bJ _ _ _ au (by rw [hg];rfl))).trans h1,h2,fun j k v m hk hm=>⟨(h3 j k v m hk hm).1.touch CE,(h3 j k v m hk hm).2.touch CE⟩⟩
 | loop l =>
  rw [hg] at ho;obtain ⟨l',h1,h2,h3,h4,h5,h6,h7,h8⟩:=ho;exact ⟨l',(EY (bJ _ _ _ au (by rw [hg];rfl))).trans h1,h2,h3,h4,h5,h6,fun t=>(h7 t).touch CE,h8⟩
theorem znD {r:Nat} {x:Option (List Deferred)} (hr:w.heap[r]?=some (.deferred x)) (o:Obj) {av:AV} {v:Value} (h:aG (aW S base φ H w) φ w av v):aG (aW S base φ H (laid w r o)) φ (laid w r o) av v :=
 h.touch fun k b hb hc=>by
  refine ⟨⟨hb.1,by simpa [laid] using hb.2.1,hb.2.2⟩,EY fun e=>?_⟩
  subst e;obtain ⟨c,t,fz,h1⟩:=hc;rw [hr] at h1;simp at h1
theorem zlH (hH:aS C S base φ H w) (hE:bq (aW S base φ H w) φ w env a) {r:ResultVar} {vr:mK} {av:AV} (hc:VP P r=some vr) (hl:JL env H vr=some av) :
  ∃ u,((match r with|.tmp t=>pure (a.tmps.getD t undef)|.cell b t=>do loadVar t (<- asAddr (a.tmps.getD b undef)):Sem Value)).run P w=.ok u w/\aG (aW S base φ H w) φ w av u:=by
 cases r with
 | tmp t =>
  simp [VP] at hc;subst hc;simp [JL] at hl;subst hl;exact ⟨_,rfl,hE t⟩
 | cell t ty =>
  simp only [VP] at hc
  split at hc
  .rename_i g s hg hs
   split at hc
   .simp at hc
   .rename_i h1;simp at hc;subst hc;simp only [JL] at hl
    split at hl
    .rename_i cs vz;obtain ⟨ad,vs,e1,e2,e3,e4⟩:=zfU hH (hE t) vz;have hlen:vs.length=s:=by have:=e2.1;omega
     refine ⟨_,?_,Ya e2 hl⟩
     show (do loadVar ty (<- asAddr (a.tmps.getD t undef)):Sem Value).run P w=_;rw [e1];exact zgn hg hs (V9 h1) hlen e4
    .simp at hl
  .simp at hc
theorem zhi (hH:aS C S base φ H w) (hE:bq (aW S base φ H w) φ w env a):∀ {rs:List ResultVar} {MM:List mK} {Qz:List AV},Qh P rs=some MM->DW env H MM=some Qz ->
  ∃ us,(rs.mapM fun r=>(match r with|.tmp t=>pure (a.tmps.getD t undef)|.cell b t=>do loadVar t (<- asAddr (a.tmps.getD b undef)):Sem Value)).run P w=.ok us w/\aC (aW S base φ H w) φ w Qz us
 | [],MM,Qz,hc,hl=>by
  simp [Qh] at hc;subst hc;simp [DW] at hl;subst hl;exact ⟨[],rfl,.nil⟩
 | r::rs,MM,Qz,hc,hl=>by
  simp only [Qh] at hc
  split at hc
  .simp at hc
  .rename_i v hv
   split at hc
   .simp at hc
   .rename_i vs pO;simp at hc;subst hc;simp only [DW] at hl
    split at hl
    .simp at hl
    .rename_i x hx
     split at hl
     .simp at hl
     .rename_i xs EW;simp at hl;subst hl;obtain ⟨u,h1,h2⟩:=zlH hH hE hv hx;obtain ⟨us,h3,h4⟩:=zhi hH hE pO EW
      refine ⟨u::us,?_,.cons h2 h4⟩
      rw [List.mapM_cons];simp only [Sem.run_bind,h1,Result.andThen_ok,h3,Sem.run_pure]
theorem zlO (hH:aS C S base φ H w) (hE:bq (aW S base φ H w) φ w env a) {fn:Func} {MM:List mK} {av:AV} (hc:Qh P fn.results.toList=some MM) (hl:Vm.results env H MM=some av) :
  ∃ u,(Go.results fn a.tmps).run P w=.ok u w/\aG (aW S base φ H w) φ w av u:=by
 unfold Vm.results at hl
 cases ZB:DW env H MM with
 | none=>rw [ZB] at hl;simp at hl
 | some Qz =>
  rw [ZB] at hl;obtain ⟨us,h1,h2⟩:=zhi hH hE hc ZB;have h3:(fn.results.mapM fun r=>(match r with|.tmp t=>pure (a.tmps.getD t undef)|.cell b t=>do loadVar t (<- asAddr (a.tmps.getD b undef)):Sem Value)).run P w=.ok us.toArray w:=by
   rw [Array.mapM_eq_mapM_toList];simp only [Sem.run_map,h1,Result.andThen_ok]
  refine ⟨if h:us.toArray.size=1 then us.toArray[0] else .tuple us.toArray,?_,?_⟩
  .unfold Go.results;rw [Sem.run_bind]
   erw [h3]
   rfl
  .match Qz,us,h2,hl with
   | [v],us,h2,hl =>
    obtain ⟨u,us',rfl,h4,h5⟩:=h2.cons_inv;have:=h5.nk;subst this;simp at hl;subst hl
    simpa using h4
   | [],us,h2,hl =>
    have:=h2.nk;subst this;simp at hl;subst hl;exact Sv
   | v1::v2::vs,us,h2,hl =>
    obtain ⟨u,us',rfl,h4,h5⟩:=h2.cons_inv;obtain ⟨u2,us2,rfl,h6,h7⟩:=h5.cons_inv;simp at hl;subst hl;rw [dif_neg (by simp)];exact .aQ _ _ (by simpa using h2.1) fun i p v hp hv=>h2.2 i p v hp (by simpa using hv)
structure ZC (P:Program) (G:Prog):Prop where
 mix:P.follows .mixedOrders=true
 func:∀ f vf,G.func f=some vf->∃ fn Z,P.funcs[f]?=some fn/\zi P Z fn=some vf
 ext:∀ f g ps r,G.ext f=some g->g ps=some r->V7 P f ps r
 lC:∀ f xs H r H',G.lC f xs H=some (r,H')->R9 (CC P) P f xs H r H'
theorem zk2 {fn:Func} {tmps:Array Value} {Rr:Ending->World->Prop} {φ0:jO} {H0:Heap} {w0:World} (hK:∀ w',ig φ0 H0 w0 φ H w'->aS C S base φ H w'->(bq (aW S base φ H w') φ w' env a)->∃ v,(Go.results fn tmps).run P w'=.ok v w'/\Rr (.returned v) w') :
  ∀ (marks:List Nat) (w:World),marks.Nodup->(∀ r∈marks,w0.heap.size<=r/\w.heap[r]?=some (.deferred (some [])))->ig φ0 H0 w0 φ H w->aS C S base φ H w->bq (aW S base φ H w) φ w env a ->
   LeavesInM Fence.wide n P fn tmps Rr (marks.map Ha) .returning w:=by
 intro marks
 induction marks with
 | nil =>
  intro w _ _ mJ hH hE;exact hK w mJ hH hE
 | cons r marks ih =>
  intro w Bz hm mJ hH hE;have hr:=hm r (List.mem_cons_self ..);have aO:=SS hr.2
  refine ⟨by simp,.inl ⟨r,laid w r (.deferred none),rfl,?_,?_⟩⟩
  .simp only [Instr.takeDeferred,Sem.run_bind];have h1:(getObj r).run P w=.ok (.deferred (some [])) w:=by simp [getObj,Sem.run,hr.2]
   have h2:(setObj r (.deferred none)).run P w=.ok () (laid w r (.deferred none)):=by simp [setObj,Sem.run,hr.2,laid]
   simp only [h1,Result.andThen_ok,Sem.run_bind,h2,Sem.run_pure]
  .refine ih (laid w r (.deferred none)) (List.nodup_cons.1 Bz).2 (fun s hs=>?_) ?_ (hH.touch hr.2 _) fun t=>znD hr.2 _ (hE t)
   .have:=hm s (List.mem_cons_of_mem _ hs);exact ⟨this.1,(EY (fun e=>(List.nodup_cons.1 Bz).1 (by rw [<- e];exact hs))).trans this.2⟩
   .exact ⟨mJ.phi,mJ.os,mJ.tape,mJ.output,by simp [laid];exact mJ.size,fun b hb JN=>(EY (by omega)).trans (mJ.same b hb JN),mJ.GH,mJ.nx⟩
theorem zmM {I:Bool->Nat->Prop} {xs:List AV} {vals:List Value} {k:Nat} (h:aC I φ w xs vals):bq I φ w (zb xs) { tmps:=vals.toArray++Array.replicate k undef,defers:=[] }:=fun t=>by
 show aG I φ w ((xs[t]?).getD (.aQ [])) ((vals.toArray++Array.replicate k undef).getD t undef);rcases Nat.lt_or_ge t xs.length with ht|ht
 .have ht':t < vals.length:=by rw [<- h.1];exact ht
  have:=h.2 t xs[t] vals[t] (List.getElem?_eq_getElem ht) (List.getElem?_eq_getElem ht');rw [List.getElem?_eq_getElem ht];have e:(vals.toArray++Array.replicate k undef).getD t undef=vals[t]:=by
   simp only [Array.getD_eq_getD_getElem?,Array.getElem?_append];simp [ht']
  rw [e];exact this
 .rw [List.getElem?_eq_none ht];have e:(vals.toArray++Array.replicate k undef).getD t undef=undef:=by
   have:=h.1;simp only [Array.getD_eq_getD_getElem?,Array.getElem?_append];rw [if_neg (by simp;omega)];simp only [Array.getElem?_replicate]
   split<;>rfl
  rw [e];exact Sv
theorem zoV {I:Bool->Nat->Prop}:∀ {ts:List Tmp} {xs:List AV} {vals:List Value} {env:Env} {tmps:Array Value},(∀ t,aG I φ w (env t) (tmps.getD t undef))->aC I φ w xs vals->(∀ t∈ts,t < tmps.size) ->
  (∀ t,aG I φ w (((ts.zip xs).foldl (fun e x=>upd e x.1 x.2) env) t) (((ts.zip vals).foldl (fun tm (x:Tmp×Value)=>tm.setIfInBounds x.1 x.2) tmps).getD t undef)) /\
   ((ts.zip vals).foldl (fun tm (x:Tmp×Value)=>tm.setIfInBounds x.1 x.2) tmps).size=tmps.size
 | [],xs,vals,env,tmps,hE,hx,hl=>⟨hE,rfl⟩
 | t::ts,[],vals,env,tmps,hE,hx,hl=>by rw [hx.nk];exact ⟨hE,rfl⟩
 | t::ts,x::xs,vals,env,tmps,hE,hx,hl=>by
  obtain ⟨v,vs,rfl,h1,h2⟩:=hx.cons_inv;have ht:=hl t (List.mem_cons_self ..);have:=zoV (ts:=ts) (env:=upd env t x) (tmps:=tmps.setIfInBounds t v) (fun u=>by
   simp only [upd]
   by_cases hu:u=t
   .subst hu;simp [ht];exact h1
   .rw [if_neg hu];have e:(tmps.setIfInBounds t v).getD u undef=tmps.getD u undef:=by simp [Ne.symm hu]
    rw [e];exact hE u) h2 (fun u hu=>by simp;exact hl u (List.mem_cons_of_mem _ hu))
  simp only [List.zip_cons_cons,List.foldl_cons];exact ⟨this.1,this.2.trans (by simp)⟩
theorem zhD (ps:Array Tmp) (vals:List Value) (tmps:Array Value) :
  ((ps.zip vals.toArray).foldl (fun tmps (x:Tmp×Value)=>tmps.setIfInBounds x.1 x.2) tmps)=((ps.toList.zip vals).foldl (fun tm (x:Tmp×Value)=>tm.setIfInBounds x.1 x.2) tmps):=by
 rw [<- Array.foldl_toList];simp
theorem znE (S:Bool->Nat->Prop) (w:World) (hS:∀ k b,S k b->b < w.heap.size):aS C S w.heap.size (fun _=>none) Heap.empty w :=
 ⟨Nat.le_refl _,hS,fun id x h=>by simp at h,fun id b n h=>by simp at h,fun id b n h=>by simp at h,fun id id' b n n' h=>by simp at h⟩
theorem zht {f:FuncId} {ps:List PV} {v:AV} {H':Heap} {r:PV} {ids:List Nat} (h:R9 C P f (ps.map .pure) Heap.empty v H') (hf:Vm.freeze H' false qw v=some (r,ids)):V7 P f ps r:=by
 refine ⟨h.1,fun n S' w vals hS vD=>?_⟩
 have hI:∀ k b,S' k b->aW S' w.heap.size (fun _=>none) Heap.empty w k b:=fun k b hb=>⟨.inl hb,hS k b hb,fun ⟨id,m,au,_⟩=>by simp at au⟩
 refine CallsIn.mono (h.2 n S' w.heap.size (fun _=>none) w vals (znE S' w hS) (aC.pK vD.1 fun i p v hp hv=>(vD.2 i p v hp hv).mono fun k b hb=>⟨hI k b hb,rfl⟩)) ?_
 rintro e w' ⟨u,φ',rfl,mJ,hH,hv⟩
 refine ⟨u,rfl,⟨mJ.os,mJ.tape,mJ.output,mJ.size,fun b hb=>mJ.same b hb fun ⟨id,m,au,_⟩=>by simp at au⟩,?_⟩
 refine ziD hH (J:=fun k b=>(S' k b\/w.heap.size<=b)/\b < w'.heap.size) (fun k b hb=>⟨hb.1,hb.2.1⟩) qw v r ids u hf hv fun id _ b m au=>?_
 have:=hH.lt _ _ _ au;exact ⟨.inr this.1,this.2⟩
theorem zpk (G:Prog) (n:Nat) (tg:Target) (args:List AV) (H:Heap):Vm.call G (n+1) tg args H =
  (let cl:Callee:={
   pure:=fun f ps=>match G.ext f with
    | some g=>g ps
    | none=>match Vm.call G n (.fn f) (ps.map .pure) Heap.empty with
     | some (v,H')=>(Vm.freeze H' false qw v).map (·.1)
     | none=>none
   shared:=G.shared
   run:=fun f xs H=>Vm.call G n (.fn f) xs H
   yield:=fun id xs H=>Vm.call G n (.yield id) xs H }
  match tg with
  | .fn f=>match G.lC f args H with
   | some r=>some r
   | none=>match G.func f with
    | none=>none
    | some fn =>
     if args.length=fn.wQ then
      match exec cl fn.body (zb args) H with
      | some (.normal,env,H')|some (.ret,env,H')=>match Vm.results env H' fn.results with
       | some v=>some (v,H')
       | none=>none
      | _=>none
     else none
  | .yield id=>match H.get id with
   | .loop r =>
    if args.length=r.params.length then
     match exec cl r.assign ((r.params.zip args).foldl (fun e x=>upd e x.1 x.2) r.env) H with
     | some (.normal,ji,H2)=>match H2.get id with
      | .loop r2=>match r2.state with
       | .ready=>match exec cl r.body ji (H2.set id (.loop { r2 with state:=.busy })) with
        | some (x,_,H3)=>match H3.get id with
         | .loop r3=>match x with
          | .normal=>some (.pure (.bool true),H3.set id (.loop { r3 with state:=.ready,pending:=.normal }))
          | x=>some (.pure (.bool false),H3.set id (.loop { r3 with state:=.done,pending:=x }))
         | _=>none
        | none=>none
       | _=>none
      | _=>none
     | _=>none
    else none
   | _=>none):=rfl
def zqI (P:Program) (tg:Target) (args:List AV) (H:Heap) (r:AV) (H':Heap):Prop :=
 match tg with
 | .fn f=>R9 (CC P) P f args H r H'
 | .yield id=>zo5 (CC P) P id args H r H'
theorem zow {G:Prog} (hG:ZC P G):∀ (n:Nat) (tg:Target) (args:List AV) (H:Heap) (r:AV) (H':Heap),Vm.call G n tg args H=some (r,H')->zqI P tg args H r H':=by
 intro n
 induction n with
 | zero=>intro tg args H r H' h;simp [Vm.call] at h
 | succ n ih =>
  intro tg args H r H' h;rw [zpk] at h
  extract_lets cl at h
  have fJ:bI (CC P) P cl:=by
   refine ⟨fun f ps r h=>?_,fun f xs H r H' h=>ih (.fn f) xs H r H' h,fun id xs H r H' h=>ih (.yield id) xs H r H' h⟩
   simp only [cl] at h
   split at h
   .rename_i g hg;exact hG.ext _ _ _ _ hg h
   .split at h
    .rename_i v H1 hc;rw [Option.map_eq_some_iff] at h;obtain ⟨⟨p,ids⟩,hf,rfl⟩:=h;exact zht (ih (.fn f) _ _ _ _ hc) hf
    .simp at h
  clear_value cl
  cases tg with
  | fn f =>
   simp only at h
   split at h
   .rename_i r0 vB;simp only [Option.some.injEq] at h;subst h;exact hG.lC _ _ _ _ _ vB
   split at h
   .simp at h
   .rename_i vf hvf;obtain ⟨fn,Z,Wv,jf⟩:=hG.func _ _ hvf;unfold zi at jf
    split at jf
    .rename_i c rs hb Ec
     split at jf
     .simp at jf
     .rename_i yY;simp only [Bool.or_eq_true,not_or,Bool.not_eq_true,Bool.not_eq_eq_eq_not,Bool.not_true,Bool.not_false] at yY;rw [Option.map_eq_some_iff] at jf;obtain ⟨vc,hvc,rfl⟩:=jf
      split at h
      .rename_i hlen;simp only at hlen
       refine ⟨⟨fn,Wv,by rw [hb];rfl,yY.1⟩,fun k S base φ w vals hH hv=>?_⟩
       have hle:fn.params.size+fn.nfree<=fn.ntmps:=by simpa using yY.2
       have LX:vals.length=fn.params.size+fn.nfree:=hv.1.symm.trans hlen
       refine callsIn_of_wp_marks Wv hb trivial ?_
       have hR:R (CC P) S base w.heap.size fn.ntmps φ H (zb args) { tmps:=vals.toArray++Array.replicate (fn.ntmps - vals.toArray.size) undef,defers:=[] } w :=
        ⟨hH,zmM hv,by simp;omega,Nat.le_refl _,[],rfl,List.nodup_nil,by simp⟩
       have MN:∀ (x:fZ) (env':Env),exec cl vc (zb args) H=some (x,env',H')->(x=.normal\/x=.ret)->Vm.results env' H' rs=some r ->
         c.wpIn (Fw none) k P (bodyPostM Fence.wide k P fn fun e w'=>∃ v φ',e=.returned v/\ig φ H w φ' H' w'/\aS (CC P) S base φ' H' w'/\aG (aW S base φ' H' w') φ' w' r v)
          { tmps:=vals.toArray++Array.replicate (fn.ntmps - vals.toArray.size) undef,defers:=[] } w:=fun x env' hx vF bA=>by
        refine Zx fJ hG.mix c vc _ H x env' H' φ _ w _ (.inl rfl) hvc hx hR fun φ' a' w' mJ su=>?_
        obtain ⟨marks,m1,m2,m3⟩:=su.defs;have HV:=zk2 (n:=k) (P:=P) (C:=CC P) (S:=S) (base:=base) (fn:=fn) (tmps:=a'.tmps) (a:=a') (env:=env') (φ:=φ') (H:=H') (φ0:=φ) (H0:=H) (w0:=w)
         (Rr:=fun e w'=>∃ v φ',e=.returned v/\ig φ H w φ' H' w'/\aS (CC P) S base φ' H' w'/\aG (aW S base φ' H' w') φ' w' r v) (fun w2 sK Gg hE2=>by
          obtain ⟨u,h1,h2⟩:=zlO Gg hE2 (fn:=fn) Ec bA;exact ⟨u,h1,u,φ',rfl,sK,Gg,h2⟩) marks w' m2 m3 mJ su.heap su.env
        rw [<- m1] at HV;rcases vF with rfl|rfl<;>exact HV
       split at h
       .rename_i env' H1 hx
        split at h
        .rename_i v bA;simp at h;obtain ⟨rfl,rfl⟩:=h;exact MN _ _ hx (.inl rfl) bA
        .simp at h
       .rename_i env' H1 hx
        split at h
        .rename_i v bA;simp at h;obtain ⟨rfl,rfl⟩:=h;exact MN _ _ hx (.inr rfl) bA
        .simp at h
       .simp at h
      .simp at h
    .simp at jf
  | yield id =>
   simp only at h
   split at h
   .rename_i lr QA
    split at h
    .rename_i hlen
     split at h
     .rename_i ji H2 CK
      split at h
      .rename_i r2 Eo
       split at h
       .rename_i sM
        split at h
        .rename_i x SY H3 vF
         split at h
         .rename_i r3 Wx;intro k S base φ w b m vals au hH hv;have ho:=hH.obj _ _ _ au;rw [QA] at ho;obtain ⟨l,g1,g2,g3,g4,⟨Z5,g5,g5'⟩,⟨Z6,g6,g6'⟩,g7,g8⟩:=ho
          refine ⟨l,g1,?_,?_⟩
          .rw [<- hv.1,hlen,<- g4];simp
          .refine roundIn_of_wpIn trivial ?_
           rw [zhD];have hz:=zoV (ts:=l.params.toList) g7 hv (by rw [g4];exact g8);rw [<- g4] at CK;have hR:R (CC P) S base w.heap.size l.tmps.size φ H ((l.params.toList.zip args).foldl (fun e x=>upd e x.1 x.2) lr.env)
             { tmps:=((l.params.toList.zip vals).foldl (fun tm (x:Tmp×Value)=>tm.setIfInBounds x.1 x.2) l.tmps),defers:=[] } w :=
            ⟨hH,hz.1,hz.2,Nat.le_refl _,[],rfl,List.nodup_nil,by simp⟩
           refine Zx (ro:=some b) fJ hG.mix l.assign lr.assign _ H .normal ji H2 φ _ w _ (.inr g5') g5 CK hR fun φ1 a1 w1 CL mg=>?_
           have uP:=CL.phi _ _ au;have S9:=mg.heap.obj _ _ _ uP;rw [Eo] at S9;obtain ⟨l1,k1,k2,k3,k4,k5,k6,k7,k8⟩:=S9;have y8:(Instr.beginRound b).run P w1=.ok () (laid w1 b (.loop { l1 with state:=.busy })):=by
            have:l1.state=.ready:=by rw [k2,sM];rfl
            simp only [Instr.beginRound,Sem.run_bind,Zu k1,Result.andThen_ok,Zw k1,this,Sem.run_pure]
           refine ⟨_,y8,?_⟩
           obtain ⟨sK,Gg⟩:=mg.heap.write (o:=.loop { r2 with state:=.busy }) (w':=laid w1 b (.loop { l1 with state:=.busy })) uP (by rw [Eo];rfl) rfl rfl rfl (by simp [laid]) (fun c hc=>EY hc)
            ⟨{ l1 with state:=.busy },zjT (SS k1),rfl,k3,k4,k5,k6,fun t=>(k7 t).touch fun _ c hc tV=>⟨hc,EY fun e=>by subst e;obtain ⟨c',t',fz,h1⟩:=tV;rw [k1] at h1;simp at h1⟩,k8⟩
           have jC:R (CC P) S base w.heap.size l.tmps.size φ1 (H2.set id (.loop { r2 with state:=.busy })) ji a1 (laid w1 b (.loop { l1 with state:=.busy })) :=
            ⟨Gg,fun t=>sK.xx (mg.env t),mg.size,Nat.le_trans mg.vU sK.size,Qo mg.heap sK mg.defs⟩
           refine Zx (ro:=some b) fJ hG.mix l.body lr.body _ _ x SY H3 φ1 _ _ _ (.inr g6') g6 vF jC fun φ3 a3 w3 Hz yc=>?_
           have sN:=Hz.phi _ _ uP;have Ov:=yc.heap.obj _ _ _ sN;rw [Wx] at Ov;obtain ⟨l3,q1,q2,q3,q4,q5,q6,q7,q8⟩:=Ov;have fin:∀ (st:BQ) (lst:LoopState) (pe:fZ) (j:Option Code) (bv:Bool),lst=zoO st->j=zqM pe->(Instr.endRound b j).run P w3=.ok (.bool bv) (laid w3 b (.loop { l3 with state:=lst,pending:=j })) ->
             (r,H')=(.pure (.bool bv),H3.set id (.loop { r3 with state:=st,pending:=pe })) ->
             ∃ v w',(Instr.endRound b j).run P w3=.ok v w'/\∃ u φ',Ending.returned v=.returned u/\ig φ H w φ' H' w'/\aS (CC P) S base φ' H' w'/\aG (aW S base φ' H' w') φ' w' r u:=by
            intro st lst pe j bv e1 e2 bP e3;simp at e3;obtain ⟨rfl,rfl⟩:=e3;obtain ⟨ZE,hH4⟩:=yc.heap.write (o:=.loop { r3 with state:=st,pending:=pe }) (w':=laid w3 b (.loop { l3 with state:=lst,pending:=j })) sN (by rw [Wx];rfl) rfl rfl rfl (by simp [laid]) (fun c hc=>EY hc)
             ⟨{ l3 with state:=lst,pending:=j },zjT (SS q1),e1,e2,q4,q5,q6,fun t=>(q7 t).touch fun _ c hc tV=>⟨hc,EY fun e=>by subst e;obtain ⟨c',t',fz,h1⟩:=tV;rw [q1] at h1;simp at h1⟩,q8⟩
            exact ⟨_,_,bP,_,φ3,rfl,CL.trans (sK.trans (Hz.trans ZE)),hH4,.pure _ _ (.bool _)⟩
           have CP:∀ j:Option Code,(Instr.endRound b j).run P w3=.ok (.bool j.isNone) (laid w3 b (.loop { l3 with state:=if j.isNone then .ready else .done,pending:=j })):=fun j=>by
            simp only [Instr.endRound,Sem.run_bind,Zu q1,Result.andThen_ok,Zw q1,Sem.run_pure]
           cases x with
           | normal =>
            simp at h;exact fin .ready .ready .normal none true rfl rfl (CP none) (by simp [h])
           | exit i =>
            simp at h;exact fin .done .done (.exit i) (some (.exit i)) false rfl rfl (CP _) (by simp [h])
           | ret =>
            simp at h;exact fin .done .done .ret (some .ret) false rfl rfl (CP _) (by simp [h])
         .simp at h
        .simp at h
       .simp at h
      .simp at h
     .simp at h
    .simp at h
   .simp at h
theorem zmb {G:Prog} (hG:ZC P G) {n f:Nat} {ps:List PV} {r:PV} (h:zK G n f ps=some r):V7 P f ps r:=by
 unfold zK at h
 split at h
 .rename_i g hg;exact hG.ext _ _ _ _ hg h
 .split at h
  .rename_i v H1 hc;rw [Option.map_eq_some_iff] at h;obtain ⟨⟨p,ids⟩,hf,rfl⟩:=h;exact zht (zow hG n (.fn f) _ _ _ _ hc) hf
  .simp at h
end
def zu (G:Prog) (n:Nat):Callee where
 pure:=zK G n
 shared:=G.shared
 run:=fun f xs H=>call G n (.fn f) xs H
 yield:=fun id xs H=>call G n (.yield id) xs H
theorem ZF (G:Prog) (n f:Nat) (args:List AV) (H:Heap):Vm.call G (n+1) (.fn f) args H=match G.lC f args H with
   | some r=>some r
   | none=>match G.func f with
    | none=>none
    | some fn =>
     if args.length=fn.wQ then
      match exec (zu G n) fn.body (zb args) H with
      | some (.normal,env,H')|some (.ret,env,H')=>match Vm.results env H' fn.results with
       | some v=>some (v,H')
       | none=>none
      | _=>none
     else none:=rfl
inductive Tag {α:Type} (a:α):Type
 | mk
section
variable {cl:Callee} {env:Env} {H:Heap}
def wpE (pre:Nat) (r:Option Eff) (H:Heap) (k:AV->Heap->Prop) (_:Tag (H,k)):Prop:=∃ e,r=some e/\¬ (pre≠0/\sG e=true)/\k (apply H e).1 (apply H e).2
theorem Ta {pre:Nat} {v:AV} {k:AV->Heap->Prop} {u}:wpE pre (some (.val v)) H k u↔k v H:=by
 constructor
 .rintro ⟨e,he,_,h⟩;simp at he;subst he;exact h
 .intro h;exact ⟨_,rfl,by simp [sG],h⟩
theorem QB {pre:Nat} {o:aU} {f:Nat->AV} {k:AV->Heap->Prop} {u}:wpE pre (some (.new o f)) H k u↔k (f H.nx) (H.alloc o):=by
 constructor
 .rintro ⟨e,he,_,h⟩;simp at he;subst he;exact h
 .intro h;exact ⟨_,rfl,by simp [sG],h⟩
theorem J6 {v:AV} {H':Heap} {k:AV->Heap->Prop} {u}:wpE 0 (some (.upd v H')) H k u↔k v H':=by
 constructor
 .rintro ⟨e,he,_,h⟩;simp at he;subst he;exact h
 .intro h;exact ⟨_,rfl,by simp,h⟩
def qd (c:Bool) (A B:Prop) (_:Tag (A,B)):Prop:=if c=true then A else B
def Ox (b:Bool) (v:AV) (A B:Prop) (_:Tag (A,B)):Prop :=
 match v with
 | .pure (.bool c)=>if c=b then A else B
 | .aQ []=>B
 | _=>False
def HY (cl:Callee) (pre:Nat) (ops:List af) (env:Env) (H:Heap) (K:Env->Heap->Prop) (_:Tag (ops,env,H,K)):Prop:=∃ r,l6 cl pre ops env H=some r/\K r.1 r.2
theorem zoI {pre:Nat} {K:Env->Heap->Prop} {u}:HY cl pre [] env H K u↔K env H:=by
 constructor
 .rintro ⟨r,hr,h⟩;simp [l6] at hr;subst hr;exact h
 .intro h;exact ⟨(env,H),rfl,h⟩
theorem zlp {pre:Nat} {d:Option Nat} {op:mI} {os:List af} {K:Env->Heap->Prop} {u} :
  HY cl pre (⟨d,op,none⟩::os) env H K u↔wpE pre (step cl env H op) H (fun v H'=>HY cl (pre - 1) os (oV env d v) H' K .mk) .mk:=by
 constructor
 .rintro ⟨r,hr,h⟩;simp only [l6,wanted] at hr
  split at hr
  .simp at hr
  .rename_i e he
   split at hr
   .simp at hr
   .rename_i hc;exact ⟨e,he,hc,r,hr,h⟩
 .rintro ⟨e,he,hc,r,hr,h⟩
  refine ⟨r,?_,h⟩
  simp only [l6,wanted,he];rw [if_neg hc];exact hr
theorem zp8 {pre:Nat} {d:Option Nat} {op:mI} {g:Nat} {b:Bool} {os:List af} {K:Env->Heap->Prop} {u} :
  HY cl pre (⟨d,op,some (some g,b)⟩::os) env H K u↔Ox b (env g) (wpE pre (step cl env H op) H (fun v H'=>HY cl (pre - 1) os (oV env d v) H' K .mk) .mk) (HY cl (pre - 1) os (oV env d (.aQ [])) H K .mk) .mk:=by
 have main:∀ c,wanted env (some (some g,b))=some c->(HY cl pre (⟨d,op,some (some g,b)⟩::os) env H K u ↔
   if c=true then (wpE pre (step cl env H op) H (fun v H'=>HY cl (pre - 1) os (oV env d v) H' K .mk) .mk) else (HY cl (pre - 1) os (oV env d (.aQ [])) H K .mk)):=by
  intro c hc
  cases c with
  | false =>
   simp only [Bool.false_eq_true,if_false]
   constructor
   .rintro ⟨r,hr,h⟩;simp only [l6,hc] at hr;exact ⟨r,hr,h⟩
   .rintro ⟨r,hr,h⟩;exact ⟨r,by simp only [l6,hc];exact hr,h⟩
  | true =>
   simp only [if_true]
   constructor
   .rintro ⟨r,hr,h⟩;simp only [l6,hc] at hr
    split at hr
    .simp at hr
    .rename_i e he
     split at hr
     .simp at hr
     .rename_i uD;exact ⟨e,he,uD,r,hr,h⟩
   .rintro ⟨e,he,uD,r,hr,h⟩
    refine ⟨r,?_,h⟩
    simp only [l6,hc,he];rw [if_neg uD];exact hr
 have bad:wanted env (some (some g,b))=none->(HY cl pre (⟨d,op,some (some g,b)⟩::os) env H K u↔False):=by
  intro hc
  constructor
  .rintro ⟨r,hr,h⟩;simp [l6,hc] at hr
  .exact False.elim
 unfold Ox
 split
 .rename_i c hv;rw [main (c == b) (by simp only [wanted,hv])]
  cases c<;>cases b<;>simp
 .rename_i hv;rw [main false (by simp only [wanted,hv])];simp
 .rename_i h1 h2
  refine bad ?_
  simp only [wanted]
theorem zjJ {α:Type} (f:Nat->α) (i j:Nat) (v:α):upd f i v j=if j=i then v else f j:=rfl
theorem ziu {α:Type} (f:Nat->α) (i:Nat) (v:α):oV f (some i) v=upd f i v:=rfl
theorem zoh {α:Type} (f:Nat->α) (v:α):oV f none v=f:=rfl
theorem zmW (t:Nat):aa.eval env (.tmp t)=env t:=rfl
theorem zh4 (p:PV):aa.eval env (.const p)=.pure p:=rfl
def EZ (ops:List af):List Nat:=ops.filterMap (·.dst)
theorem zmO {env:Env} {d:Option Nat} {v:AV} {t:Nat} (h:d≠some t):oV env d v t=env t:=by
 cases d with
 | none=>rfl
 | some i =>
  have:t≠i:=fun e=>h (by rw [e]);simp [oV,upd,this]
theorem ZG:∀ {pre:Nat} {ops:List af} {env:Env} {H:Heap} {r:Env×Heap},l6 cl pre ops env H=some r->∀ t,(EZ ops).contains t=false->r.1 t=env t
 | pre,[],env,H,r,h,t,_=>by simp [l6] at h;subst h;rfl
 | pre,o::os,env,H,r,h,t,ht=>by
  have h1:o.dst≠some t:=fun e=>by simp [EZ,List.filterMap_cons,e] at ht
  have h2:(EZ os).contains t=false:=by
   cases hd:o.dst with
   | none=>simpa [EZ,List.filterMap_cons,hd] using ht
   | some i =>
    simp only [EZ,List.filterMap_cons,hd,List.contains_cons,Bool.or_eq_false_iff] at ht;exact ht.2
  unfold l6 at h
  split at h
  .simp at h
  .exact (ZG h t h2).trans (zmO h1)
  .split at h
   .simp at h
   .split at h
    .simp at h
    .exact (ZG h t h2).trans (zmO h1)
def wp (cl:Callee) (c:aV) (env:Env) (H:Heap) (Q:fZ->Env->Heap->Prop) (_:Tag (c,env,H,Q)):Prop:=∃ x env' H',exec cl c env H=some (x,env',H')/\Q x env' H'
variable {Q:fZ->Env->Heap->Prop}
theorem wp.mono {c:aV} {Q':fZ->Env->Heap->Prop} {u u'} (h:wp cl c env H Q u) (hq:∀ x e h,Q x e h->Q' x e h):wp cl c env H Q' u':=by
 obtain ⟨x,e,h',h1,h2⟩:=h;exact ⟨x,e,h',h1,hq _ _ _ h2⟩
theorem zs4 {u}:wp cl .skip env H Q u↔Q .normal env H:=by
 constructor
 .rintro ⟨x,e,h,h1,h2⟩;simp [exec] at h1;obtain ⟨rfl,rfl,rfl⟩:=h1;exact h2
 .intro h;exact ⟨_,_,_,rfl,h⟩
theorem zs2 {i:Nat} {u}:wp cl (.exit i) env H Q u↔Q (.exit i) env H:=by
 constructor
 .rintro ⟨x,e,h,h1,h2⟩;simp [exec] at h1;obtain ⟨rfl,rfl,rfl⟩:=h1;exact h2
 .intro h;exact ⟨_,_,_,rfl,h⟩
theorem zuk {u}:wp cl .ret env H Q u↔Q .ret env H:=by
 constructor
 .rintro ⟨x,e,h,h1,h2⟩;simp [exec] at h1;obtain ⟨rfl,rfl,rfl⟩:=h1;exact h2
 .intro h;exact ⟨_,_,_,rfl,h⟩
theorem zj0 {pre:Option Nat} {ops:List af} {u}:wp cl (.region pre ops) env H Q u↔HY cl (pre.getD 0) ops env H (Q .normal) .mk:=by
 constructor
 .rintro ⟨x,e,h,h1,h2⟩;simp only [exec] at h1
  split at h1
  .rename_i e' h' hr;simp at h1;obtain ⟨rfl,rfl,rfl⟩:=h1;exact ⟨_,hr,h2⟩
  .simp at h1
 .rintro ⟨⟨e,h⟩,hr,h2⟩;exact ⟨_,_,_,by simp only [exec,hr],h2⟩
def J7 (cl:Callee) (b:aV) (Q:fZ->Env->Heap->Prop) (x:fZ) (e:Env) (h:Heap):Prop:=match x with
 | .normal=>wp cl b e h Q .mk
 | x=>Q x e h
theorem zhq {b:aV} {e:Env} {h:Heap}:J7 cl b Q .normal e h↔wp cl b e h Q .mk:=Iff.rfl
theorem zqS {b:aV} {e:Env} {h:Heap}:J7 cl b Q .ret e h↔Q .ret e h:=Iff.rfl
theorem zpA {b:aV} {i:Nat} {e:Env} {h:Heap}:J7 cl b Q (.exit i) e h↔Q (.exit i) e h:=Iff.rfl
theorem zrQ {a b:aV} {u}:wp cl (.seq a b) env H Q u↔wp cl a env H (J7 cl b Q) .mk:=by
 constructor
 .rintro ⟨x,e,h,h1,h2⟩;simp only [exec] at h1
  split at h1
  .rename_i e' h' hr;exact ⟨_,_,_,hr,x,e,h,h1,h2⟩
  .rename_i hn
   refine ⟨x,e,h,h1,?_⟩
   cases x with
   | normal=>exact absurd h1 (by intro hh;exact hn _ _ hh)
   | exit i=>exact h2
   | ret=>exact h2
 .rintro ⟨x,e,h,h1,h2⟩
  cases x with
  | normal =>
   obtain ⟨x',e',h',h3,h4⟩:=h2;exact ⟨x',e',h',by simp only [exec,h1];exact h3,h4⟩
  | exit i=>exact ⟨_,_,_,by simp only [exec,h1],h2⟩
  | ret=>exact ⟨_,_,_,by simp only [exec,h1],h2⟩
def wpC (v:AV) (A B:Prop) (_:Tag (A,B)):Prop:=match v with
 | .pure (.bool c)=>qd c A B .mk
 | _=>False
theorem zoz {c:aa} {a b:aV} {u}:wp cl (.cond c a b) env H Q u↔wpC (c.eval env) (wp cl a env H Q .mk) (wp cl b env H Q .mk) .mk:=by
 unfold wpC
 constructor
 .rintro ⟨x,e,h,h1,h2⟩;simp only [exec] at h1
  split at h1
  .rename_i t ht;rw [ht]
   cases t with
   | true=>exact ⟨x,e,h,by simpa using h1,h2⟩
   | false=>exact ⟨x,e,h,by simpa using h1,h2⟩
  .simp at h1
 .intro hw
  split at hw
  .rename_i t ht
   cases t with
   | true =>
    obtain ⟨x,e,h,h1,h2⟩:=hw;exact ⟨x,e,h,by simp only [exec,ht];exact h1,h2⟩
   | false =>
    obtain ⟨x,e,h,h1,h2⟩:=hw;exact ⟨x,e,h,by simp only [exec,ht];exact h1,h2⟩
  .exact hw.elim
def J8 (id:Nat) (Q:fZ->Env->Heap->Prop) (x:fZ) (e:Env) (h:Heap):Prop:=match x with
 | .exit i=>if i=id then Q .normal e h else Q (.exit i) e h
 | x=>Q x e h
theorem zjg {id:Nat} {e:Env} {h:Heap}:J8 id Q .normal e h↔Q .normal e h:=Iff.rfl
theorem zno {id:Nat} {e:Env} {h:Heap}:J8 id Q .ret e h↔Q .ret e h:=Iff.rfl
theorem zmf {id:Nat} {e:Env} {h:Heap}:J8 id Q (.exit id) e h↔Q .normal e h:=by simp [J8]
theorem zlb {id i:Nat} {e:Env} {h:Heap} (hi:i≠id):J8 id Q (.exit i) e h↔Q (.exit i) e h:=by simp [J8,hi]
def Tc (P:Env->Heap->Prop) (Q:fZ->Env->Heap->Prop) (x:fZ) (e:Env) (h:Heap):Prop:=match x with
 | .normal=>P e h
 | x=>Q x e h
theorem zk4 {P:Env->Heap->Prop} {e:Env} {h:Heap}:Tc P Q .normal e h↔P e h:=Iff.rfl
theorem zqk {P:Env->Heap->Prop} {e:Env} {h:Heap}:Tc P Q .ret e h↔Q .ret e h:=Iff.rfl
theorem zns {P:Env->Heap->Prop} {i:Nat} {e:Env} {h:Heap}:Tc P Q (.exit i) e h↔Q (.exit i) e h:=Iff.rfl
theorem zrZ {id:Nat} {c:aV} {u}:wp cl (.block id c) env H Q u↔wp cl c env H (J8 id Q) .mk:=by
 constructor
 .rintro ⟨x,e,h,h1,h2⟩;simp only [exec] at h1
  split at h1
  .rename_i i e' h' hr
   refine ⟨_,_,_,hr,?_⟩
   show if i=id then _ else _
   split at h1
   .rename_i hi;simp at h1;obtain ⟨rfl,rfl,rfl⟩:=h1;rw [if_pos hi];exact h2
   .rename_i hi;simp at h1;obtain ⟨rfl,rfl,rfl⟩:=h1;rw [if_neg hi];exact h2
  .rename_i hn
   refine ⟨x,e,h,h1,?_⟩
   cases x with
   | normal=>exact h2
   | ret=>exact h2
   | exit i=>exact absurd h1 (by intro hh;exact hn _ _ _ hh)
 .rintro ⟨x,e,h,h1,h2⟩
  cases x with
  | normal=>exact ⟨_,_,_,by simp only [exec,h1],h2⟩
  | ret=>exact ⟨_,_,_,by simp only [exec,h1],h2⟩
  | exit i =>
   by_cases hi:i=id
   .subst hi;simp only [J8,if_true] at h2;exact ⟨_,_,_,by simp only [exec,h1,if_true],h2⟩
   .simp only [J8,if_neg hi] at h2;exact ⟨_,_,_,by simp only [exec,h1,if_neg hi],h2⟩
theorem zsP {c:aV} {σ:Type} (I:σ->Env->Heap->Prop) (m:σ->Nat) (s:σ) (h0:I s env H) (hm:m s < zF)
  (hb:∀ s env H,I s env H->wp cl c env H (Tc (fun e h=>∃ s',m s' < m s/\I s' e h) Q) .mk) {u}:wp cl (.loop c) env H Q u:=by
 have main:∀ k s env H,m s < k->I s env H->∃ x env' H',iter (exec cl c) k env H=some (x,env',H')/\Q x env' H':=by
  intro k
  induction k with
  | zero=>intro s env H hk;omega
  | succ k ih =>
   intro s env H hk hI;obtain ⟨x,e,h,h1,h2⟩:=hb s env H hI
   cases x with
   | normal =>
    obtain ⟨s',oC,ZH⟩:=h2;obtain ⟨x',e',h',h3,h4⟩:=ih s' e h (by omega) ZH;exact ⟨x',e',h',by simp only [iter,h1];exact h3,h4⟩
   | exit i=>exact ⟨_,_,_,by simp only [iter,h1],h2⟩
   | ret=>exact ⟨_,_,_,by simp only [iter,h1],h2⟩
 obtain ⟨x,e,h,h1,h2⟩:=main zF s env H hm h0;exact ⟨x,e,h,by simp only [exec];exact h1,h2⟩
def Td (rs:List mK) (r:PV) (x:fZ) (env:Env) (H:Heap):Prop :=
 (∀ i,x≠.exit i)/\∃ v,results env H rs=some v/\∃ ids,freeze H false qw v=some (r,ids)
theorem zsQ {rs:List mK} {r:PV}:Td rs r .ret env H↔∃ v,results env H rs=some v/\∃ ids,freeze H false qw v=some (r,ids):=by
 simp [Td]
theorem zoj {rs:List mK} {r:PV}:Td rs r .normal env H↔∃ v,results env H rs=some v/\∃ ids,freeze H false qw v=some (r,ids):=by
 simp [Td]
theorem zz {G:Prog} {n f:Nat} {fn:ai} {args:List PV} {r:PV} (hx:G.ext f=none) (hr:G.lC f (args.map .pure) Heap.empty=none) (hf:G.func f=some fn) (hl:args.length=fn.wQ)
  (h:wp (zu G n) fn.body (zb (args.map .pure)) Heap.empty (Td fn.results r) .mk):zK G (n+1) f args=some r:=by
 obtain ⟨x,e,h',h1,h2,v,h3,ids,h4⟩:=h;unfold zK;rw [hx];simp only;rw [ZF,hr,hf];simp only [List.length_map,hl,if_true,h1]
 cases x with
 | exit i=>exact absurd rfl (h2 i)
 | normal=>simp only [h3,h4,Option.map_some]
 | ret=>simp only [h3,h4,Option.map_some]
end
@[simp] theorem zp7 {A B:Prop} {u}:qd true A B u↔A:=Iff.rfl
@[simp] theorem zjb {A B:Prop} {u}:qd false A B u↔B:=by simp [qd]
theorem zm8 {c:Bool} {A B:Prop} {u} (h1:c=true->A) (h2:c=false->B):qd c A B u:=by
 cases c with
 | true=>exact h1 rfl
 | false=>rw [zjb];exact h2 rfl
@[simp] theorem zvS {c:Bool} {A B:Prop} {u}:qd (!c) A B u↔qd c B A .mk:=by cases c<;>simp
@[simp] theorem zv1 {a b:Bool} {A B:Prop} {u}:qd (a&&b) A B u↔qd a (qd b A B .mk) B .mk:=by cases a<;>simp
theorem za {c:Bool} {A B:Prop} {u} (h1:c=true->c=true->A) (h2:c=false->c=false->B):qd c A B u :=
 zm8 (fun h=>h1 h h) fun h=>h2 h h
@[simp] theorem zwp {b:Bool} {A B:Prop} {u}:Ox b (.aQ []) A B u↔B:=Iff.rfl
@[simp] theorem zvr {c:Bool} {A B:Prop} {u}:Ox true (.pure (.bool c)) A B u↔qd c A B .mk:=by cases c<;>simp [Ox]
@[simp] theorem zuX {c:Bool} {A B:Prop} {u}:Ox false (.pure (.bool c)) A B u↔qd c B A .mk:=by cases c<;>simp [Ox]
@[simp] theorem zwC {c:Bool} {A B:Prop} {u}:wpC (.pure (.bool c)) A B u↔qd c A B .mk:=Iff.rfl
attribute [simp] zhq zqS zpA zjg zno zmf zlb zk4 zqk zns
attribute [simp] Ta QB J6 zoI zlp zp8 zjJ ziu zoh zmW zh4 zs4 zs2 zuk zj0 zrQ zoz zrZ zsQ zoj
section
variable {cl:Callee} {env:Env} {H:Heap}
@[simp] theorem zvK (d:wO) (k:IntKind) (a b:Int):iM .lss d (.pure (.int k a)) (.pure (.int k b))=some (.pure (.bool (decide (a < b)))):=by simp [iM,BR,Ls]
@[simp] theorem zvT (d:wO) (k:IntKind) (a b:Int):iM .leq d (.pure (.int k a)) (.pure (.int k b))=some (.pure (.bool (decide (a<=b)))):=by simp [iM,BR,Ls]
@[simp] theorem zvg (d:wO) (k:IntKind) (a b:Int):iM .gtr d (.pure (.int k a)) (.pure (.int k b))=some (.pure (.bool (decide (b < a)))):=by simp [iM,BR,Ls]
@[simp] theorem zvC (d:wO) (k:IntKind) (a b:Int):iM .geq d (.pure (.int k a)) (.pure (.int k b))=some (.pure (.bool (decide (b<=a)))):=by simp [iM,BR,Ls]
@[simp] theorem zvW (d:wO) (k:IntKind) (a b:Int):iM .eql d (.pure (.int k a)) (.pure (.int k b))=some (.pure (.bool (decide (a=b)))):=by
 simp [iM,BR,Ls]
 by_cases h:a=b<;>simp [h]
@[simp] theorem zva (d:wO) (k:IntKind) (a b:Int):iM .neq d (.pure (.int k a)) (.pure (.int k b))=some (.pure (.bool (!decide (a=b)))):=by
 simp [iM,BR,Ls]
 by_cases h:a=b<;>simp [h]
@[simp] theorem zv5 (d:wO) (k:IntKind) (a b:Int):iM .add d (.pure (.int k a)) (.pure (.int k b))=some (.pure (.int k (k.wrap (a+b)))):=by simp [iM,BR]
@[simp] theorem zvh (d:wO) (k:IntKind) (a b:Int):iM .sub d (.pure (.int k a)) (.pure (.int k b))=some (.pure (.int k (k.wrap (a - b)))):=by simp [iM,BR]
@[simp] theorem zvO (d:wO) (k:IntKind) (a b:Int):iM .mul d (.pure (.int k a)) (.pure (.int k b))=some (.pure (.int k (k.wrap (a*b)))):=by simp [iM,BR]
@[simp] theorem zwg (b:Bool):NM .not (.pure (.bool b))=some (.pure (.bool (!b))):=rfl
@[simp] theorem zwi (k:IntKind) (n:Int):NM .neg (.pure (.int k n))=some (.pure (.int k (k.wrap (0 - n)))):=rfl
theorem wrap64 {n:Int} (h:-9223372036854775808<=n) (h':n < 9223372036854775808):IntKind.i64.wrap n=n:=Yo h h'
@[simp] theorem zt7 (x:aa):step cl env H (.iL x)=some (.val (x.eval env)):=rfl
@[simp] theorem ztU (op:BinOp) (d:wO) (x y:aa):step cl env H (.bin op d x y)=(iM op d (x.eval env) (y.eval env)).map .val:=rfl
@[simp] theorem zwE (op:UnOp) (x:aa):step cl env H (.un op x)=(NM op (x.eval env)).map .val:=rfl
def ZI (c a b:AV):Option Eff:=match c with
 | .pure (.bool t)=>some (.val (if t then a else b))
 | _=>none
@[simp] theorem zwq (c a b:aa):step cl env H (.pick c a b)=ZI (c.eval env) (a.eval env) (b.eval env):=by
 simp only [step,ZI];rfl
@[simp] theorem zut (t:Bool) (a b:AV):ZI (.pure (.bool t)) a b=some (.val (if t=true then a else b)):=rfl
def Jj (v:AV):Option Eff:=match v with
 | .pure .nils=>some (.val (.pure (.int .i64 0)))
 | .pure (.slice _ _ es)=>some (.val (.pure (.int .i64 es.length)))
 | .row _ _ _ n=>some (.val (.pure (.int .i64 n)))
 | _=>none
@[simp] theorem zvP (x:aa):step cl env H (.wP x)=Jj (x.eval env):=rfl
@[simp] theorem zua:Jj (.pure .nils)=some (.val (.pure (.int .i64 0))):=rfl
@[simp] theorem ztt (h:Bool) (sz:Nat) (es:List (List PV)):Jj (.pure (.slice h sz es))=some (.val (.pure (.int .i64 es.length))):=rfl
@[simp] theorem zt9 (i sz o n:Nat):Jj (.row i sz o n)=some (.val (.pure (.int .i64 n))):=rfl
def zr8 (k:IntKind) (v:AV):Option Eff:=match v with
 | .pure (.int _ n)=>some (.val (.pure (.int k (k.wrap n))))
 | _=>none
@[simp] theorem zvB (k:IntKind) (x:aa):step cl env H (.toInt k x)=zr8 k (x.eval env):=rfl
@[simp] theorem ztV (k k':IntKind) (n:Int):zr8 k (.pure (.int k' n))=some (.val (.pure (.int k (k.wrap n)))):=rfl
@[simp] theorem zwm (f:aa) (args:List aa):step cl env H (.call f args)=zH cl H (f.eval env) (args.map (·.eval env)):=rfl
@[simp] theorem zwe (g:Bool) (size:Nat) (x:aa):step cl env H (.load g size x)=(zY H size (x.eval env)).bind fun cs=>(rM g cs).map .val:=by
 simp only [step]
 cases zY H size (x.eval env)<;>rfl
def BA (sz:Nat) (v i:AV):Option Eff:=match i with
 | .pure (.int _ n)=>if 0<=n then match v with
    | .pure (.slice k s es)=>if s=sz then match es[n.toNat]? with
     | some e=>some (.val (.pure (.ptr k e 0)))
     | none=>none else none
    | .row id s off len=>if s=sz/\n < len then some (.val (.box id (off*sz+n.toNat*sz))) else none
    | _=>none
   else none
 | _=>none
@[simp] theorem zss (sz:Nat) (x i:aa):step cl env H (.indexAddr sz none x i)=BA sz (x.eval env) (i.eval env):=by
 simp only [step,BA];rfl
@[simp] theorem zuE {k:IntKind} {n:Nat} {id sz off len:Nat} (h:n < len):BA sz (.row id sz off len) (.pure (.int k n))=some (.val (.box id (off*sz+n*sz))):=by
 simp only [BA];rw [if_pos (by omega)];have:(n:Int) < len:=by omega
 simp [this]
theorem Wy {k:IntKind} {n:Nat} {uq:Bool} {sz:Nat} {es:List (List PV)} {e:List PV} (h:es[n]?=some e):BA sz (.pure (.slice uq sz es)) (.pure (.int k n))=some (.val (.pure (.ptr uq e 0))):=by
 simp only [BA];rw [if_pos (by omega)];simp [h]
def rowB (l:List UInt8):List AV:=l.map fun b=>.pure (.int .u8 b.toNat)
@[simp] theorem ztH (l:List UInt8):(rowB l).length=l.length:=by simp [rowB]
def uQ (o:aU) (size off:Nat) (vs:List AV):Option aU:=match o with
 | .cells true cs=>if vs.length=size/\size≠0/\vs.all AV.one=true/\off+size<=cs.length then some (.cells true (cs.take off++vs++cs.drop (off+size))) else none
 | _=>none
def ZJ (H:Heap) (size:Nat) (a:AV) (vs:List AV):Option Eff:=match a with
 | .box id off=>(uQ (H.get id) size off vs).map fun o=>.upd (.aQ []) (H.set id o)
 | _=>none
@[simp] theorem zvE (size:Nat) (a x:aa):step cl env H (.store size a x)=ZJ H size (a.eval env) (x.eval env).cells:=by
 simp only [step,ZJ]
 cases a.eval env<;>try rfl
 rename_i id off;simp only [uQ]
 cases H.get id<;>try rfl
 rename_i own cs
 cases own with
 | false=>rfl
 | true =>
  simp only
  split<;>rfl
@[simp] theorem ztS (size id off:Nat) (vs:List AV):ZJ H size (.box id off) vs=(uQ (H.get id) size off vs).map fun o=>.upd (.aQ []) (H.set id o):=rfl
def Wz (o:aU) (size off:Nat) (vs:List AV):Option aU:=match o with
 | .raw z=>uQ (.cells true (z.map .pure)) size off vs
 | _=>none
def ZK (H:Heap) (size:Nat) (a:AV) (vs:List AV):Option Eff:=match a with
 | .box id off=>(Wz (H.get id) size off vs).map fun o=>.upd (.aQ []) (H.set id o)
 | _=>none
@[simp] theorem zuq (z:List PV) (size off:Nat) (vs:List AV):Wz (.raw z) size off vs=uQ (.cells true (z.map .pure)) size off vs:=rfl
@[simp] theorem ztC (size id off:Nat) (vs:List AV):ZK H size (.box id off) vs=(Wz (H.get id) size off vs).map fun o=>.upd (.aQ []) (H.set id o):=rfl
@[simp] theorem zu9 (size:Nat) (a x:aa):step cl env H (.bC size a x)=ZK H size (a.eval env) (x.eval env).cells:=by
 simp only [step,ZK]
 cases a.eval env<;>try rfl
 rename_i id off;simp only [Wz]
 cases H.get id<;>try rfl
 simp only [uQ]
 split<;>rfl
@[simp] theorem zu3 (z:List PV):step cl env H (.oh z)=some (.new (.raw z) fun id=>.box id 0):=rfl
def WA (o:aU) (off n:Nat):Option Eff:=match o with
 | .cells _ cs=>if off+n<=cs.length then match ((cs.drop off).take n).mapM Ja with
   | some bs=>some (.val (.pure (.str ⟨bs.toArray⟩)))
   | none=>none else none
 | _=>none
def Tf (H:Heap) (v:AV):Option Eff:=match zO H 1 v with
  | some (cs,_)=>match cs.mapM Ja with
   | some bs=>some (.val (.pure (.str ⟨bs.toArray⟩)))
   | none=>none
  | none=>none
@[simp] theorem zvy (x:aa):step cl env H (.toStr x)=Tf H (x.eval env):=rfl
@[simp] theorem zos (id off n:Nat):Tf H (.row id 1 off n)=WA (H.get id) off n:=by
 simp only [Tf,zO,WA,if_true]
 cases H.get id<;>try rfl
 simp only [Nat.mul_one]
 split
 .rename_i h;split at h
  .rename_i hc;rw [if_pos hc];simp at h;obtain ⟨rfl,_⟩:=h;rfl
  .simp at h
 .rename_i h;split at h
  .simp at h
  .rename_i hc;rw [if_neg hc]
theorem zjy:∀ (l:List UInt8),(rowB l).mapM Ja=some l
 | []=>rfl
 | c::l=>by
  have:=zjy l;simp only [rowB] at this;simp [rowB,Ja,this]
@[simp] theorem zkR {own:Bool} {l:List UInt8} {n:Nat} (h:l.length=n):WA (.cells own (rowB l)) 0 n=some (.val (.pure (.str ⟨l.toArray⟩))):=by
 subst h;simp only [WA];rw [if_pos (by simp)];have:((rowB l).drop 0).take l.length=rowB l:=by rw [List.drop_zero];exact List.take_of_length_le (by simp)
 rw [this,zjy]
@[simp] theorem zuC:Tf H (.pure .nils)=some (.val (.pure (.str ⟨#[]⟩))):=rfl
@[simp] theorem zuo (i:Nat) (x:aa):step cl env H (.extract i x)=match x.eval env with
  | .pure (.aQ vs)=>match vs[i]? with
   | some v=>some (.val (.pure v))
   | none=>none
  | .aQ vs=>match vs[i]? with
   | some v=>some (.val v)
   | none=>none
  | _=>none:=rfl
@[simp] theorem zwt (i:Nat) (x:aa):step cl env H (.idle i x)=match x.eval env with
  | .pure (.aQ vs)=>match vs[i]? with
   | some _=>some (.val .undef)
   | none=>none
  | .aQ vs=>match vs[i]? with
   | some _=>some (.val .undef)
   | none=>none
  | _=>none:=rfl
@[simp] theorem zwd (x:aa):step cl env H (.yu x)=some (.val (x.eval env)):=rfl
@[simp] theorem zs9 (sz:Nat):step cl env H (.j5 sz)=some (.new (.cells true []) fun id=>.void id sz):=rfl
@[simp] theorem zwj (x:aa):step cl env H (.EO x)=match qp (x.eval env).cells with
  | some ps=>some (.val (.pure (.ptr false ps 0)))
  | none=>none:=rfl
@[simp] theorem zsS (off:Nat) (x:aa):step cl env H (.fieldAddr off x)=match x.eval env with
  | .pure (.ptr k cs o)=>some (.val (.pure (.ptr k cs (o+off))))
  | .box id o=>some (.val (.box id (o+off)))
  | _=>none:=rfl
@[simp] theorem zvF (g:Bool) (size:Nat) (x:aa):step cl env H (.uy g size x)=match x.eval env with
  | .pure (.ptr _ cs off)=>if off+size<=cs.length then (rM g (((cs.drop off).take size).map .pure)).map .val else none
  | _=>none:=rfl
@[simp] theorem zuK (size:Nat) (a x:aa) (ls:List aa):step cl env H (.fK size a x ls)=match a.eval env with
  | .box id _=>if ls.all (fun l=>beside id (l.eval env))=true then step cl env H (.store size a x) else none
  | _=>none:=by
 simp only [step];generalize a.eval env=v
 cases v<;>rfl
@[simp] theorem zu7 (off:Nat) (x:aa):step cl env H (.lu off x)=match x.eval env with
  | .pure (.ptr k cs o)=>some (.val (.pure (.ptr k cs (o+off))))
  | .box id o=>some (.val (.box id (o+off)))
  | _=>none:=rfl
@[simp] theorem zvn (g:Bool) (size:Nat) (x:aa):step cl env H (.iR g size x)=(zY H size (x.eval env)).bind fun cs=>(rM g cs).map .val:=by
 simp only [step]
 cases zY H size (x.eval env)<;>rfl
@[simp] theorem zvi (z:List PV):step cl env H (.alloc z)=some (.new (.cells true (z.map .pure)) fun id=>.box id 0):=rfl
@[simp] theorem zwD (x:aa):step cl env H (.box x)=some (.new (.cells true (x.eval env).cells) fun id=>.box id 0):=rfl
@[simp] theorem zvj (z:List PV) (ps:List (Nat×Nat×aa)):step cl env H (.build z ps)=(fill (z.map .pure) (vw env ps)).map fun cs=>.val (iA cs):=by
 simp only [step]
 cases fill (z.map .pure) (vw env ps)<;>rfl
@[simp] theorem zsl:vw env []=[]:=rfl
@[simp] theorem zrK (o s:Nat) (x:aa) (ps:List (Nat×Nat×aa)):vw env ((o,s,x)::ps)=(o,s,x.eval env)::vw env ps:=rfl
@[simp] theorem zvw (cs:List AV):fill cs []=some cs:=rfl
@[simp] theorem zu5 (cs:List AV) (off size:Nat) (v:AV) (rest:List (Nat×Nat×AV)):fill cs ((off,size,v)::rest)=if v.cells.length=size/\size≠0/\off+size<=cs.length then fill (cs.take off++v.cells++cs.drop (off+size)) rest else none:=by
 simp only [fill]
@[simp] theorem zsr (sz:Nat) (z:List PV) (ps:List (Nat×Nat×aa)):step cl env H (.buildSlice sz z ps)=(fill (z.map .pure) (vw env ps)).map fun cs=>.new (.cells true cs) fun id=>.row id sz 0 (if sz=0 then 0 else cs.length / sz):=by
 simp only [step]
 cases fill (z.map .pure) (vw env ps)<;>rfl
@[simp] theorem zv3 (f:aa) (xs ls:List aa):step cl env H (.jG f xs ls)=match zH cl H (f.eval env) (xs.map (·.eval env)) with
  | some (.upd v H2)=>if ls.all (fun l=>keeps H H2 (l.eval env))=true then some (.upd v H2) else none
  | _=>none:=rfl
@[simp] theorem zuT (z:List PV) (ps:List (Nat×Nat×aa)):step cl env H (.pX z ps)=(fill (z.map .pure) (vw env ps)).map fun cs=>.val (iA cs):=by
 simp only [step]
 cases fill (z.map .pure) (vw env ps)<;>rfl
@[simp] theorem zu1 (sz:Nat) (z:List PV) (ps:List (Nat×Nat×aa)):step cl env H (.om sz z ps)=(fill (z.map .pure) (vw env ps)).bind fun cs=>(qp cs).bind fun ps=>if ps.length=Rw sz cs.length*sz then some (.val (.pure (.slice false sz (chunks sz (Rw sz cs.length) ps)))) else none:=by
 simp only [step]
 cases fill (z.map .pure) (vw env ps) with
 | none=>rfl
 | some cs=>simp only [Option.bind_some];cases qp cs<;>rfl
@[simp] theorem ztG (f:Nat) (first:List aa):step cl env H (.iE f first)=(qp (first.map (·.eval env))).bind fun ps=>some (.val (.pure (.lQ f ps))):=by
 simp only [step]
 cases qp (first.map (·.eval env))<;>rfl
@[simp] theorem ztE (g:Nat) (first:List PV) (args:List AV):zH cl H (.pure (.lQ g first)) args=zH cl H (.pure (.func g [])) (first.map .pure++args):=by
 simp only [zH,List.map_nil,List.append_nil]
@[simp] theorem ztD (f:Nat) (caps:List aa):step cl env H (.makeFunc f caps)=some (.val (JK f (caps.map (·.eval env)))):=rfl
@[simp] theorem zuI (n:Nat):step cl env H (.xq n)=some (.val (.pure (.int .i64 n))):=rfl
@[simp] theorem zuV (sz b:Nat) (x y:aa):step cl env H (.append sz b x y)=zm H sz b (x.eval env) (y.eval env):=rfl
def Ti (mx:Bool) (vs:List AV):Option Eff:=match vs with
 | .pure (.int k a)::rest=>(Gx mx k a rest).map fun n=>.val (.pure (.int k n))
 | _=>none
@[simp] theorem zuY (mx:Bool) (xs:List aa):step cl env H (.bN mx xs)=Ti mx (xs.map fun x=>x.eval env):=rfl
@[simp] theorem zwo (k k':IntKind) (a b:Int):Ti true [.pure (.int k a),.pure (.int k' b)]=some (.val (.pure (.int k (max a b)))):=by
 simp only [Ti,Gx,Option.map_some]
 congr 4
 simp only [if_true]
 split<;>omega
@[simp] theorem zwa (k k':IntKind) (a b:Int):Ti false [.pure (.int k a),.pure (.int k' b)]=some (.val (.pure (.int k (min a b)))):=by
 simp only [Ti,Gx,Option.map_some]
 congr 4
 simp only [Bool.false_eq_true,if_false]
 split<;>omega
@[simp] theorem zun:qp []=some []:=rfl
@[simp] theorem ztA (p:PV) (vs:List AV):qp (.pure p::vs)=(qp vs).map (p :: ·):=rfl
theorem znU:∀ (ps:List PV),qp (ps.map .pure)=some ps
 | []=>rfl
 | p::ps=>by simp [znU ps]
@[simp] theorem zuJ (ps:List PV):AV.cells (.pure (.agg ps))=ps.map .pure:=rfl
@[simp] theorem zuL (k:IntKind) (n:Int):AV.cells (.pure (.int k n))=[.pure (.int k n)]:=rfl
@[simp] theorem zuj (b:Bool):AV.cells (.pure (.bool b))=[.pure (.bool b)]:=rfl
@[simp] theorem zuS (b:ByteArray):AV.cells (.pure (.str b))=[.pure (.str b)]:=rfl
@[simp] theorem zuz:AV.cells (.pure .nils)=[.pure .nils]:=rfl
@[simp] theorem ztN (h:Bool) (sz:Nat) (es:List (List PV)):AV.cells (.pure (.slice h sz es))=[.pure (.slice h sz es)]:=rfl
@[simp] theorem zu8 (i sz o n:Nat):AV.cells (.row i sz o n)=[.row i sz o n]:=rfl
@[simp] theorem zsn (size:Nat) (k:Bool) (cs:List PV) (off:Nat):zY H size (.pure (.ptr k cs off))=if off+size<=cs.length then some (((cs.drop off).take size).map .pure) else none:=rfl
def Gh (o:aU) (size off:Nat):Option (List AV):=match o with
 | .cells _ cs=>if off+size<=cs.length then some ((cs.drop off).take size) else none
 | _=>none
@[simp] theorem zsk (size id off:Nat):zY H size (.box id off)=Gh (H.get id) size off:=by
 simp only [zY,Gh];rfl
@[simp] theorem ztI (cs:List AV):rM true cs=some (iA cs):=rfl
@[simp] theorem zus {cs:List AV} {ps:List PV} (h:qp cs=some ps):iA cs=.pure (.agg ps):=by simp [iA,h]
@[simp] theorem ztJ {f:Nat} {cs:List AV} {ps:List PV} (h:qp cs=some ps):JK f cs=.pure (.func f ps):=by simp [JK,h]
@[simp] theorem ztu (c:AV):rM false [c]=some c:=rfl
@[simp] theorem ztB (t:Nat):results env H [.tmp t]=some (env t):=rfl
@[simp] theorem ztQ (t u:Nat):results env H [.tmp t,.tmp u]=some (.aQ [env t,env u]):=rfl
@[simp] theorem ztj (h:Bool) (n:Nat) (p:PV):freeze H h (n+1) (.pure p)=some (p,[]):=rfl
@[simp] theorem zsq (h:Bool) (p:PV):freeze H h qw (.pure p)=some (p,[]):=rfl
@[simp] theorem ztX (h:Bool) (n:Nat) (cs:List AV):freeze H h (n+1) (.aQ cs)=(match zS (freeze H h n) cs with
   | some (ps,is)=>some (.aQ ps,is)
   | none=>none):=rfl
@[simp] theorem zsF (h:Bool) (cs:List AV):freeze H h qw (.aQ cs)=(match zS (freeze H h 11) cs with
   | some (ps,is)=>some (.aQ ps,is)
   | none=>none):=rfl
theorem ZL (h:Bool) (n:Nat):∀ (ps:List PV),zS (freeze H h (n+1)) (ps.map .pure)=some (ps,[])
 | []=>rfl
 | p::ps=>by simp [zS,ZL h n ps]
@[simp] theorem ztz (fr:AV->Option (PV×List Nat)):zS fr []=some ([],[]):=rfl
@[simp] theorem zs5 (fr:AV->Option (PV×List Nat)) (v:AV) (vs:List AV):zS fr (v::vs)=(match fr v with
  | none=>none
  | some (p,is)=>match zS fr vs with
   | none=>none
   | some (ps,js)=>some (p::ps,is++js)):=by
 simp only [zS];rfl
@[simp] theorem rC (o:aU):(H.alloc o).nx=H.nx+1:=by cases H;simp only [Heap.alloc]
@[simp] theorem mi (id:Nat) (o:aU):(H.set id o).nx=H.nx:=by cases H;simp only [Heap.set]
@[simp] theorem zn {id:Nat} {o:aU} (h:id < H.nx):(H.set id o).get id=o:=LB h
theorem zx {id:Nat} {own:Bool} {cs:List AV} (h:H.get id=.cells own cs):id < H.nx:=Rx (by rw [h];simp)
@[simp] theorem CQ (o:aU):(H.alloc o).get H.nx=o:=NN
theorem zg {id:Nat} {o:aU} (h:id < H.nx):(H.alloc o).get id=H.get id:=Lx (by omega)
theorem zp2 {G:Prog} {n f:Nat} {ps:List PV} {r:PV} (hs:G.shared f=false) (h:zK G n f ps=some r):zH (zu G n) H (.pure (.func f [])) (ps.map .pure)=some (.val (.pure r)):=by
 have h1:zS (freeze H true qw) (ps.map .pure)=some (ps,[]):=ZL true 11 ps;have h2:(zu G n).shared f=false:=hs;have h3:(zu G n).pure f ps=some r:=h;simp only [zH,List.map_nil,List.append_nil,h2,Bool.false_eq_true,if_false,h1,h3,List.isEmpty_nil,Bool.true_or,if_true]
end
def zq {α:Type} (f:α->List PV) (l:List α):List AV:=(l.map fun a=>(f a).map AV.pure).flatten
def ZM (c:UInt8):List PV:=[.int .u8 c.toNat]
theorem zsA (l:List UInt8):rowB l=zq ZM l:=by
 induction l with
 | nil=>rfl
 | cons c l ih =>
  simp only [rowB] at ih;simp [rowB,zq,ZM,ih]
theorem Ep {α:Type} (f:α->List PV) (l m:List α):zq f (l++m)=zq f l++zq f m:=by simp [zq]
theorem Tj {α:Type} (f:α->List PV) (a:α):zq f [a]=(f a).map .pure:=by simp [zq]
theorem BB {α:Type} {f:α->List PV} {sz:Nat} (hf:∀ a,(f a).length=sz) (l:List α):(zq f l).length=l.length*sz:=by
 induction l with
 | nil=>simp [zq]
 | cons a l ih =>
  have:zq f (a::l)=(f a).map .pure++zq f l:=by simp [zq]
  rw [this,List.length_append,ih];simp [hf,Nat.add_mul,Nat.add_comm]
def bL {α:Type} (f:α->List PV) (sz:Nat) (H:Heap) (v:AV) (l:List α):Prop :=
 (l=[]/\v=.pure .nils)\/∃ id,v=.row id sz 0 l.length/\H.get id=.cells true (zq f l)
section
variable {α:Type} {f:α->List PV} {sz:Nat} {H:Heap} {v:AV} {l:List α}
theorem bL.nil:bL f sz H (.pure .nils) []:=.inl ⟨rfl,rfl⟩
theorem bL.alloc (h:bL f sz H v l) (o:aU):bL f sz (H.alloc o) v l:=by
 rcases h with h|⟨id,h1,h2⟩
 .exact .inl h
 .exact .inr ⟨id,h1,by rw [zg (zx h2)];exact h2⟩
theorem bL.keep {H':Heap} (h:bL f sz H v l) (hk:∀ id,(∃ n,v=.row id sz 0 n)->H'.get id=H.get id):bL f sz H' v l:=by
 rcases h with h|⟨id,h1,h2⟩
 .exact .inl h
 .exact .inr ⟨id,h1,by rw [hk id ⟨_,h1⟩];exact h2⟩
theorem Tm (ps:List PV) (h:ps.all PV.one=true):(ps.map AV.pure).all AV.one=true:=by
 simp only [List.all_map,List.all_eq_true] at h ⊢;intro p hp;have:=h p hp
 cases p<;>first|rfl|simp [PV.one] at this
theorem bL.toStr {v:AV} {l:List UInt8} (h:bL ZM 1 H v l):Tf H v=some (.val (.pure (.str ⟨l.toArray⟩))):=by
 rcases h with ⟨rfl,rfl⟩|⟨id,rfl,h⟩
 .rfl
 .rw [zos,h,<- zsA,zkR rfl]
end
structure Hide (p:Prop):Prop where
 h:p
theorem zfM {α β:Type} {f:α->β} {xs:List α} {i:Nat} (h:i < xs.length):(xs.map f).take i++[f xs[i]]=(xs.map f).take (i+1):=by
 rw [List.take_add_one,List.getElem?_eq_getElem (by simpa using h)];simp
theorem E5 {α:Type} {xs:List α} {i:Nat} (h:i < xs.length):xs.take i++[xs[i]]=xs.take (i+1):=by
 rw [List.take_add_one,List.getElem?_eq_getElem h];simp
inductive Sl (α:Type) where
 | nil
 | mk (uq:Bool) (xs:List α)
 deriving Inhabited
section
variable {α:Type}
def Sl.xs:Sl α->List α
 | .nil=>[]
 | .mk _ xs=>xs
def Sl.uq:Sl α->Bool
 | .nil=>false
 | .mk h _=>h
def Sl.isNil:Sl α->Bool
 | .nil=>true
 | .mk _ _=>false
def Sl.pv (f:α->List PV) (sz:Nat):Sl α->PV
 | .nil=>.nils
 | .mk h xs=>.slice h sz (xs.map f)
def Sl.of:List α->Sl α
 | []=>.nil
 | a::l=>.mk false (a::l)
@[simp] theorem Sl.iV (l:List α):(Sl.of l).xs=l:=by cases l<;>rfl
@[simp] theorem Sl.ZN:(Sl.nil:Sl α).xs=[]:=rfl
@[simp] theorem Sl.iW (h:Bool) (l:List α):(Sl.mk h l).xs=l:=rfl
@[simp] theorem Sl.of_nil:Sl.of ([]:List α)=.nil:=rfl
@[simp] theorem Sl.of_cons (a:α) (l:List α):Sl.of (a::l)=.mk false (a::l):=rfl
@[simp] theorem Sl.ZO (f:α->List PV) (sz:Nat):(Sl.nil:Sl α).pv f sz=.nils:=rfl
@[simp] theorem zvz (f:α->List PV) (sz:Nat) (s:Sl α):isNil .slice (.pure (s.pv f sz))=some s.isNil:=by cases s<;>rfl
@[simp] theorem zvm (f:α->List PV) (sz:Nat) (s:Sl α):AV.cells (.pure (s.pv f sz))=[.pure (s.pv f sz)]:=by cases s<;>rfl
@[simp] theorem zwk (f:α->List PV) (sz:Nat) (s:Sl α):AV.one (.pure (s.pv f sz))=true:=by cases s<;>rfl
@[simp] theorem zuG (f:α->List PV) (sz:Nat) (s:Sl α):Jj (.pure (s.pv f sz))=some (.val (.pure (.int .i64 s.xs.length))):=by
 cases s<;>simp [Sl.pv,Sl.xs]
@[simp] theorem rQ {k:IntKind} {n:Nat} {f:α->List PV} {sz:Nat} {s:Sl α} (h:n < s.xs.length):BA sz (.pure (s.pv f sz)) (.pure (.int k n))=some (.val (.pure (.ptr s.uq (f s.xs[n]) 0))):=by
 cases s with
 | nil=>simp at h
 | mk uq xs =>
  simp only [Sl.xs] at h
  refine Wy ?_
  simp [List.getElem?_eq_getElem h,Sl.xs]
theorem zjs {H:Heap} {f:α->List PV} {sz:Nat} (hf:∀ a,(f a).length=sz) (s:Sl α):zO H sz (.pure (s.pv f sz))=some ((s.xs.map f).flatten.map .pure,s.xs.length):=by
 cases s with
 | nil=>rfl
 | mk uq xs =>
  have:(xs.map f).all (fun e=>e.length == sz)=true:=by simp [hf]
  simp only [Sl.pv,zO,this,if_true,Sl.xs,List.length_map]
end
@[simp low] theorem ztF (c:AV) (cs:List AV) (size off:Nat) (vs:List AV):uQ (.cells true (c::cs)) size off vs=if vs.length=size/\size≠0/\vs.all AV.one=true/\off+size<=(c::cs).length then some (.cells true ((c::cs).take off++vs++(c::cs).drop (off+size))) else none:=rfl
@[simp low] theorem zs6 (own:Bool) (c:AV) (cs:List AV) (size off:Nat):Gh (.cells own (c::cs)) size off=if off+size<=(c::cs).length then some (((c::cs).drop off).take size) else none:=rfl
@[simp] theorem zvk (k:IntKind) (n:Int):PV.one (.int k n)=true:=rfl
@[simp] theorem zuR (b:Bool):PV.one (.bool b)=true:=rfl
@[simp] theorem zvt (b:ByteArray):PV.one (.str b)=true:=rfl
@[simp] theorem zvv (k:IntKind) (n:Int):AV.one (.pure (.int k n))=true:=rfl
@[simp] theorem zu4 (b:Bool):AV.one (.pure (.bool b))=true:=rfl
@[simp] theorem zv0 (b:ByteArray):AV.one (.pure (.str b))=true:=rfl
@[simp] theorem zuU:AV.one (.pure .nils)=true:=rfl
@[simp] theorem zuF:AV.one (.pure .mD)=true:=rfl
@[simp] theorem zuP:AV.one (.pure .mE)=true:=rfl
@[simp] theorem zuO (f:Nat) (c:List PV):AV.one (.pure (.func f c))=true:=rfl
@[simp] theorem zvD (i sz o n:Nat):AV.one (.row i sz o n)=true:=rfl
@[simp] theorem zvp (i o:Nat):AV.one (.box i o)=true:=rfl
@[simp] theorem zt0 (h:Bool) (sz:Nat) (es:List (List PV)):AV.one (.pure (.slice h sz es))=true:=rfl
@[simp] theorem zhF {H:Heap} {id:Nat} {o:aU} (h:id=H.nx):(H.alloc o).get id=o:=by subst h;exact NN
@[simp] theorem zsm {H:Heap} {id:Nat} {o:aU} (h:id < H.nx):(H.alloc o).get id=H.get id:=zg h
@[simp] theorem ztr {H:Heap} {id j:Nat} {o:aU} (h:id≠j):(H.set j o).get id=H.get id:=zf h
@[simp] theorem zvY:Heap.empty.nx=0:=by simp only [Heap.empty]
def QC (o:aU) (sz off len:Nat):Option (List AV×Nat):=match o with
 | .cells _ cs=>if off*sz+len*sz<=cs.length then some ((cs.drop (off*sz)).take (len*sz),len) else none
 | _=>none
@[simp] theorem ZP (H:Heap) (id sz off len:Nat):zO H sz (.row id sz off len)=QC (H.get id) sz off len:=by
 simp only [zO,QC,if_true]
 cases H.get id<;>rfl
@[simp] theorem zrw (own:Bool) (c:AV) (cs:List AV) (sz off len:Nat):QC (.cells own (c::cs)) sz off len=if off*sz+len*sz<=(c::cs).length then some (((c::cs).drop (off*sz)).take (len*sz),len) else none:=rfl
@[simp] def aI (n:Int):List PV:=[.int .i64 n]
@[simp] theorem zve {cl:Callee} {env:Env} {H:Heap} (off size:Nat) (g:Bool) (x:aa):step cl env H (.field off size g x)=if DV (x.eval env)=true/\off+size<=(x.eval env).cells.length then (rM g (((x.eval env).cells.drop off).take size)).map .val else none:=rfl
@[simp] theorem zuu (ps:List PV):DV (.pure (.agg ps))=true:=rfl
def WB (sz len:Nat) (g:Bool) (v i:AV):Option Eff:=match i with
 | .pure (.int _ n)=>if DV v=true/\0<=n/\n < len/\n.toNat*sz+sz<=v.cells.length then (rM g ((v.cells.drop (n.toNat*sz)).take sz)).map .val else none
 | _=>none
@[simp] theorem zv8 {cl:Callee} {env:Env} {H:Heap} (sz len:Nat) (g:Bool) (x i:aa):step cl env H (.index sz len g x i)=WB sz len g (x.eval env) (i.eval env):=by simp only [step,WB];rfl
@[simp] theorem zt4 (sz len:Nat) (g:Bool) (v:AV) (k:IntKind) (n:Int):WB sz len g v (.pure (.int k n))=if DV v=true/\0<=n/\n < len/\n.toNat*sz+sz<=v.cells.length then (rM g ((v.cells.drop (n.toNat*sz)).take sz)).map .val else none:=rfl
@[simp] theorem zt5 (f:Nat) (c:List PV):AV.cells (.pure (.func f c))=[.pure (.func f c)]:=rfl
@[simp] theorem zu0 (h:Bool) (c:List PV) (o:Nat):AV.cells (.pure (.ptr h c o))=[.pure (.ptr h c o)]:=rfl
@[simp] theorem zuZ (i o:Nat):AV.cells (.box i o)=[.box i o]:=rfl
theorem ze {H:Heap} {G:Prog} {n f:Nat} {ps caps:List PV} {r:PV} (hs:G.shared f=false) (h:zK G n f (ps++caps)=some r):zH (zu G n) H (.pure (.func f caps)) (ps.map .pure)=some (.val (.pure r)):=by
 have h1:zS (freeze H true qw) (ps.map .pure++caps.map .pure)=some (ps++caps,[]):=by rw [<- List.map_append];exact ZL true 11 _
 have h2:(zu G n).shared f=false:=hs;have h3:(zu G n).pure f (ps++caps)=some r:=h;simp only [zH,h2,Bool.false_eq_true,if_false,h1,h3,List.isEmpty_nil,Bool.true_or,if_true]
@[simp] theorem zt2 (cs:List AV):(iA cs).cells=cs:=by
 unfold iA
 split
 .rename_i ps h;have main:∀ (cs:List AV) (ps:List PV),qp cs=some ps->ps.map AV.pure=cs:=by
   intro cs
   induction cs with
   | nil=>intro ps h;simp [qp] at h;subst h;rfl
   | cons c cs ih =>
    intro ps h;unfold qp at h
    split at h
    .rename_i h0;cases h0
    .rename_i p vs' h0;simp only [List.cons.injEq] at h0;obtain ⟨rfl,rfl⟩:=h0;rw [Option.map_eq_some_iff] at h;obtain ⟨qs,hq,rfl⟩:=h;rw [List.map_cons,ih _ hq]
    .simp at h
  exact main _ _ h
 .rfl
def Tn (sz bytes:Nat) (zero:List PV) (l c:AV):Option Eff:=match l,c with
  | .pure (.int _ a),.pure (.int _ b) =>
   if 0<=a/\a=b/\a.toNat*sz<=zo/\a.toNat*bytes<=zo/\a.toNat<=zo then
    some (.new (.cells true ((List.replicate a.toNat (zero.map AV.pure)).flatten)) fun id=>.row id sz 0 a.toNat)
   else none
  | _,_=>none
@[simp] theorem zsx {cl:Callee} {env:Env} {H:Heap} (sz bytes:Nat) (zero:List PV) (l c:aa):step cl env H (.makeSlice sz bytes zero l c)=Tn sz bytes zero (l.eval env) (c.eval env):=by simp only [step,Tn];rfl
@[simp] theorem zpC {sz bytes:Nat} {zero:List PV} {k k':IntKind} {n:Nat} (h:n*sz<=zo/\n*bytes<=zo/\n<=zo):Tn sz bytes zero (.pure (.int k n)) (.pure (.int k' n))=some (.new (.cells true ((List.replicate n (zero.map AV.pure)).flatten)) fun id=>.row id sz 0 n):=by
 simp only [Tn];rw [if_pos ⟨by omega,by trivial,by simpa using h.1,by simpa using h.2.1,by simpa using h.2.2⟩];simp
@[simp] theorem zvH {d:wO} {k:IntKind} {a b:Int} (h:b≠0):iM .quo d (.pure (.int k a)) (.pure (.int k b))=some (.pure (.int k (k.wrap (a.tdiv b)))):=by simp [iM,BR,h]
@[simp] theorem zv9 {d:wO} {k:IntKind} {a b:Int} (h:b≠0):iM .rem d (.pure (.int k a)) (.pure (.int k b))=some (.pure (.int k (a.tmod b))):=by simp [iM,BR,h]
def J9 (n dflt:Nat):Option AV->Option Nat
 | none=>some dflt
 | some (.pure (.int _ i))=>Bq i n
 | some _=>none
theorem zsg (env:Env) (n dflt:Nat) (o:Option aa):bound env n dflt o=J9 n dflt (o.map (·.eval env)):=by
 cases o with
 | none=>rfl
 | some x=>simp only [bound,Option.map_some,J9];cases x.eval env with
  | pure p=>cases p<;>rfl
  | _=>rfl
def Tq:aU->Bool
 | .cells _ _=>true
 | _=>false
@[simp] theorem zso (own:Bool) (cs:List AV):Tq (.cells own cs)=true:=rfl
def WC (H:Heap) (sz:Nat) (v:AV) (lo hi:Option AV):Option Eff:=match v with
  | .pure .nils=>match J9 0 0 hi with
   | some _=>match J9 0 0 lo with
    | some _=>some (.val (.pure .nils))
    | none=>none
   | none=>none
  | .pure (.slice k s es)=>if s=sz then match J9 es.length es.length hi with
   | some h=>match J9 h 0 lo with
    | some l=>some (.val (.pure (.slice k sz ((es.take h).drop l))))
    | none=>none
   | none=>none else none
  | .row id s off len=>if s=sz then match Lu H id sz off len with
   | some N=>match J9 N len hi with
    | some h=>match J9 h 0 lo with
     | some l=>some (.val (if l≠0/\h=l then .pure (.slice false sz []) else .row id sz (off+l) (h - l)))
     | none=>none
    | none=>none
   | none=>none else none
  | _=>none
@[simp] theorem zvq {cl:Callee} {env:Env} {H:Heap} (sz:Nat) (x:aa) (lo hi:Option aa):step cl env H (.slice sz x lo hi)=WC H sz (x.eval env) (lo.map (·.eval env)) (hi.map (·.eval env)):=by
 simp only [step,WC,zsg];rfl
theorem zqp {i n:Nat} (h:i<=n):Bq (i:Int) n=some i:=by
 simp only [Bq];rw [if_pos (by omega)];simp
section
variable {H:Heap} {id sz off len i j:Nat} {k k':IntKind}
theorem zlw (h:Tq (H.get id)=true):∃ N,Lu H id sz off len=some N/\len<=N:=by
 unfold Lu
 cases hg:H.get id with
 | cells own cs=>exact ⟨_,rfl,Nat.le_max_left _ _⟩
 | _=>rw [hg] at h;simp [Tq] at h
@[simp] theorem zju (h:Tq (H.get id)=true) (hi:i<=len):WC H sz (.row id sz off len) (some (.pure (.int k i))) none=some (.val (if i≠0/\len=i then .pure (.slice false sz []) else .row id sz (off+i) (len - i))):=by
 obtain ⟨N,hN,_⟩:=zlw (sz:=sz) (off:=off) (len:=len) h;simp only [WC,if_true,hN,J9,zqp hi]
end
section
variable {α:Type} {H:Heap} {f:α->List PV} {sz:Nat} {s:Sl α} {i j:Nat} {k k':IntKind}
def Sl.sub (s:Sl α) (i j:Nat):Sl α:=match s with
 | .nil=>.nil
 | .mk h xs=>.mk h ((xs.take j).drop i)
end
def Ko:aV->List Nat
 | .region _ ops=>EZ ops
 | .seq a b|.cond _ a b=>Ko a++Ko b
 | .block _ c|.loop c=>Ko c
 | _=>[]
def Oy (ds:List (Nat×Nat)) (t:Nat):Bool:=ds.any fun p=>Nat.ble p.1 t&&Nat.ble t p.2
def WE (ds:List (Nat×Nat)) (Kq env:Env):Env:=fun t=>if Oy ds t=true then env t else Kq t
section
variable {cl:Callee} {Q:fZ->Env->Heap->Prop}
theorem zhX {t:Nat} {f:Env->Heap->Out} (hf:∀ env H x env' H',f env H=some (x,env',H')->env' t=env t):∀ {m env H x env' H'},iter f m env H=some (x,env',H')->env' t=env t
 | 0,env,H,x,env',H',h=>by simp [iter] at h
 | m+1,env,H,x,env',H',h=>by
  unfold iter at h
  split at h
  .rename_i e1 h1 hr;exact (zhX hf h).trans (hf _ _ _ _ _ hr)
  .exact hf _ _ _ _ _ h
theorem Jk {t:Nat}:∀ {c:aV},(Ko c).contains t=false->∀ {env H x env' H'},exec cl c env H=some (x,env',H')->env' t=env t
 | .skip,_,env,H,x,env',H',h=>by simp [exec] at h;obtain ⟨_,rfl,_⟩:=h;rfl
 | .exit _,_,env,H,x,env',H',h=>by simp [exec] at h;obtain ⟨_,rfl,_⟩:=h;rfl
 | .ret,_,env,H,x,env',H',h=>by simp [exec] at h;obtain ⟨_,rfl,_⟩:=h;rfl
 | .region pre ops,ht,env,H,x,env',H',h=>by
  simp only [exec] at h
  split at h
  .rename_i e1 h1 hr;simp at h;obtain ⟨_,rfl,_⟩:=h;exact ZG hr t ht
  .simp at h
 | .seq a b,ht,env,H,x,env',H',h=>by
  simp [Ko] at ht;simp only [exec] at h
  split at h
  .rename_i e1 h1 hr;exact (Jk (by simpa using ht.2) h).trans (Jk (by simpa using ht.1) hr)
  .exact Jk (by simpa using ht.1) h
 | .cond c a b,ht,env,H,x,env',H',h=>by
  simp [Ko] at ht;simp only [exec] at h
  split at h
  .split at h
   .exact Jk (by simpa using ht.1) h
   .exact Jk (by simpa using ht.2) h
  .simp at h
 | .block id c,ht,env,H,x,env',H',h=>by
  simp only [exec] at h
  split at h
  .rename_i i e1 h1 hr
   split at h
   .simp at h;obtain ⟨_,rfl,_⟩:=h;exact Jk (c:=c) ht hr
   .simp at h;obtain ⟨_,rfl,_⟩:=h;exact Jk (c:=c) ht hr
  .exact Jk (c:=c) ht h
 | .loop c,ht,env,H,x,env',H',h=>by
  simp only [exec] at h;exact zhX (fun env H x env' H' h=>Jk (c:=c) ht h) h
 | .rangeFunc f ps as b,ht,env,H,x,env',H',h=>by
  simp only [exec] at h
  split at h
  .split at h
   .split at h
    .split at h
     .simp at h
     .simp at h;obtain ⟨_,rfl,_⟩:=h;rfl
    .simp at h
   .simp at h
  .split at h
   .split at h
    .split at h
     .simp at h
     .simp at h;obtain ⟨_,rfl,_⟩:=h;rfl
    .simp at h
   .simp at h
  .simp at h
theorem zL {env:Env} {H:Heap} {c:aV} {σ:Type} (ds:List (Nat×Nat)) (I:σ->Env->Heap->Prop) (m:σ->Nat) (s:σ) (RU:(Ko c).all (Oy ds)=true) (h0:I s env H) (hm:m s < zF)
  (hb:∀ s env' H,I s env' H->wp cl c (WE ds env env') H (Tc (fun e h=>∃ s',m s' < m s/\I s' e h) Q) .mk) {u}:wp cl (.loop c) env H Q u:=by
 refine zsP (fun s e h=>I s e h/\∀ t,Oy ds t=false->e t=env t) m s ⟨h0,fun _ _=>rfl⟩ hm ?_
 rintro s e h ⟨hI,qE⟩;have he:WE ds env e=e:=by
  funext t
  simp only [WE]
  split
  .rfl
  .rename_i ht;exact (qE t (by simpa using ht)).symm
 have:=hb s e h hI;rw [he] at this;obtain ⟨x,e',h',h1,h2⟩:=this
 refine ⟨x,e',h',h1,?_⟩
 cases x with
 | normal =>
  obtain ⟨s',oC,ZH⟩:=h2
  refine ⟨s',oC,ZH,fun t ht=>?_⟩
  have hn:(Ko c).contains t=false:=by
   rw [List.all_eq_true] at RU
   cases hc:(Ko c).contains t with
   | false=>rfl
   | true =>
    have:=RU t (by simpa using hc);rw [ht] at this;exact absurd this (by simp)
  exact (Jk hn h1).trans (qE t ht)
 | exit i=>exact h2
 | ret=>exact h2
end
theorem zln (ds:List (Nat×Nat)) (Kq env:Env) (t:Nat):WE ds Kq env t=if Oy ds t=true then env t else Kq t:=rfl
@[simp] theorem zwr (t:Nat):Oy [] t=false:=rfl
@[simp] theorem zv4 (a b:Nat) (ds:List (Nat×Nat)) (t:Nat):Oy ((a,b)::ds) t=(Nat.ble a t&&Nat.ble t b||Oy ds t):=rfl
attribute [simp] zln
def FrzK (H:Heap) (k:Bool) (n:Nat) (v:AV) (p:PV):Prop:=∃ ids,freeze H k n v=some (p,ids)
def FrzL (H:Heap) (k:Bool) (n:Nat) (vs:List AV) (ps:List PV):Prop:=∃ ids,zS (freeze H k n) vs=some (ps,ids)
section
variable {H:Heap} {k:Bool} {n:Nat}
theorem FrzK.pure (p:PV):FrzK H k (n+1) (.pure p) p:=⟨[],rfl⟩
theorem FrzL.nil:FrzL H k n [] []:=⟨[],rfl⟩
theorem FrzL.cons {v:AV} {p:PV} {vs:List AV} {ps:List PV} (h:FrzK H k n v p) (hs:FrzL H k n vs ps):FrzL H k n (v::vs) (p::ps):=by
 obtain ⟨i,hi⟩:=h;obtain ⟨j,hj⟩:=hs;exact ⟨i++j,by simp only [zS,hi,hj]⟩
theorem FrzK.aQ {vs:List AV} {ps:List PV} (h:FrzL H k n vs ps):FrzK H k (n+1) (.aQ vs) (.aQ ps):=by
 obtain ⟨i,hi⟩:=h;exact ⟨i,by simp only [freeze,hi]⟩
theorem FrzK.agg {vs:List AV} {ps:List PV} (h:FrzL H k n vs ps):FrzK H k (n+1) (.agg vs) (.agg ps):=by
 obtain ⟨i,hi⟩:=h;exact ⟨i,by simp only [freeze,hi]⟩
theorem FrzL.pK:∀ (ps:List PV),FrzL H k (n+1) (ps.map .pure) ps
 | []=>.nil
 | p::ps=>.cons (.pure p) (FrzL.pK ps)
theorem FrzK.iA {vs:List AV} {ps:List PV} (h:FrzL H k n vs ps):FrzK H k (n+1) (iA vs) (.agg ps):=by
 unfold Vm.iA
 split
 .rename_i qs hq;have:ps=qs:=by
   have main:∀ (vs:List AV) (ps qs:List PV),qp vs=some qs->FrzL H k n vs ps->ps=qs:=by
    intro vs
    induction vs with
    | nil=>intro ps qs h1 h2;simp [qp] at h1;obtain ⟨i,hi⟩:=h2;simp [zS] at hi;rw [h1,hi.1]
    | cons v vs ih =>
     intro ps qs h1 h2;unfold qp at h1
     split at h1
     .rename_i h0;cases h0
     .rename_i p vs' h0;simp only [List.cons.injEq] at h0;obtain ⟨rfl,rfl⟩:=h0;rw [Option.map_eq_some_iff] at h1;obtain ⟨qs',Qn,rfl⟩:=h1;obtain ⟨i,hi⟩:=h2
      cases n with
      | zero=>simp [zS,freeze] at hi
      | succ n =>
       simp only [zS,freeze] at hi
       split at hi
       .simp at hi
       .rename_i ps' js vD;simp only [Option.some.injEq,Prod.mk.injEq] at hi;obtain ⟨rfl,_⟩:=hi;rw [ih _ _ Qn ⟨js,vD⟩]
     .simp at h1
   exact main vs ps qs hq h
  subst this;exact .pure _
 .exact .agg h
end
def QD:Option (List AV)->Option AV
 | some [v]=>some v
 | some vs=>some (.aQ vs)
 | none=>none
theorem zil (env:Env) (H:Heap) (rs:List mK):results env H rs=QD (DW env H rs):=by
 unfold results QD
 cases DW env H rs with
 | none=>rfl
 | some l=>match l with
  | []=>rfl
  | [v]=>rfl
  | a::b::l=>rfl
@[simp] theorem zuH (v:AV):QD (some [v])=some v:=rfl
@[simp] theorem zuM:QD (some [])=some (.aQ []):=rfl
@[simp] theorem zuW (a b:AV) (l:List AV):QD (some (a::b::l))=some (.aQ (a::b::l)):=rfl
@[simp] theorem zmQ (env:Env) (H:Heap):DW env H []=some []:=rfl
@[simp] theorem zkV (env:Env) (H:Heap) (r:mK) (rs:List mK):DW env H (r::rs)=(JL env H r).bind fun v=>(DW env H rs).map (v :: ·):=by
 simp only [DW]
 cases JL env H r with
 | none=>rfl
 | some v=>cases DW env H rs<;>rfl
@[simp] theorem ztL (env:Env) (H:Heap) (t:Nat):JL env H (.tmp t)=some (env t):=rfl
@[simp] theorem zkJ (env:Env) (H:Heap) (t size:Nat) (g:Bool):JL env H (.cell t size g)=(zY H size (env t)).bind (rM g):=by
 simp only [JL]
 cases zY H size (env t)<;>rfl
@[simp] theorem zsp (env:Env) (H:Heap) (a b:mK) (rs:List mK):results env H (a::b::rs)=QD (DW env H (a::b::rs)):=zil ..
@[simp] theorem zte (env:Env) (H:Heap) (t size:Nat) (g:Bool):results env H [.cell t size g]=(zY H size (env t)).bind (rM g):=by
 rw [zil];simp only [zkV,zmQ,zkJ]
 cases (zY H size (env t)).bind (rM g)<;>rfl
@[simp] theorem zsI (env:Env) (H:Heap):results env H []=some (.aQ []):=rfl
def Names (v:AV) (id:Nat):Prop:=∃ sz o n,v=.row id sz o n
section
variable {α:Type} {f:α->List PV} {sz:Nat} {H:Heap} {v:AV} {l:List α}
theorem bL.names_lt (h:bL f sz H v l) {id:Nat} (hn:Names v id):id < H.nx:=by
 rcases h with ⟨_,rfl⟩|⟨i,rfl,hg⟩
 .obtain ⟨_,_,_,h⟩:=hn;simp at h
 .obtain ⟨_,_,_,h⟩:=hn;simp at h;obtain ⟨rfl,_⟩:=h;exact zx hg
theorem bL.fresh (h:bL f sz H v l):∀ id,H.nx<=id->¬ Names v id:=fun id hl hn=>by have:=h.names_lt hn;omega
theorem bL.len (h:bL f sz H v l):Jj v=some (.val (.pure (.int .i64 l.length))):=by
 rcases h with ⟨rfl,rfl⟩|⟨id,rfl,_⟩<;>rfl
theorem bL.frz {k:Bool} {n:Nat} (h:bL f sz H v l) (hf:∀ a,(f a).length=sz):FrzK H k (n+2) v ((match l with|[]=>Sl.nil|_=>.mk k l).pv f sz)\/(l=[]/\FrzK H k (n+2) v (.slice k sz [])):=by
 rcases h with ⟨rfl,rfl⟩|⟨id,rfl,hg⟩
 .exact .inl (.pure _)
 .have pU:∀ l:List α,chunks sz l.length ((l.map f).flatten)=l.map f:=by
   intro l
   induction l with
   | nil=>rfl
   | cons a l ih =>
    simp only [List.length_cons,chunks,List.map_cons,List.flatten_cons];rw [List.take_left' (hf a),List.drop_left' (hf a),ih]
  have hlen:((l.map f).flatten).length=l.length*sz:=by
   have:=BB hf l
   simpa [zq,List.map_flatten,Function.comp_def] using this
  have hp:zq f l=((l.map f).flatten).map .pure:=by simp [zq,List.map_flatten,Function.comp_def]
  have key:FrzK H k (n+2) (.row id sz 0 l.length) (.slice k sz (l.map f)):=by
   refine ⟨[id],?_⟩
   have h1:((zq f l).drop (0*sz)).take (l.length*sz)=((l.map f).flatten).map .pure:=by
    rw [Nat.zero_mul,List.drop_zero,hp];exact List.take_of_length_le (by rw [List.length_map,hlen];exact Nat.le_refl _)
   obtain ⟨ids,jk⟩:=FrzL.pK (H:=H) (k:=k) (n:=n) ((l.map f).flatten);have HZ:zS (freeze H k (n+1)) (((l.map f).flatten).map .pure)=some ((l.map f).flatten,[]):=by
    clear jk;generalize (l.map f).flatten=q
    induction q with
    | nil=>rfl
    | cons p ps ih=>rw [List.map_cons,zS,ih];rfl
   unfold freeze;simp only [hg,h1,HZ,hlen,if_true,pU]
  cases l with
  | nil=>exact .inr ⟨rfl,key⟩
  | cons a l=>exact .inl key
def aD {α:Type} (f:α->List PV) (sz:Nat) (H:Heap) (v:AV) (l:List α):Prop:=bL f sz H v l/\(l=[]->v=.pure .nils)
theorem aD.nil:aD f sz H (.pure .nils) ([]:List α):=⟨bL.nil,fun _=>rfl⟩
theorem aD.cast {m:List α} (h:aD f sz H v l) (e:l=m):aD f sz H v m:=e ▸ h
theorem aD.alloc (h:aD f sz H v l) (o:aU):aD f sz (H.alloc o) v l:=⟨h.1.alloc o,h.2⟩
theorem aD.set {id:Nat} (h:aD f sz H v l) (hn:¬ Names v id) (o:aU):aD f sz (H.set id o) v l:=by
 refine ⟨h.1.keep fun i ⟨n,hi⟩=>?_,h.2⟩
 exact zf fun e=>hn ⟨sz,0,n,by rw [hi,e]⟩
theorem bL.row (h:bL f sz H v l) (hl:l≠[]):∃ id,v=.row id sz 0 l.length/\H.get id=.cells true (zq f l):=by
 rcases h with ⟨h,_⟩|h
 .exact absurd h hl
 .exact h
theorem ZQ (hf:∀ a,(f a).length=sz) {i:Nat} (hi:i < l.length):∃ p q,zq f l=p++(f l[i]).map .pure++q/\p.length=i*sz:=by
 refine ⟨zq f (l.take i),zq f (l.drop (i+1)),?_,?_⟩
 .rw [<- Tj,<- Ep,<- Ep]
  congr 1
  rw [List.append_assoc,List.singleton_append,<- List.drop_eq_getElem_cons hi,List.take_append_drop]
 .rw [BB hf,List.length_take,Nat.min_eq_left (by omega)]
theorem ZR {own:Bool} (hf:∀ a,(f a).length=sz) {i:Nat} (hi:i < l.length) {off size:Nat} (ho:off+size<=sz):Gh (.cells own (zq f l)) size (i*sz+off)=some ((((f l[i]).drop off).take size).map .pure):=by
 obtain ⟨p,q,h1,h2⟩:=ZQ hf hi;simp only [Gh];rw [h1,List.append_assoc];have h3:(List.map AV.pure (f l[i])).length=sz:=by rw [List.length_map,hf]
 rw [if_pos (by rw [List.length_append,List.length_append,h2,h3];omega)];rw [<- h2,List.drop_append,List.drop_of_length_le (by omega)];have:p.length+off - p.length=off:=by omega
 rw [this,List.nil_append,List.drop_append_of_le_length (by omega),List.take_append_of_le_length (by rw [List.length_drop];omega),List.map_take,List.map_drop]
@[simp] theorem znA {own:Bool} {i size:Nat} (hf:∀ a,(f a).length=sz) (hi:i < l.length) (ho:size<=sz):Gh (.cells own (zq f l)) size (i*sz)=some (((f l[i]).take size).map .pure):=by
 have:=ZR (own:=own) hf hi (off:=0) (size:=size) (by omega)
 simpa using this
@[simp] theorem zC {own:Bool} {i size off:Nat} (hf:∀ a,(f a).length=sz) (hi:i < l.length) (ho:off+size<=sz):Gh (.cells own (zq f l)) size (i*sz+off)=some ((((f l[i]).drop off).take size).map .pure):=ZR hf hi ho
@[simp] theorem QE {own:Bool} {i:Nat} (hf:∀ a,(f a).length=1) (hi:i < l.length):Gh (.cells own (zq f l)) 1 i=some ((f l[i]).map .pure):=by
 have:=ZR (own:=own) hf hi (off:=0) (size:=1) (by omega);rw [Nat.mul_one,Nat.add_zero,List.drop_zero,List.take_of_length_le (by rw [hf];exact Nat.le_refl 1)] at this;exact this
theorem zjC (hf:∀ a,(f a).length=sz) {i:Nat} (hi:i < l.length) (a:α):(zq f l).take (i*sz)++(f a).map .pure++(zq f l).drop (i*sz+sz)=zq f (l.set i a):=by
 obtain ⟨p,q,h1,h2⟩:=ZQ hf hi;have h3:(List.map AV.pure (f l[i])).length=sz:=by rw [List.length_map,hf]
 have h4:zq f (l.take i)=p:=by
  have e1:zq f (l.take i)++((f l[i]).map .pure++zq f (l.drop (i+1)))=p++((f l[i]).map .pure++q):=by
   rw [<- List.append_assoc,<- List.append_assoc,<- h1,<- Tj,<- Ep,<- Ep]
   congr 1
   rw [List.append_assoc,List.singleton_append,<- List.drop_eq_getElem_cons hi,List.take_append_drop]
  have e2:(zq f (l.take i)).length=p.length:=by rw [BB hf,h2,List.length_take,Nat.min_eq_left (by omega)]
  exact (List.append_inj e1 e2).1
 have h5:zq f (l.drop (i+1))=q:=by
  have e1:zq f (l.take i)++((f l[i]).map .pure++zq f (l.drop (i+1)))=p++((f l[i]).map .pure++q):=by
   rw [<- List.append_assoc,<- List.append_assoc,<- h1,<- Tj,<- Ep,<- Ep]
   congr 1
   rw [List.append_assoc,List.singleton_append,<- List.drop_eq_getElem_cons hi,List.take_append_drop]
  rw [h4] at e1;exact List.append_cancel_left (List.append_cancel_left e1)
 rw [h1,List.append_assoc p,List.take_left' h2,<- h2,List.drop_append,List.drop_of_length_le (by omega),List.nil_append];have h6:p.length+sz - p.length=sz:=by omega
 rw [h6,List.drop_left' h3,<- h4,<- h5,List.set_eq_take_append_cons_drop,if_pos hi,Ep,List.append_assoc]
 congr 1
theorem H7 {a:α} (hf:∀ a,(f a).length=sz) (bG:∀ a,(f a).all PV.one=true) (h0:0 < sz) {i:Nat} (h:i < l.length):uQ (.cells true (zq f l)) sz (i*sz) ((f a).map .pure)=some (.cells true (zq f (l.set i a))):=by
 simp only [uQ];have hle:i*sz+sz<=(zq f l).length:=by
  rw [BB hf,<- Nat.succ_mul];exact Nat.mul_le_mul_right sz h
 rw [if_pos ⟨by rw [List.length_map,hf],by omega,Tm _ (bG a),hle⟩,zjC hf h]
theorem aD.nz (h:aD f sz H v l) (o o':aU):aD f sz ((H.alloc o).set H.nx o') v l:=(h.alloc o).set (h.1.fresh _ (Nat.le_refl _)) o'
theorem aD.frz {k:Bool} {n:Nat} (h:aD f sz H v l) (hf:∀ a,(f a).length=sz):FrzK H k (n+2) v ((match l with|[]=>Sl.nil|_=>.mk k l).pv f sz):=by
 rcases h.1.frz (k:=k) (n:=n) hf with h1|⟨rfl,h1⟩
 .exact h1
 .rw [h.2 rfl];exact .pure _
theorem aD.res {n:Nat} (h:aD f sz H v l) (hf:∀ a,(f a).length=sz):FrzK H false (n+2) v ((Sl.of l).pv f sz):=by
 have:=h.frz (k:=false) (n:=n) hf
 cases l<;>exact this
def Tt {α:Type} (f:α->List PV) (cs:List AV) (P:α->Prop) (_:Tag P):Prop:=∃ a,cs=(f a).map .pure/\P a
def appG {α:Type} (f:α->List PV) (r:Option (List AV×Nat)) (P:α->Prop) (_:Tag P):Prop:=∃ a,r=some ((f a).map .pure,1)/\P a
@[simp] theorem zuN (f:α->List PV) (cs:List AV) (P:α->Prop) {u}:appG f (some (cs,1)) P u↔Tt f cs P .mk:=by
 simp [appG,Tt]
@[simp] theorem zwf (x:Int) (P:Int->Prop) {u}:Tt aI [.pure (.int .i64 x)] P u↔P x:=by
 simp [Tt,aI]
structure After (v:AV) (H:Heap) (v':AV) (H':Heap):Prop where
 nx:H.nx<=H'.nx
 get:∀ id,id < H.nx->¬ Names v id->H'.get id=H.get id
 new:∀ id,Names v' id->H.nx<=id
theorem After.grow {v':AV} {H':Heap} {β:Type} {g:β->List PV} {sz':Nat} {w:AV} {m:List β} (ha:After v H v' H') (h:aD g sz' H w m) (hd:∀ id,Names w id->¬ Names v id):aD g sz' H' w m/\∀ id,Names w id->¬ Names v' id:=by
 refine ⟨⟨h.1.keep fun i ⟨n,hi⟩=>?_,h.2⟩,fun id hw hv=>?_⟩
 .exact ha.get i (h.1.names_lt ⟨_,_,_,hi⟩) (hd i ⟨_,_,_,hi⟩)
 .have:=ha.new id hv;have:=h.1.names_lt hw;omega
theorem bL.one (h:bL f sz H v l):AV.one v=true/\AV.cells v=[v]:=by
 rcases h with ⟨_,rfl⟩|⟨id,rfl,_⟩<;>exact ⟨rfl,rfl⟩
theorem zt {P:AV->Heap->Prop} (h:∀ v' H',aD f sz H' v' l->H.nx<=H'.nx->(∀ id,id < H.nx->¬ Names v id->H'.get id=H.get id)->(∀ id,Names v' id->H.nx<=id)->AV.one v'=true->AV.cells v'=[v']->P v' H'):∀ v' H',aD f sz H' v' l->After v H v' H'->P v' H' :=
 fun v' H' h1 h2=>h v' H' h1 h2.nx h2.get h2.new h1.1.one.1 h1.1.one.2
theorem H8 {bytes:Nat} {b:AV} {k:AV->Heap->Prop} {u} (hv:aD f sz H v l) (hf:∀ a,(f a).length=sz) (h0:0 < sz) (bG:∀ a,(f a).all PV.one=true)
  (hm:(l.length+1)*sz<=zo/\(l.length+1)*bytes<=zo)
  (hk:appG f (zO H sz b) (fun a=>∀ v' H',aD f sz H' v' (l++[a])->After v H v' H'->k v' H') .mk):wpE 0 (zm H sz bytes v b) H k u:=by
 obtain ⟨a,hb,hk⟩:=hk;have ho:=Tm _ (bG a);rcases hv.1 with ⟨rfl,rfl⟩|⟨i,rfl,hg⟩
 .have h5:zm H sz bytes (.pure .nils) b=some (.new (.cells true ((f a).map .pure)) fun id=>.row id sz 0 1):=by
   simp only [zm,hb,ho];have h1:1*sz<=zo/\1*bytes<=zo:=by simpa using hm
   simp only [Bool.not_true,Bool.false_eq_true,if_false];rw [if_neg (by simp),if_pos h1]
  rw [h5,QB]
  refine hk _ _ ⟨.inr ⟨H.nx,rfl,?_⟩,fun h=>by simp at h⟩ ⟨Nat.le_succ _,fun id hl _=>zg hl,fun id ⟨_,_,_,h⟩=>?_⟩
  .rw [CQ];simp [zq]
  .simp at h;omega
 .have hlen:=BB hf l;have uN:¬ (0*sz+(l.length+1)*sz<=(zq f l).length):=by rw [hlen,Nat.add_mul];omega
  have h5:zm H sz bytes (.row i sz 0 l.length) b=some (.upd (.row H.nx sz 0 (l.length+1)) ((H.set i .dead).alloc (.cells true (zq f l++(f a).map .pure)))):=by
   simp only [zm,hb,ho,hg];simp only [Bool.not_true,Bool.false_eq_true,if_false,if_true];rw [if_neg uN];simp only [true_and];rw [if_pos ⟨hlen.symm,hm⟩]
  rw [h5,J6]
  refine hk _ _ ⟨.inr ⟨H.nx,by simp,?_⟩,fun h=>by simp at h⟩ ⟨Nat.le_succ _,fun id hl hn=>?_,fun id ⟨_,_,_,h⟩=>?_⟩
  .have:(H.set i .dead).nx=H.nx:=rfl;rw [<- this,CQ,Ep,Tj]
  .rw [zg (by exact hl),zf];intro e;subst e;exact hn ⟨_,_,_,rfl⟩
  .simp at h;omega
theorem zA {bytes:Nat} {b:AV} {k:AV->Heap->Prop} {u}
  (hk:appG f (zO H sz b) (fun a=>∀ v' H',aD f sz H' v' (l++[a])->After v H v' H'->k v' H') .mk)
  (hv:aD f sz H v l:=by (first|assumption|(repeat' first|assumption|with_reducible apply aD.nz|with_reducible apply aD.alloc|with_reducible apply aD.set|(with_reducible show ¬ Names _ _;simp [*];done)))) (hf:∀ a,(f a).length=sz:=by exact fun _=>rfl) (h0:0 < sz:=by decide) (bG:∀ a,(f a).all PV.one=true:=by (intro a;first|rfl|simp))
  (hm:(l.length+1)*sz<=zo/\(l.length+1)*bytes<=zo:=by (simp [zo]<;>omega)):wpE 0 (zm H sz bytes v b) H k u :=
 H8 hv hf h0 bG hm hk
end
end Go.Proofs.YtmmhnfghklppiaaGreat.Vm
