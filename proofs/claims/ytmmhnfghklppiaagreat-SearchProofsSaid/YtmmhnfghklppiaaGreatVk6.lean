/- Each operation of the machine does what the model's operation does: texts and bytes, make, append, clear, the comparison of structs of numbers. Each operation of the machine does what the model's operation does: texts and bytes, make, clear, structs of numbers compared. Each operation of the machine does what the model's operation does: make, clear, structs of numbers compared. -/
import Derived.Test.YtmmhnfghklppiaaGreatVk5
import Derived.Laws.Append
namespace Go.Proofs.YtmmhnfghklppiaaGreat.Vm
open Go Go.RowKit
set_option linter.unusedVariables false
set_option linter.unusedSimpArgs false
section
variable {C:iT} {P:Program} {S:Bool->Nat->Prop} {base:Nat} {φ:iX} {H:Heap} {w:World} {env:Env} {a:Act} {e:Eff} {o:Oper} {I:Bool->Nat->Prop}
theorem VR {α:Type} {sz:Nat}:∀ {es:List (List α)},(∀ e∈es,e.length=sz)->∀ {j:Nat} {p:α},es.flatten[j]?=some p->0 < sz->∃ e,es[j / sz]?=some e/\e[j % sz]?=some p
 | [],_,j,p,h,_=>by simp at h
 | e::es,hz,j,p,h,h0=>by
  rw [List.flatten_cons] at h;have he:=hz e (List.mem_cons_self ..)
  by_cases hj:j < sz
  .rw [List.getElem?_append_left (by omega)] at h;exact ⟨e,by rw [Nat.div_eq_of_lt hj];rfl,by rw [Nat.mod_eq_of_lt hj];exact h⟩
  .rw [List.getElem?_append_right (by omega),he] at h;obtain ⟨e',h1,h2⟩:=VR (fun x hx=>hz x (List.mem_cons_of_mem _ hx)) h h0
   refine ⟨e',?_,?_⟩
   .have:j / sz=(j - sz) / sz+1:=by
     rw [show j=(j - sz)+sz by omega,Nat.add_div_right _ h0];simp
    rw [this]
    simpa using h1
   .rw [Nat.mod_eq_sub_mod (by omega)];exact h2
theorem zeP {α:Type} {sz:Nat}:∀ {es:List (List α)},(∀ e∈es,e.length=sz)->es.flatten.length=es.length*sz
 | [],_=>by simp
 | e::es,hz=>by
  rw [List.flatten_cons,List.length_append,hz e (List.mem_cons_self ..),zeP fun x hx=>hz x (List.mem_cons_of_mem _ hx),List.length_cons,Nat.add_mul];omega
theorem VS (hH:aN C S base φ H w) {sz m:Nat} {av:AV} {v:Value} {cs:List AV} (h0:0 < sz) (hv:aA (aQ S base φ H w) φ w av v) (h:zH H sz av=some (cs,m)) :
  ∃ ad cap vs,v=.slice ad m cap/\az (aQ S base φ H w) φ w cs vs/\cs.length=m*sz/\(ad=none->m=0)/\∀ a,ad=some a->∀ (j:Nat) u,vs[j]?=some u->w.cell? (a.add j)=some u:=by
 unfold zH at h
 split at h
 .simp at h;obtain ⟨rfl,rfl⟩:=h;exact ⟨none,0,[],hv.au.iG,.nil,by simp,(fun _=>rfl),(fun a ha=>by cases ha)⟩
 .rename_i s es
  split at h
  .rename_i bM;simp only [Option.some.injEq,Prod.mk.injEq] at h;obtain ⟨rfl,rfl⟩:=h;obtain ⟨b,q,cap,val,f1,f2,f3,f4,f5⟩:=hv.au.jl;have hz:∀ e∈es,e.length=sz:=fun e he=>by
    have:=List.all_eq_true.1 bM e he
    simpa using this
   -- the sizes agree where there is an element
   have hs:∀ (i:Nat) e,es[i]?=some e->s=sz:=fun i e he=>(f3 i e he).symm.trans (hz e (List.mem_of_getElem? he));have hlen:=zeP hz
   refine ⟨some ⟨b,q,none⟩,cap,(List.range (es.length*sz)).map fun j=>val (j / sz) (j % sz),f1,⟨by rw [List.length_map,hlen];simp,fun i p u hp hu=>?_⟩,by rw [List.length_map,hlen],⟨(fun h=>by cases h),fun a ha j u hu=>?_⟩⟩
   .rw [List.getElem?_map] at hp
    cases hq:es.flatten[i]? with
    | none=>rw [hq] at hp;simp at hp
    | some p' =>
     rw [hq] at hp;simp at hp;subst hp;obtain ⟨e,g1,g2⟩:=VR hz hq h0;have hi:i < es.length*sz:=by have:=(List.getElem?_eq_some_iff.1 hu).1;simpa using this
     simp [hi] at hu;subst hu;exact .pure _ _ (f5 _ _ _ _ g1 g2)
   .have hi:j < es.length*sz:=by have:=(List.getElem?_eq_some_iff.1 hu).1;simpa using this
    simp [hi] at hu;subst hu;simp at ha;subst ha;have hq:es.flatten[j]?=some (es.flatten[j]'(by omega)):=List.getElem?_eq_getElem (by omega);obtain ⟨e,g1,g2⟩:=VR hz hq h0;rw [BA];have:=(f4 _ _ _ _ g1 g2).2;rw [hs _ _ g1] at this;rw [<- this]
    congr 2
    have:=Nat.div_add_mod j sz;rw [Nat.mul_comm] at this;omega
  .simp at h
 .rename_i id s off len
  split at h
  .rename_i qd;subst qd
   split at h
   .rename_i own ds hg
    split at h
    .rename_i hle;simp at h;obtain ⟨rfl,rfl⟩:=h;obtain ⟨b,n,cap,aj,f2,f3,f4⟩:=hv.iq;have ho:=hH.obj _ _ _ aj;rw [hg] at ho;obtain ⟨c,t,fz,h1,h2,h3,h4,h5⟩:=ho
     refine ⟨some ⟨b,off*s,none⟩,cap,(c.toList.drop (off*s)).take (len*s),f2,⟨by simp;omega,fun i p u hp hu=>?_⟩,by simp;omega,⟨(fun h=>by cases h),fun a ha j u hu=>?_⟩⟩
     .have hi:i < len*s:=by have:=(List.getElem?_eq_some_iff.1 hp).1;simp at this;omega
      rw [List.getElem?_take_of_lt hi,List.getElem?_drop] at hp hu;exact h5 _ _ _ hp (by simpa using hu)
     .have hi:j < len*s:=by have:=(List.getElem?_eq_some_iff.1 hu).1;simp at this;omega
      rw [List.getElem?_take_of_lt hi,List.getElem?_drop] at hu;simp at ha;subst ha;rw [BA];simp only [World.cell?,h1]
      simpa using hu
    .simp at h
   .simp at h
  .simp at h
 .simp at h
theorem PI {ad:Option Addr} {m cap size:Nat} {vs:List Value} (hl:vs.length=m*size) (hn:ad=none->m=0) (hc:∀ a,ad=some a->∀ (j:Nat) u,vs[j]?=some u->w.cell? (a.add j)=some u) :
  (Builtin.firstCells size m (.slice ad m cap)).run P w=.ok vs.toArray w:=by
 cases ad with
 | none =>
  have:=hn rfl;subst this;have:vs=[]:=List.eq_nil_of_length_eq_zero (by simpa using hl);subst this;rfl
 | some a =>
  simp only [Builtin.firstCells];rw [<- hl];exact run_loadCells_list (w:=w) a vs (hc a rfl)
theorem zpO {cs:List AV} {vs:List Value} (h:az I φ w cs vs) (h1:cs.all AV.one=true):∀ v∈vs,v.oneCell'=true:=fun v hv=>by
 obtain ⟨i,hi⟩:=List.getElem?_of_mem hv;have aU:i < cs.length:=by have:=(List.getElem?_eq_some_iff.1 hi).1;have:=h.1;omega
 exact (h.2 i _ _ (List.getElem?_eq_getElem aU) hi).one (List.all_eq_true.1 h1 _ (List.getElem_mem aU))
structure EB (P:Program) (t u:TypeId) (s b:Nat):Prop where
 ex:∃ e e':TypeId,P.underlying t=some (.slice e)/\P.underlying u=some (.slice e')/\zU P e=some s/\GZ P e=some b/\∃ z,vX P e=some z/\z.length=s
 pos:0 < s
 VT:0 < b
theorem TL {t u ty:TypeId} {s b:Nat} (hT:EB P t u s b) {x y:Value} {bs:Option Addr} {n cap m cap':Nat} {ad:Option Addr} {olds news:List Value} (hx:x=.slice bs n cap) (hy:y=.slice ad m cap') (hn:¬ n+m<=cap) (hncap:n<=cap)
  (mM:(n+m)*b<=140737488355328) (hold:(Builtin.firstCells s n x).run P w.drew=.ok olds.toArray w.drew) (aW:(Builtin.firstCells s m y).run P w.drew=.ok news.toArray w.drew)
  (Jv:olds.length=n*s) (wh:news.length=m*s) :
  ∃ (c:Array Value) (e:TypeId) (cp:Nat),(Builtin.append_ #[t,u] ty #[x,y]).run P w=.ok (.slice (some ⟨w.heap.size,0,none⟩) (n+m) cp) ((w.drew).alloc (.cells c e))/\n+m<=cp/\c.size=cp*s /\
   ∃ rest,c.toList=olds++news++rest:=by
 obtain ⟨e,e',ht,hu,hs,hb,z,hz,p9⟩:=hT.ex;have hi:∃ i,P.info? e=some i/\i.size=s/\i.bytes=b:=by
  unfold zU at hs;unfold GZ at hb
  cases hi:P.info? e with
  | none=>simp [hi] at hs
  | some i=>simp [hi] at hs hb;exact ⟨i,rfl,hs,hb⟩
 obtain ⟨i,hi,oh,K4⟩:=hi;obtain ⟨zv,TM,hzc,VU⟩:=KY (w:=w.drew) hz;have VV:zv.cells.size=s:=by
  have:=(Pq (I:=fun _ _=>True) (w:=w) hzc).1;simp at this;omega
 subst hx;subst hy;have wm:=growslice_fits (bytes:=b) (by omega:cap < n+m) mM;have oD:(Question.appendCap (n+m) cap e).forced=false:=rfl
 let cp:=(Question.appendCap (n+m) cap e).cut (w.tape w.drawn (.appendCap (n+m) cap e))
 have Jw:n+m<=cp:=by show n+m<=(n+m)+_;omega
 let rest:=Builtin.zeroCells zv.cells (cp - (n+m))
 have BB:rest.size=(cp - (n+m))*s:=by simp [rest,Builtin.zeroCells,VV]
 refine ⟨olds.toArray++news.toArray++rest,e,cp,?_,Jw,?_,rest.toList,by simp⟩
 .have fE:∀ w,(sizeOf e).run P w=.ok s w:=fun w=>zR hs;have xS:∀ w,(typeInfo e).run P w=.ok i w:=fun w=>NI hi;simp only [Builtin.append_,List.getElem?_toArray,List.getElem?_cons_zero,List.getElem?_cons_succ,Sem.run_bind,zf ht,zf hu,Result.andThen_ok,fE,Sem.run_pure,Builtin.lenOf];rw [if_neg (by simp)];simp only [pure_bind];rw [if_neg hn];simp only [Sem.run_bind,xS,Result.andThen_ok];rw [if_neg (by
   rintro ⟨_,h⟩;rcases h with h|h
   .cases h
   .rw [K4] at h;have:=hT.VT;omega)]
  simp only [Sem.run_bind,xS,Result.andThen_ok];rw [if_neg (by rw [K4];omega)];have BC:({ w with drawn:=w.drawn+1 }:World)=w.drew:=rfl;simp only [Sem.run_bind,Sem.run_pure,run_choose,oD,Bool.false_eq_true,if_false,Result.andThen_ok,xS,run_askRoom,BC,hold,Bool.not_false,if_true,aW,TM,newRow,run_newObj];rfl
 .simp only [Array.size_append,List.size_toArray,BB,Jv,wh];have h3:cp=n+m+(cp - (n+m)):=by omega
  rw [h3,Nat.add_mul,Nat.add_mul];simp
theorem VW {t u ty:TypeId} {s b:Nat} (hT:EB P t u s b) {x y:Value} {ba:Addr} {n cap m cap':Nat} {ad:Option Addr} {news:List Value} (hx:x=.slice (some ba) n cap) (hy:y=.slice ad m cap') (hn:n+m<=cap)
  (aW:(Builtin.firstCells s m y).run P w=.ok news.toArray w) {w':World} (fF:(storeCells (ba.add (n*s)) news).run P w=.ok () w') :
  (Builtin.append_ #[t,u] ty #[x,y]).run P w=.ok (.slice (some ba) (n+m) cap) w':=by
 obtain ⟨e,e',ht,hu,hs,hb,z,hz,p9⟩:=hT.ex;subst hx;subst hy;have fE:∀ w,(sizeOf e).run P w=.ok s w:=fun w=>zR hs;simp only [Builtin.append_,List.getElem?_toArray,List.getElem?_cons_zero,List.getElem?_cons_succ,Sem.run_bind,zf ht,zf hu,Result.andThen_ok,fE,Sem.run_pure,Builtin.lenOf];rw [if_neg (by simp)];simp only [pure_bind];rw [if_pos hn];simp only [Sem.run_bind,Bool.not_false,if_true,aW,Result.andThen_ok,fF,Sem.run_pure]
theorem PK (w:World) (o:Obj):w.heap.size < (w.drew.alloc o).heap.size:=by
 rw [World.size_alloc];exact Nat.lt_succ_self _
theorem EC {t u:TypeId} {c:Call} {X Y:Operand} (ah:o.op=.call c) (hc:c.callee=.builtin .append) (h1:c.args.toList=[X,Y]) (h2:c.argTypes.toList=[t,u]) {v:Value} {w':World}
  (h:(Builtin.append_ #[t,u] o.type #[a.eval X,a.eval Y]).run P w=.ok v w'):(execOp a.eval o).run P w=.ok (.value v) w':=by
 have ha:c.args=#[X,Y]:=by rw [<- h1]
 have hb:c.argTypes=#[t,u]:=by rw [<- h2]
 simp only [execOp,ah,resolve,hc,invoke,builtin,ha,hb,Sem.run_bind,Sem.run_pure,Result.andThen_ok,List.map_toArray,List.map_cons,List.map_nil,h]
theorem znw (hH:aN C S base φ H w) (hE:aV (aQ S base φ H w) φ w env a) {X Y:Operand} {x y:aa} {t u:TypeId} {s b:Nat} {c:Call} (hx:zB X=some x) (hy:zB Y=some y) (hT:EB P t u s b)
  (ah:o.op=.call c) (hc:c.callee=.builtin .append) (h1:c.args.toList=[X,Y]) (h2:c.argTypes.toList=[t,u]) (oz:φ H.nx=none) (h:zk H s b (x.eval env) (y.eval env)=some e) :
  iJ C S base φ H w e ((execOp a.eval o).run P w):=by
 have sV:=zC hE hx;have xR:=zC hE hy;have nM:=hT.pos;unfold zk at h
 split at h
 .simp at h
 .rename_i new m ED;obtain ⟨ad,cap',news,f1,f2,f3,f4,f5⟩:=VS hH nM xR ED;have wh:news.length=m*s:=by have:=f2.1;omega
  split at h
  .simp at h
  .rename_i bu;have Jy:new.all AV.one=true:=by simpa using bu
   have F9:∀ w':World,(∀ a,ad=some a->∀ (j:Nat) v,news[j]?=some v->w'.cell? (a.add j)=some v)->(Builtin.firstCells s m (.slice ad m cap')).run P w'=.ok news.toArray w':=fun w' rG=>PI wh f4 rG
   split at h
   ·-- onto nothing
    rename_i heq;rw [heq] at sV;have hX:=sV.au.iG
    split at h
    .rename_i hm;subst hm;simp at h;subst h;have BD:news=[]:=List.eq_nil_of_length_eq_zero (by simpa using wh)
     refine zQ (v:=.slice none 0 0) (EC ah hc h1 h2 ?_) (.pure _ _ .nils)
     obtain ⟨e,e',ht,hu,hs,hb,z,hz,p9⟩:=hT.ex;have fE:∀ w,(sizeOf e).run P w=.ok s w:=fun w=>zR hs;rw [hX,f1];simp only [Builtin.append_,List.getElem?_toArray,List.getElem?_cons_zero,List.getElem?_cons_succ,Sem.run_bind,zf ht,zf hu,Result.andThen_ok,fE,Sem.run_pure,Builtin.lenOf];rw [if_neg (by simp)];simp only [pure_bind,Nat.add_zero,Nat.le_refl,if_true,Bool.not_false,Sem.run_bind,F9 w f5,Result.andThen_ok,Sem.run_pure]
    .rename_i hm
     split at h
     .rename_i G6;simp at h;subst h;have jf:(0+m)*b<=140737488355328:=by rw [Nat.zero_add];have:=G6.2;simp only [zl] at this;omega
      obtain ⟨c',e,cp,g1,g2,g3,rest,g4⟩:=TL (ty:=o.type) (olds:=[]) hT hX f1 (by omega) (Nat.le_refl 0) jf (by rw [hX];rfl) (by rw [f1];exact F9 _ f5) (by simp) wh;have hlen:new.length<=c'.size:=by
       have:c'.toList.length=c'.size:=by simp
       rw [g4] at this;simp at this;have:=f2.1;omega
      refine .inl ⟨_,_,EC ah hc h1 h2 g1,w.heap.size,c'.size,((Below.refl _ w).drew).alloc (Nat.le_refl _) _,Nat.le_refl _,PK w _,?_,fun I' φ' id aj=>?_⟩
      .refine ⟨c',e,(0,0),heap_alloc_new w.drew _,rfl,hlen,fun j _ hj=>by simp at hj,fun j av v ha hv=>?_⟩
       have hj:j < news.length:=by have:=(List.getElem?_eq_some_iff.1 ha).1;have:=f2.1;omega
       rw [<- Array.getElem?_toList,g4,List.nil_append,List.getElem?_append_left hj] at hv;exact aA.mono (w:=w) (fun _ b hb=>⟨hb,Below.heap_alloc w.drew _ b hb.2.1⟩) (fun _ _ h=>h) (f2.2 j av v ha hv)
      .have:(0+m)=m:=by omega
       rw [this] at g2 ⊢;exact .row id s 0 m _ _ 0 cp aj (by simp) g2 (by simp [g3])
     .simp at h
   ·-- onto a row
    rename_i id s' off n heq;rw [heq] at sV;obtain ⟨bb,nb,cap,aj,hX,sZ,rH⟩:=sV.iq
    split at h
    .rename_i qd;subst qd
     split at h
     .rename_i ds hg;have ho:=hH.obj _ _ _ aj;rw [hg] at ho;obtain ⟨c0,t0,fz,q1,q2,q3,q4,q5⟩:=ho
      split at h
      ·-- room within what is known
       rename_i Jz;simp only [Option.some.injEq] at h;subst h;have hle:off*s'+n*s'+new.length<=ds.length:=by rw [Nat.add_mul] at Jz;omega
       obtain ⟨w',e1,e2,e3⟩:=VL (P:=P) (off:=off*s'+n*s') hH aj hg f2 Jy hle;have lg:n+m<=cap:=by
        have h3:(off+(n+m))*s'<=(off+cap)*s':=by rw [Nat.add_mul,rH];omega
        have:=Nat.le_of_mul_le_mul_right h3 nM;omega
       refine .inl ⟨_,w',EC ah hc h1 h2 (VW hT hX f1 lg (by rw [f1];exact F9 w f5) (by rw [BA];exact e1)),φ,?_⟩
       have e9:off*s'+(n+m)*s'=off*s'+n*s'+new.length:=by rw [Nat.add_mul,f3];omega
       rw [e9];exact ⟨e2,e3,.row id s' off (n+m) bb nb _ cap aj rfl lg rH⟩
      .rename_i Jz
       split at h
       .rename_i aB;obtain ⟨rfl,hn,Jt,K5⟩:=aB;simp at h;subst h;have mM:(n+m)*b<=140737488355328:=by simp only [zl] at K5;omega
        have nP:az (aQ S base φ H w) φ w ds (c0.toList.take ds.length):=⟨by simp;omega,fun i p u hp hu=>by
         have hi:i < ds.length:=(List.getElem?_eq_some_iff.1 hp).1;rw [List.getElem?_take_of_lt hi] at hu;exact q5 i p u hp (by simpa using hu)⟩
        by_cases lg:n+m<=cap
        ·-- in place: the row gets a new name
         -- first as a longer piece of memory under the old name
         have oF:(n+m)*s'<=c0.size:=by
          rw [q2,<- rH];exact Nat.mul_le_mul_right _ (by omega)
         obtain ⟨w',c',e1,e2,e3,e4,e5,e6,e7,e8⟩:=VK (P:=P) bb (0*s'+n*s') t0 fz news 0 c0 w q1 (by rw [Nat.add_mul] at oF;omega) (zpO f2 Jy) (fun j hj=>q4 j (by omega));have KZ:c'.size=nb:=by
          have:c'.toList.length=nb:=by rw [e8];rw [Nat.add_mul] at oF;simp;omega
          simpa using this
         have CK:∀ k c,aQ S base φ H w k c->c≠bb:=fun k c hc e=>hc.2.2 ⟨id,nb,e ▸ aj,by rw [hg];rfl⟩;have hw:=hH.write (o:=.cells true (ds++new)) aj (by rw [hg];rfl) e2 e3 e4 e5 e6 ⟨c',t0,fz,e7,KZ,by rw [List.length_append,f3,<- hn];rw [Nat.add_mul] at oF;omega,fun j hj=>q4 j hj,fun j av v ha hv=>by
          have nN:=nP.append f2
          refine (nN.2 j av v ha ?_).mono (fun k c hc=>⟨hc,e6 c (CK k c hc)⟩) (fun _ _ h=>h)
          rw [<- Array.getElem?_toList,e8] at hv;rw [<- hv];have hj:j < ds.length+new.length:=by have:=(List.getElem?_eq_some_iff.1 ha).1;simpa using this
          have e10:0*s'+n*s'+0=ds.length:=by omega
          have aK:(c0.toList.take ds.length).length=ds.length:=by rw [List.length_take];simp;omega
          rw [e10];exact (List.getElem?_append_left (l₁:=c0.toList.take ds.length++news) (by rw [List.length_append,aK];have:=f2.1;omega)).symm⟩
         have hr:=hw.2.rename (id:=id) (o:=.cells true (ds++new)) aj (Jn (hH.nx _ _ aj)) rfl (by exact oz);have EE:((H.set id (.cells true (ds++new))).set id .dead).alloc (.cells true (ds++new))=(H.set id .dead).alloc (.cells true (ds++new)):=by
          refine Heap.ext' rfl fun i=>?_
          simp only [Heap.alloc,Heap.set,upd]
          by_cases hi:i=H.nx
          .simp [hi]
          .by_cases DD:i=id<;>simp [hi,DD]
         rw [EE] at hr
         refine .inl ⟨_,w',EC ah hc h1 h2 (VW hT hX f1 lg (by rw [f1];exact F9 w f5) (by rw [BA];exact e1)),_,hw.1.trans hr.1,hr.2,?_⟩
         exact .row H.nx s' 0 (n+m) bb nb _ cap (yx _ _) rfl lg rH
        ·-- a new row
         have holds:(Builtin.firstCells s' n (.slice (some ⟨bb,0*s',none⟩) n cap)).run P w.drew=.ok (c0.toList.take ds.length).toArray w.drew:=by
          refine PI (by simp;omega) (fun h=>by cases h) fun a ha j u hu=>?_
          simp at ha;subst ha;rw [BA];have hi:j < ds.length:=by have:=(List.getElem?_eq_some_iff.1 hu).1;simp at this;omega
          rw [List.getElem?_take_of_lt hi] at hu;show w.drew.cell? _=_;have Gf:w.drew.heap[bb]?=some (.cells c0 t0 fz):=q1;simp only [World.cell?,Gf]
          simpa using hu
         obtain ⟨c',e,cp,g1,g2,g3,rest,g4⟩:=TL (ty:=o.type) (olds:=c0.toList.take ds.length) hT hX f1 lg sZ mM (by rw [hX];exact holds) (by rw [f1];exact F9 _ f5) (by simp;omega) wh;have hk:=hH.kill id;have hlen:(ds++new).length<=c'.size:=by
          have:c'.toList.length=c'.size:=by simp
          rw [g4] at this;simp at this ⊢;have:=f2.1;omega
         have nN:=nP.append f2;have aW:=hk.2.new (H':=(H.set id .dead).alloc (.cells true (ds++new))) (w':=w.drew.alloc (.cells c' e)) (id:=H.nx) (b:=w.heap.size) (n:=c'.size) (o:=.cells true (ds++new))
          (((Below.refl _ w).drew).alloc (Nat.le_refl _) _) oz (KT (H:=H.set id .dead)) (fun i hi _=>Jm (H:=H.set id .dead) hi) (Nat.lt_succ_self _) (Nat.le_succ _) (Nat.le_refl _) (PK w _)
          ⟨c',e,(0,0),heap_alloc_new w.drew _,rfl,hlen,fun j _ hj=>by simp at hj,fun j av v ha hv=>by
           have hj:j < ds.length+new.length:=by have:=(List.getElem?_eq_some_iff.1 ha).1;simpa using this
           rw [<- Array.getElem?_toList,g4,List.getElem?_append_left (by have:=f2.1;simp;omega)] at hv;exact aA.mono (w:=w) (fun _ b hb=>⟨(hk.1.Bq hb).1,Below.heap_alloc w.drew _ b hb.2.1⟩) (fun _ _ h=>h) (nN.2 j av v ha hv)⟩
         refine .inl ⟨_,_,EC ah hc h1 h2 g1,_,hk.1.trans aW.1,aW.2,?_⟩
         exact .row H.nx s' 0 (n+m) _ _ 0 cp (yx _ _) (by simp) g2 (by simp [g3])
       .simp at h
     .simp at h
    .simp at h
   ·-- onto a row that is cut at its end
    rename_i id s' off n heq;rw [heq] at sV;obtain ⟨bb,nb,aj,hX⟩:=sV.vT
    split at h
    .rename_i qd;subst qd
     split at h
     .rename_i hm;subst hm;simp at h;subst h;have BD:news=[]:=List.eq_nil_of_length_eq_zero (by simpa using wh)
      refine zQ (v:=.slice (some ⟨bb,off*s',none⟩) n n) (EC ah hc h1 h2 ?_) (.jI id s' off n bb nb _ aj rfl)
      obtain ⟨e,e',ht,hu,hs,hb,z,hz,p9⟩:=hT.ex;have fE:∀ w,(sizeOf e).run P w=.ok s' w:=fun w=>zR hs;rw [hX,f1];simp only [Builtin.append_,List.getElem?_toArray,List.getElem?_cons_zero,List.getElem?_cons_succ,Sem.run_bind,zf ht,zf hu,Result.andThen_ok,fE,Sem.run_pure,Builtin.lenOf];rw [if_neg (by simp)];simp only [pure_bind,Nat.add_zero,Nat.le_refl,if_true,Bool.not_false,Sem.run_bind,F9 w f5,Result.andThen_ok,Sem.run_pure];rw [BD];simp [storeCells]
     .rename_i xQ
      split at h
      .rename_i own ds hg
       split at h
       .rename_i aB;obtain ⟨hdl,Jt,K5⟩:=aB;simp at h;subst h;have ho:=hH.obj _ _ _ aj;rw [hg] at ho;obtain ⟨c0,t0,fz,q1,q2,q3,q4,q5⟩:=ho;have mM:(n+m)*b<=140737488355328:=by simp only [zl] at K5;omega
        have nP:az (aQ S base φ H w) φ w ((ds.drop (off*s')).take (n*s')) (((c0.toList.take ds.length).drop (off*s')).take (n*s')):=by
         refine (az.drop ?_ _).take _
         exact ⟨by simp;omega,fun i p u hp hu=>by
          have hi:i < ds.length:=(List.getElem?_eq_some_iff.1 hp).1;rw [List.getElem?_take_of_lt hi] at hu;exact q5 i p u hp (by simpa using hu)⟩
        have Jv:(((c0.toList.take ds.length).drop (off*s')).take (n*s')).length=n*s':=by simp;omega
        have holds:(Builtin.firstCells s' n (.slice (some ⟨bb,off*s',none⟩) n n)).run P w.drew=.ok (((c0.toList.take ds.length).drop (off*s')).take (n*s')).toArray w.drew:=by
         refine PI (by simp;omega) (fun h=>by cases h) fun a ha j u hu=>?_
         simp at ha;subst ha;rw [BA];have hj:j < n*s':=by have:=(List.getElem?_eq_some_iff.1 hu).1;omega
         rw [List.getElem?_take_of_lt hj,List.getElem?_drop,List.getElem?_take_of_lt (by omega)] at hu;show w.drew.cell? _=_;have Gf:w.drew.heap[bb]?=some (.cells c0 t0 fz):=q1;simp only [World.cell?,Gf]
         simpa using hu
        have lg:¬ n+m<=n:=by omega
        obtain ⟨c',e,cp,g1,g2,g3,rest,g4⟩:=TL (ty:=o.type) (olds:=((c0.toList.take ds.length).drop (off*s')).take (n*s')) hT hX f1 lg (Nat.le_refl _) mM (by rw [hX];exact holds) (by rw [f1];exact F9 _ f5) Jv wh;have nN:=nP.append f2;have NN:((ds.drop (off*s')).take (n*s')++new).length=n*s'+new.length:=by
         rw [List.length_append,List.length_take,List.length_drop];omega
        have hlen:((ds.drop (off*s')).take (n*s')++new).length<=c'.size:=by
         have:c'.toList.length=c'.size:=by simp
         rw [g4] at this;rw [NN,<- this];simp only [List.length_append,Jv];have:=f2.1;omega
        refine .inl ⟨_,_,EC ah hc h1 h2 g1,w.heap.size,c'.size,((Below.refl _ w).drew).alloc (Nat.le_refl _) _,Nat.le_refl _,PK w _,?_,fun I' φ' id aj=>?_⟩
        .refine ⟨c',e,(0,0),heap_alloc_new w.drew _,rfl,hlen,fun j _ hj=>by simp at hj,fun j av v ha hv=>?_⟩
         have hj:j < (((c0.toList.take ds.length).drop (off*s')).take (n*s')++news).length:=by
          have:=(List.getElem?_eq_some_iff.1 ha).1;rw [NN] at this;rw [List.length_append,Jv];have:=f2.1;omega
         rw [<- Array.getElem?_toList,g4,List.getElem?_append_left hj] at hv;exact aA.mono (w:=w) (fun _ b hb=>⟨hb,Below.heap_alloc w.drew _ b hb.2.1⟩) (fun _ _ h=>h) (nN.2 j av v ha hv)
        .exact .row id s' 0 (n+m) _ _ 0 cp aj (by simp) g2 (by simp [g3])
       .simp at h
      .simp at h
    .simp at h
   .simp at h
end
section
variable {C:iT} {P:Program} {S:Bool->Nat->Prop} {base:Nat} {φ:iX} {H:Heap} {w:World} {env:Env} {a:Act} {e:Eff} {o:Oper} {I:Bool->Nat->Prop}
theorem zkj (hE:aV (aQ S base φ H w) φ w env a) {X:Operand} {x:aa} {s t:TypeId} {b:ByteArray} (hx:zB X=some x) (hs:P.underlying s=some .string) (ht:P.underlying t=some .string)
  (ah:o.op=.convert s t X) (hv:x.eval env=.pure (.str b)):iJ C S base φ H w (.val (.pure (.str b))) ((execOp a.eval o).run P w):=by
 have h:=zC hE hx;rw [hv] at h
 refine zQ (v:=.string b) ?_ (.pure _ _ (.str _))
 simp only [execOp,ah,convert,Sem.run_bind,zf hs,zf ht,Result.andThen_ok,h.iF];rfl
theorem zfR {b n:Nat} {e:TypeId} (h:w.shape? b=some (e,n)):(markStringish ⟨b,0,none⟩).run P w=.ok () (w.freeze ⟨b,n,none⟩ 1):=by
 simp [markStringish,h]
theorem zlP (hE:aV (aQ S base φ H w) φ w env a) {X:Operand} {x:aa} {s t el:TypeId} {b:ByteArray} (hx:zB X=some x) (hs:P.underlying s=some .string) (ht:P.underlying t=some (.slice el)) (he:P.underlying el=some (.int .u8)) (fE:zU P el=some 1)
  (ah:o.op=.convert s t X) (hv:x.eval env=.pure (.str b)) :
  iJ C S base φ H w (.new (.cells true (b.data.toList.map fun b=>.pure (.int .u8 b.toNat))) fun id=>.row id 1 0 b.size) ((execOp a.eval o).run P w):=by
 have h:=zC hE hx;rw [hv] at h
 let cap:=(Question.appendCap b.size 0 el).cut (w.tape w.drawn (.appendCap b.size 0 el))
 have sZ:b.size<=cap:=by show b.size<=b.size+_;omega
 let c:Array Value:=(b.data.map fun b=>.int .u8 b.toNat)++Array.replicate (cap - b.size) (.int .u8 0)
 have hc:c.size=cap:=by simp only [c,Array.size_append,Array.size_map,Array.size_replicate];have:b.data.size=b.size:=rfl;omega
 have hw:((w.drew.alloc (.cells c el)).freeze ⟨w.heap.size,c.size,none⟩ 1)={ w.drew with heap:=w.heap.push (.cells c el (c.size,c.size+1)) }:=by
  simp only [World.freeze];rw [if_neg (by decide)];show World.mk _ _ _ _ _=World.mk _ _ _ _ _
  congr 1
  show (w.heap.push (.cells c el)).modify w.heap.size _=_;apply Array.ext_getElem?;intro i;rw [Array.getElem?_modify]
  by_cases hi:i=w.heap.size
  .subst hi;simp
  .rw [if_neg (fun h=>hi h.symm)];rw [Array.getElem?_push,Array.getElem?_push];simp [hi]
 have yV:Below w.heap.size w { w.drew with heap:=w.heap.push (.cells c el (c.size,c.size+1)) } :=
  ⟨rfl,rfl,rfl,by simp,fun k hk=>by show (w.heap.push _)[k]?=_;rw [Array.getElem?_push,if_neg (by omega)]⟩
 refine .inl ⟨.slice (some ⟨w.heap.size,0,none⟩) b.size cap,{ w.drew with heap:=w.heap.push (.cells c el (c.size,c.size+1)) },?_,w.heap.size,c.size,yV,Nat.le_refl _,by simp,?_,fun I' φ' id aj=>?_⟩
 .rw [<- hw];have oD:(Question.appendCap b.size 0 el).forced=false:=rfl;have BC:({ w with drawn:=w.drawn+1 }:World)=w.drew:=rfl;have K6:(w.drew.alloc (.cells c el)).shape? w.heap.size=some (el,c.size):=by
   simp only [World.shape?,heap_alloc_new w.drew (.cells c el)];have:=heap_alloc_new w.drew (.cells c el);rw [show w.drew.heap.size=w.heap.size from rfl] at this;rw [this]
  have bC:(Conv.stringToBytes el b).run P w=.ok (.slice (some ⟨w.heap.size,0,none⟩) b.size cap) ((w.drew.alloc (.cells c el)).freeze ⟨w.heap.size,c.size,none⟩ 1):=by
   unfold Conv.stringToBytes;rw [Sem.run_bind,run_choose,if_neg (by rw [oD];simp)];simp only [Result.andThen_ok];rw [Sem.run_bind];show Result.andThen (.ok (⟨w.heap.size,0,none⟩:Addr) (w.drew.alloc (.cells c el))) _=_;rw [Result.andThen_ok,Sem.run_bind,zfR K6];rfl
  simp only [execOp,ah,convert,Sem.run_bind,zf hs,zf ht,zf he,Result.andThen_ok,h.iF,bC,Sem.run_pure]
 .refine ⟨c,el,(c.size,c.size+1),by simp,rfl,by simp [hc];exact sZ,fun j hj hh=>by omega,fun j av v ha hv=>?_⟩
  rw [List.getElem?_map] at ha
  cases hq:b.data.toList[j]? with
  | none=>rw [hq] at ha;simp at ha
  | some q =>
   rw [hq] at ha;simp at ha;subst ha;have hj:j < b.data.size:=by have:=(List.getElem?_eq_some_iff.1 hq).1;simpa using this
   have:c[j]?=some (.int .u8 q.toNat):=by
    simp only [c];rw [Array.getElem?_append_left (by simpa using hj),Array.getElem?_map];rw [Array.getElem?_toList] at hq;rw [hq];rfl
   rw [this] at hv;simp at hv;subst hv;exact .pure _ _ (.int _ _)
 .exact .row id 1 0 b.size _ _ 0 cap aj rfl sZ (by simp [hc])
theorem zi2:∀ {cs:List AV} {vs:List Value} {bs:List UInt8} (s:ByteArray),az I φ w cs vs->cs.mapM F3=some bs ->
  (forIn vs s fun c s=>match c with
   | .int .u8 n=>pure (ForInStep.yield (s.push (UInt8.ofNat n.toNat)))
   | x=>do
    stuck "bytesToString: byte expected"
    pure (ForInStep.yield s):Sem ByteArray).run P w=.ok ⟨s.data++bs.toArray⟩ w
 | [],vs,bs,s,hr,h=>by
  rw [hr.lQ];simp at h;subst h;simp
 | c::cs,vs,bs,s,hr,h=>by
  obtain ⟨v,vs',rfl,h1,h2⟩:=hr.cons_inv;rw [List.mapM_cons] at h
  cases hb:F3 c with
  | none=>simp [hb] at h
  | some b =>
   cases NA:cs.mapM F3 with
   | none=>simp [hb,NA] at h
   | some bs' =>
    simp [hb,NA] at h;subst h;unfold F3 at hb
    split at hb
    .rename_i n;simp at hb;subst hb;have hv:=h1.bf;subst hv;rw [List.forIn_cons];simp only [Sem.run_bind,Sem.run_pure,Result.andThen_ok];rw [zi2 (s.push (UInt8.ofNat n.toNat)) h2 NA];simp [ByteArray.push]
    .simp at hb
theorem zpu (hH:aN C S base φ H w) (hE:aV (aQ S base φ H w) φ w env a) {X:Operand} {x:aa} {s t el:TypeId} {cs:List AV} {m:Nat} {bs:List UInt8} (hx:zB X=some x) (hs:P.underlying s=some (.slice el)) (ht:P.underlying t=some .string) (he:P.underlying el=some (.int .u8))
  (ah:o.op=.convert s t X) (hc:zH H 1 (x.eval env)=some (cs,m)) (hb:cs.mapM F3=some bs):iJ C S base φ H w (.val (.pure (.str ⟨bs.toArray⟩))) ((execOp a.eval o).run P w):=by
 obtain ⟨ad,cap,vs,f1,f2,f3,f4,f5⟩:=VS hH (by decide) (zC hE hx) hc;have JA:vs.length=m:=by have:=f2.1;omega
 refine zQ (v:=.string ⟨bs.toArray⟩) ?_ (.pure _ _ (.str _))
 simp only [execOp,ah,convert,Sem.run_bind,zf hs,zf ht,zf he,Result.andThen_ok,f1,Conv.bytesToString]
 cases ad with
 | none =>
  have hm:=f4 rfl;subst hm;have:vs=[]:=List.eq_nil_of_length_eq_zero JA;subst this;have sI:cs=[]:=List.eq_nil_of_length_eq_zero (by have:=f2.1;simpa using this);subst sI;simp at hb;subst hb;rfl
 | some ad =>
  have hl:=run_loadCells_list (P:=P) (w:=w) ad vs (f5 ad rfl);rw [JA] at hl;simp only [Sem.run_bind,hl,Result.andThen_ok];have:=zi2 (P:=P) ByteArray.empty f2 hb;simp only [List.forIn_toArray]
  erw [this]
  simp
end
theorem VX {n:Int} (h:-9223372036854775808<=n) (h':n < 9223372036854775808):IntKind.i64.wrap n=n:=by
 simp only [IntKind.wrap,IntKind.bits,IntKind.signed,Bool.true_and]
 split
 .rename_i h0;simp at h0;omega
 .rename_i h0;simp at h0;omega
section
variable {C:iT} {P:Program} {S:Bool->Nat->Prop} {base:Nat} {φ:iX} {H:Heap} {w:World} {env:Env} {a:Act} {e:Eff} {o:Oper} {I:Bool->Nat->Prop}
theorem ziM (hE:aV (aQ S base φ H w) φ w env a) {X Y:Operand} {x y:aa} {t el:TypeId} {s b:Nat} {z:List PV} {k k':IntKind} {n:Int} (hx:zB X=some x) (hy:zB Y=some y) (ht:P.underlying t=some (.slice el)) (hs:zU P el=some s) (hb:GZ P el=some b) (hz:vX P el=some z)
  (h0:0 < s) (p9:z.length=s) (ah:o.op=.makeSlice t X Y) (hl:x.eval env=.pure (.int k n)) (hc:y.eval env=.pure (.int k' n)) (hn:0<=n) (hm:n.toNat*b<=zl) (K5:n.toNat<=zl) :
  iJ C S base φ H w (.new (.cells true ((List.replicate n.toNat (z.map AV.pure)).flatten)) fun id=>.row id s 0 n.toNat) ((execOp a.eval o).run P w):=by
 have h1:=zC hE hx;rw [hl] at h1;have h2:=zC hE hy;rw [hc] at h2;obtain ⟨v,hv,G8,Ez⟩:=KY (w:=w) hz;have nG:v.cells.size=s:=by rw [hs] at Ez;simpa using Ez.symm
 have hi:∃ i,P.info? el=some i/\i.bytes=b:=by
  unfold GZ at hb
  cases hi:P.info? el with
  | none=>simp [hi] at hb
  | some i=>simp [hi] at hb;exact ⟨i,rfl,hb⟩
 obtain ⟨i,hi,K4⟩:=hi;simp only [zl] at hm K5;have BF:IntKind.i64.wrap n=n:=VX (by omega) (by omega)
 let row:Array Value:=(Array.range (n.toNat*s)).map (v.cells[· % v.cells.size]!)
 have qo:=TF (I:=aQ S base φ H w) (φ:=φ) (w:=w) (n:=n.toNat) G8 (by omega) row (by simp [row,p9]) (fun j hj=>by
   have ng:j < n.toNat*s:=by rw [p9] at hj;exact hj
   have hm:j % s < v.cells.size:=by rw [nG];exact Nat.mod_lt _ h0
   simp only [row,Array.getElem?_map,nG,p9];rw [Array.getElem?_range,if_pos ng];simp only [Option.map_some];rw [getElem!_pos v.cells (j % s) hm,Array.getElem?_eq_getElem hm])
 have BB:row.size=n.toNat*s:=by simp [row]
 refine Py (c:=row) (t:=el) (v:=.slice (some ⟨w.heap.size,0,none⟩) n.toNat n.toNat) ?_ (by have:=qo.1;simp only [Array.length_toList] at this;omega) (fun j a v ha hv=>qo.2 j a v ha (by simpa using hv)) fun I' φ' w' id aj=>.row id s 0 n.toNat _ _ 0 n.toNat aj (by simp) (Nat.le_refl _) (by simp [BB])
 have oF:(decide (n < 0)||decide ((b:Int)*n > 2 ^ 48))=false:=by
  have h3:(b:Int)*n=((n.toNat*b:Nat):Int):=by
   rw [Int.natCast_mul,Int.toNat_of_nonneg hn,Int.mul_comm]
  simp only [Bool.or_eq_false_iff,decide_eq_false_iff_not];rw [h3];omega
 simp only [execOp,ah,Instr.makeSlice,Sem.run_bind,zf ht,Result.andThen_ok,h1.bf,h2.bf,asInt,asIntOf,Sem.run_pure,NI hi,K4,BF,oF];rw [if_neg (by simp;omega)];simp only [Sem.run_bind,run_askRoom,Result.andThen_ok,zR hs]
 by_cases K7:n.toNat*s=0
 .rw [if_pos K7];have hz0:n.toNat=0:=by
   rcases Nat.eq_zero_or_pos n.toNat with h|h
   .exact h
   .have:=Nat.mul_pos h h0;omega
  have PD:row=#[]:=Array.eq_empty_of_size_eq_zero (by rw [BB,K7]);rw [PD,K7];have EA:Array.range 0=#[]:=rfl;simp only [Sem.run_pure,Result.andThen_ok,newRow,Sem.run_bind,run_newObj,EA,Array.map_empty];rfl
 .rw [if_neg K7];simp only [Sem.run_bind,hv,Result.andThen_ok,Sem.run_pure,newRow,run_newObj];rfl
theorem zl3 (hE:aV (aQ S base φ H w) φ w env a) {X Y:Operand} {x y:aa} {t u el:TypeId} {s b:Nat} {z:List PV} {k k0:IntKind} {n:Int} {c:Call} (hx:zB X=some x) (hy:zB Y=some y) (ht:P.underlying t=some (.slice el)) (hu:P.underlying u=some (.int k0)) (hs:zU P el=some s) (hb:GZ P el=some b) (hz:vX P el=some z)
  (h0:0 < s) (p9:z.length=s) (uV:0 < b) (ah:o.op=.call c) (iA:c.callee=.builtin .append) (ha1:c.args.toList=[X,Y]) (ha2:c.argTypes.toList=[t,u]) (hl:x.eval env=.pure .nils) (hc:y.eval env=.pure (.int k n)) (hn:0<=n) (hm:n.toNat*b<=zl) (K5:n.toNat<=zl)
  (he:(n=0/\e=.val (.pure .nils))\/(n≠0/\e=.new (.cells true ((List.replicate n.toNat (z.map AV.pure)).flatten)) fun id=>.row id s 0 n.toNat)) :
  iJ C S base φ H w e ((execOp a.eval o).run P w):=by
 have h1:=zC hE hx;rw [hl] at h1;have hX:=h1.au.iG;have h2:=zC hE hy;rw [hc] at h2;have hY:=h2.bf;obtain ⟨v,hv,G8,Ez⟩:=KY (w:=w.drew) hz;have nG:v.cells.size=s:=by rw [hs] at Ez;simpa using Ez.symm
 have hi:∃ i,P.info? el=some i/\i.bytes=b:=by
  unfold GZ at hb
  cases hi:P.info? el with
  | none=>simp [hi] at hb
  | some i=>simp [hi] at hb;exact ⟨i,rfl,hb⟩
 obtain ⟨i,hi,K4⟩:=hi;simp only [zl] at hm K5;have BF:IntKind.i64.wrap n=n:=VX (by omega) (by omega);have fE:∀ w,(sizeOf el).run P w=.ok s w:=fun w=>zR hs;have xS:∀ w,(typeInfo el).run P w=.ok i w:=fun w=>NI hi;have mM:¬ (n*(i.bytes:Int) > 2 ^ 48):=by
  rw [K4];have h3:n*(b:Int)=((n.toNat*b:Nat):Int):=by rw [Int.natCast_mul,Int.toNat_of_nonneg hn]
  rw [h3];omega
 rcases he with ⟨rfl,rfl⟩|⟨bL,rfl⟩
 .refine zQ (v:=.slice none 0 0) (EC ah iA ha1 ha2 ?_) (.pure _ _ .nils)
  rw [hX,hY];simp only [Builtin.append_,List.getElem?_toArray,List.getElem?_cons_zero,List.getElem?_cons_succ,Sem.run_bind,zf ht,zf hu,Result.andThen_ok,fE,Sem.run_pure,asInt,asIntOf,if_true,BF,xS];rw [if_neg (by omega)];simp only [pure_bind,Sem.run_bind,xS,Result.andThen_ok];rw [if_neg mM];simp
 .have PL:∀ m:Nat,0 < m->m*b<=140737488355328->Builtin.nextslicecap m 0*b<=281474976710656:=fun m h hb=>growslice_fits h hb;have JB:0 < n.toNat:=by omega
  have wm:=PL n.toNat JB (by omega);have oD:(Question.appendCap (0+n.toNat) 0 el).forced=false:=rfl
  let cp:=(Question.appendCap (0+n.toNat) 0 el).cut (w.tape w.drawn (.appendCap (0+n.toNat) 0 el))
  have Jw:n.toNat<=cp:=by show n.toNat<=(0+n.toNat)+_;omega
  let news:=Builtin.zeroCells v.cells n.toNat
  let rest:=Builtin.zeroCells v.cells (cp - (0+n.toNat))
  have Ju:news.size=n.toNat*s:=by simp [news,Builtin.zeroCells,nG]
  have BB:rest.size=(cp - (0+n.toNat))*s:=by simp [rest,Builtin.zeroCells,nG]
  have aW:=TF (I:=aQ S base φ H w) (φ:=φ) (w:=w) (n:=n.toNat) G8 (by omega) news (by simp [Ju,p9]) (fun j hj=>by
   have ng:j < n.toNat*s:=by rw [p9] at hj;exact hj
   have hm:j % s < v.cells.size:=by rw [nG];exact Nat.mod_lt _ h0
   simp only [news,Builtin.zeroCells,Array.getElem?_map,nG,p9];rw [Array.getElem?_range,if_pos ng];simp only [Option.map_some];rw [getElem!_pos v.cells (j % s) hm,Array.getElem?_eq_getElem hm])
  let c':Array Value:=(#[]:Array Value)++news++rest
  have sI:c'.size=cp*s:=by
   simp only [c',Array.size_append,Ju,BB,List.size_toArray,List.length_nil];have h3:cp=n.toNat+(cp - (0+n.toNat)):=by omega
   rw [Nat.zero_add,<- Nat.add_mul,<- h3]
  have bC:(Builtin.append_ #[t,u] o.type #[a.eval X,a.eval Y]).run P w=.ok (.slice (some ⟨w.heap.size,0,none⟩) (0+n.toNat) cp) ((w.drew).alloc (.cells c' el)):=by
   rw [hX,hY];simp only [Builtin.append_,List.getElem?_toArray,List.getElem?_cons_zero,List.getElem?_cons_succ,Sem.run_bind,zf ht,zf hu,Result.andThen_ok,fE,Sem.run_pure,asInt,asIntOf,if_true,BF,xS];rw [if_neg (by omega)];simp only [pure_bind,Sem.run_bind,xS,Result.andThen_ok];rw [if_neg mM];rw [if_neg (by omega)];simp only [Sem.run_bind,xS,Result.andThen_ok];rw [if_neg (by
    rintro ⟨h,_⟩;have h7:IntKind.i64.max=9223372036854775807:=rfl;rw [h7] at h;omega)]
   simp only [Sem.run_bind,xS,Result.andThen_ok];rw [if_neg (by rw [K4];have:=wm;simp only [Nat.zero_add];omega)];have BC:({ w with drawn:=w.drawn+1 }:World)=w.drew:=rfl;have yY:(Builtin.firstCells s 0 (.slice none 0 0)).run P w.drew=.ok #[] w.drew:=rfl;have VY:¬ n.toNat*s=0:=fun h=>by have:=Nat.mul_pos JB h0;omega
   simp only [Sem.run_bind,Sem.run_pure,run_choose,oD,Bool.false_eq_true,if_false,Result.andThen_ok,xS,run_askRoom,BC,yY,Bool.not_true,VY,hv,newRow,run_newObj];rfl
  have hlen:((List.replicate n.toNat (z.map AV.pure)).flatten).length<=c'.size:=by
   have h4:=aW.1;simp only [Array.length_toList] at h4;rw [h4,Ju,sI];exact Nat.mul_le_mul_right _ Jw
  refine .inl ⟨_,_,EC ah iA ha1 ha2 bC,w.heap.size,c'.size,((Below.refl _ w).drew).alloc (Nat.le_refl _) _,Nat.le_refl _,PK w _,?_,fun I' φ' id aj=>?_⟩
  .refine ⟨c',el,(0,0),heap_alloc_new w.drew _,rfl,hlen,fun j _ hj=>by simp at hj,fun j av v' ha og=>?_⟩
   have hj:j < news.size:=by have h5:=(List.getElem?_eq_some_iff.1 ha).1;have h4:=aW.1;simp only [Array.length_toList] at h4;omega
   have fQ:news.toList[j]?=some v':=by
    simp only [c',Array.empty_append] at og;rw [Array.getElem?_append_left hj] at og
    simpa using og
   exact aA.mono (w:=w) (fun _ b hb=>⟨hb,Below.heap_alloc w.drew _ b hb.2.1⟩) (fun _ _ h=>h) (aW.2 j av v' ha fQ)
  .have:(0+n.toNat)=n.toNat:=by omega
   rw [this];exact .row id s 0 n.toNat _ _ 0 cp aj (by simp) Jw (by simp [sI])
theorem zo4 (hH:aN C S base φ H w) (hE:aV (aQ S base φ H w) φ w env a) {X:Operand} {x:aa} {t el:TypeId} {s:Nat} {z:List PV} {c:Call} (hx:zB X=some x) (ht:P.underlying t=some (.slice el)) (hs:zU P el=some s) (hz:vX P el=some z) (h0:0 < s) (p9:z.length=s)
  (ah:o.op=.call c) (hc:c.callee=.builtin .clear) (h1:c.args.toList=[X]) (h2:c.argTypes.toList=[t])
  (h:(x.eval env=.pure .nils/\e=.val (.aM []))\/∃ id off len ds,x.eval env=.row id s off len/\H.get id=.cells true ds/\off*s+len*s<=ds.length /\
   e=.upd (.aM []) (H.set id (.cells true (ds.take (off*s)++(List.replicate len (z.map AV.pure)).flatten++ds.drop (off*s+len*s))))) :
  iJ C S base φ H w e ((execOp a.eval o).run P w):=by
 have sV:=zC hE hx;have ha:c.args=#[X]:=by rw [<- h1]
 have hb:c.argTypes=#[t]:=by rw [<- h2]
 have PM:∀ w',(Builtin.clear_ #[t] o.type #[a.eval X]).run P w=.ok (.tuple #[]) w'->(execOp a.eval o).run P w=.ok (.value (.tuple #[])) w':=fun w' h=>by
  simp only [execOp,ah,resolve,hc,invoke,builtin,ha,hb,Sem.run_bind,Sem.run_pure,Result.andThen_ok,List.map_toArray,List.map_cons,List.map_nil,h]
 rcases h with ⟨e1,rfl⟩|⟨id,off,len,ds,e1,hg,hle,rfl⟩
 .rw [e1] at sV
  refine zQ (PM w ?_) (.aM [] #[] rfl fun i p v h=>by simp at h)
  simp [Builtin.clear_,zf ht,sV.au.iG]
 .rw [e1] at sV;obtain ⟨b,n,cap,aj,hX,sZ,rH⟩:=sV.iq;obtain ⟨v,hv,G8,Ez⟩:=KY (w:=w) hz;have nG:v.cells.size=s:=by rw [hs] at Ez;simpa using Ez.symm
  have qo:=TF (I:=aQ S base φ H w) (φ:=φ) (w:=w) (n:=len) G8 (by omega) (Builtin.zeroCells v.cells len) (by simp [Builtin.zeroCells,p9,nG]) (fun j hj=>by
   have ng:j < len*s:=by rw [p9] at hj;exact hj
   have hm:j % s < v.cells.size:=by rw [nG];exact Nat.mod_lt _ h0
   simp only [Builtin.zeroCells,Array.getElem?_map,nG,p9];rw [Array.getElem?_range,if_pos ng];simp only [Option.map_some];rw [getElem!_pos v.cells (j % s) hm,Array.getElem?_eq_getElem hm])
  have hlen:((List.replicate len (z.map AV.pure)).flatten).length=len*s:=by simp [p9]
  have bu:((List.replicate len (z.map AV.pure)).flatten).all AV.one=true:=by
   rw [List.all_eq_true];intro p hp;obtain ⟨l,hl,hp⟩:=List.mem_flatten.1 hp;have:=List.eq_of_mem_replicate hl;subst this;obtain ⟨q,hq,rfl⟩:=List.mem_map.1 hp;obtain ⟨i,hi⟩:=List.getElem?_of_mem hq
   -- constants of one cell
   have key:∀ (vs:List Value) (ps:List PV),CF vs=some ps->∀ q∈ps,(AV.pure q).one=true:=by
    intro vs
    induction vs with
    | nil=>intro ps h;simp [CF] at h;subst h;simp
    | cons u us ih =>
     intro ps h;unfold CF at h
     split at h
     .simp at h
     .rename_i p hp
      split at h
      .simp at h
      .rename_i qs hqs;simp at h;subst h;intro q hq;rcases List.mem_cons.1 hq with rfl|hq
       .unfold Pg at hp
        split at hp<;>simp at hp<;>subst hp<;>rfl
       .exact ih qs hqs q hq
   exact key _ _ G8 q hq
  obtain ⟨w',g1,g2,g3⟩:=VL (P:=P) (off:=off*s) hH aj hg qo bu (by rw [hlen];exact hle);rw [hlen] at g2 g3
  refine .inl ⟨.tuple #[],w',PM w' ?_,φ,g2,g3,.aM [] #[] rfl fun i p v h=>by simp at h⟩
  simp only [Builtin.clear_,List.getElem?_toArray,List.getElem?_cons_zero,Sem.run_bind,zf ht,Result.andThen_ok,hX]
  cases len with
  | zero =>
   have EF:(Builtin.zeroCells v.cells 0).toList=[]:=by simp [Builtin.zeroCells]
   rw [EF] at g1;simp only [storeCells] at g1;simp at g1;subst g1;simp
  | succ k=>simp only [Sem.run_bind,hv,Result.andThen_ok,g1,Sem.run_pure]
theorem VZ (xs ys:List AV) (k:List Nat):∀ l:List Nat,vI xs ys (l++k)=match vI xs ys l with
  | some true=>vI xs ys k
  | r=>r
 | []=>by simp [vI]
 | i::l=>by
  simp only [List.cons_append,vI]
  split
  .split
   .split
    .split
     .rw [VZ xs ys k l]
     .rfl
    .rfl
   .rfl
  .split
   .split
    .rw [VZ xs ys k l]
    .rfl
   .rfl
def TN (P:Program) (I:Bool->Nat->Prop) (φ:iX) (w:World) (t:TypeId) (at_:Nat) (fx:List AV) (v:Value):Prop :=
 ∃ s g,zU P t=some s/\jW P t=some g/\at_+s<=fx.length /\
  if g then ∃ vs:Array Value,v=.agg vs/\az I φ w ((fx.drop at_).take s) vs.toList else s=1/\∃ c,fx[at_]?=some c/\aA I φ w c v
theorem zog {t ft:TypeId} {s sf off at_:Nat} {g:Bool} {fx:List AV} {vs:Array Value} (hs:zU P ft=some sf) (hg:jW P ft=some g) (h1:g=false->sf=1) (hle:off+sf<=s) (hfx:at_+s<=fx.length)
  (hr:az I φ w ((fx.drop at_).take s) vs.toList):∃ v,(part ft vs off).run P w=.ok v w/\TN P I φ w ft (at_+off) fx v:=by
 have hlen:vs.size=s:=by have:=hr.1;simp at this;omega
 simp only [part,Sem.run_bind,VC hg,Result.andThen_ok]
 cases g with
 | true =>
  simp only [if_true,Sem.run_bind,zR hs,Result.andThen_ok,Sem.run_pure]
  refine ⟨_,rfl,sf,true,hs,hg,by omega,?_⟩
  simp only [if_true]
  refine ⟨_,rfl,?_⟩
  have:=hr.sub off sf;have e:(((fx.drop at_).take s).drop off).take sf=(fx.drop (at_+off)).take sf:=by
   rw [List.drop_take,List.take_take,List.drop_drop]
   congr 1
   omega
  rwa [e] at this
 | false =>
  have oV:=h1 rfl;subst oV;have aK:off < vs.size:=by omega
  refine ⟨vs[off],by simp [Array.getElem?_eq_getElem aK],1,false,hs,hg,by omega,?_⟩
  simp only [Bool.false_eq_true,if_false];have hc:fx[at_+off]?=some (fx[at_+off]'(by omega)):=List.getElem?_eq_getElem (by omega)
  refine ⟨trivial,_,hc,hr.2 off _ _ ?_ (by simp [Array.getElem?_eq_getElem aK])⟩
  rw [List.getElem?_take_of_lt (by omega),List.getElem?_drop,hc]
theorem ztx:∀ (d:Nat) (t:TypeId) (at_:Nat) (ls:List Nat) (fx fy:List AV) (b:Bool),Jr P d t at_=some ls->vI fx fy ls=some b->∀ D,d<=D->∀ (vx vy:Value),TN P I φ w t at_ fx vx->TN P I φ w t at_ fy vy ->
  (Op.equalIn D t vx vy).run P w=.ok b w:=by
 intro d
 induction d with
 | zero=>intro t at_ ls fx fy b h;simp [Jr] at h
 | succ d ih =>
  intro t at_ ls fx fy b h hc D hD vx vy hx hy;obtain ⟨D,rfl⟩:∃ D',D=D'+1:=⟨D - 1,by omega⟩
  unfold Jr at h
  split at h
  .rename_i k hu
   split at h
   case isFalse=>simp at h
   rename_i wu;simp at h;subst h;obtain ⟨s,g,q1,q2,q3,q4⟩:=hx;obtain ⟨s',g',p1,p2,p3,p4⟩:=hy;have hg:g=false:=by simp [jW,hu] at q2;exact q2
   have sJ:g'=false:=by simp [jW,hu] at p2;exact p2
   subst hg;subst sJ;simp only [Bool.false_eq_true,if_false] at q4 p4;obtain ⟨_,c,q5,q6⟩:=q4;obtain ⟨_,c',p5,p6⟩:=p4;simp only [vI,if_pos wu,q5,p5] at hc
   split at hc
   .rename_i k1 a1 k2 a2 e1 e2;simp at e1 e2;subst e1;subst e2;have f1:=q6.bf;have f2:=p6.bf;subst f1;subst f2
    split at hc
    .rename_i hk;subst hk;simp only [Op.equalIn,Sem.run_bind,zf hu,Result.andThen_ok,if_true,Sem.run_pure]
     by_cases yZ:a1=a2
     .subst yZ;simp at hc;subst hc;simp
     .have:(a1 == a2)=false:=by simpa using yZ
      rw [this] at hc ⊢;simp at hc;subst hc;rfl
    .simp at hc
   .simp at hc
  .rename_i hu;simp at h;subst h;obtain ⟨s,g,q1,q2,q3,q4⟩:=hx;obtain ⟨s',g',p1,p2,p3,p4⟩:=hy;have hg:g=false:=by simp [jW,hu] at q2;exact q2
   have sJ:g'=false:=by simp [jW,hu] at p2;exact p2
   subst hg;subst sJ;simp only [Bool.false_eq_true,if_false] at q4 p4;obtain ⟨_,c,q5,q6⟩:=q4;obtain ⟨_,c',p5,p6⟩:=p4;simp only [vI,if_neg (show ¬ at_+500000 < 500000 by omega),Nat.add_sub_cancel,q5,p5] at hc
   split at hc
   .rename_i a1 a2 e1 e2;simp at e1 e2;subst e1;subst e2;have f1:=q6.fM;have f2:=p6.fM;subst f1;subst f2;simp only [Op.equalIn,Sem.run_bind,zf hu,Result.andThen_ok,Sem.run_pure]
    cases a1<;>cases a2<;>simp at hc<;>subst hc<;>rfl
   .simp at hc
  .rename_i fs hu
   split at h
   .simp at h
   .rename_i fF
    split at h
    .rename_i s hs;obtain ⟨s1,g,q1,q2,q3,q4⟩:=hx;obtain ⟨s2,g',p1,p2,p3,p4⟩:=hy;have hg:g=true:=by simp [jW,hu] at q2;exact q2
     have sJ:g'=true:=by simp [jW,hu] at p2;exact p2
     subst hg;subst sJ;have es1:s1=s:=by rw [hs] at q1;simpa using q1.symm
     have es2:s2=s:=by rw [hs] at p1;simpa using p1.symm
     obtain ⟨s0,nE⟩:∃ s0,s0=s:=⟨s,rfl⟩
     rw [<- nE] at es1 es2 h;rw [es1] at q3 q4;rw [es2] at p3 p4;simp only [if_true] at q4 p4;obtain ⟨xs,rfl,EG⟩:=q4;obtain ⟨ys,rfl,KX⟩:=p4;have V3:P.stoodInHeld t=false:=by simp at fF;exact fF.1
     simp only [Op.equalIn,Sem.run_bind,zf hu,Result.andThen_ok,run_program,V3,Bool.false_eq_true,if_false]
     -- the loop over the fields
     have loop:∀ (l:List Field) (ls:List Nat) (b:Bool),Pj P (Jr P d) s0 at_ l=some ls->vI fx fy ls=some b ->
       (forIn l ((none,()):Option Bool×Unit) (fun f __s =>
        if f.name ≠ "_" then do
         let __do_lift <- part f.type xs f.offset
         let __do_lift_1 <- part f.type ys f.offset
         let __do_lift <- Op.equalIn D f.type __do_lift __do_lift_1
         if (!__do_lift)=true then pure (ForInStep.done (some false,()))
          else pure (ForInStep.yield (none,()))
        else pure (ForInStep.yield (none,()))):Sem (Option Bool×Unit)).run P w=.ok (if b then none else some false,()) w:=by
      intro l
      induction l with
      | nil=>intro ls b h hc;simp [Pj] at h;subst h;simp [vI] at hc;subst hc;simp
      | cons f l ihl =>
       intro ls b h hc;unfold Pj at h
       split at h
       .simp at h
       .rename_i wB
        split at h
        .rename_i sf g l1 ls2 e1 e2 e3 e4
         split at h
         .rename_i aB;simp at h;subst h;rw [VZ] at hc;obtain ⟨v1,r1,r2⟩:=zog (t:=t) e1 e2 aB.2 aB.1 q3 EG;obtain ⟨v2,r3,r4⟩:=zog (t:=t) e1 e2 aB.2 aB.1 p3 KX;rw [List.forIn_cons,if_pos wB]
          cases hb:vI fx fy l1 with
          | none=>rw [hb] at hc;simp at hc
          | some b1 =>
           have:=ih _ _ _ _ _ _ e3 hb D (by omega) _ _ r2 r4;rw [hb] at hc;simp only [Sem.run_bind,r1,r3,this,Result.andThen_ok]
           cases b1 with
           | true =>
            simp only at hc;simp only [Bool.not_true,Bool.false_eq_true,if_false,Sem.run_pure,Result.andThen_ok];exact ihl _ _ e4 hc
           | false =>
            simp at hc;subst hc;simp
         .simp at h
        .simp at h
     have:=loop fs.toList ls b h hc;rw [<- Array.forIn_toList]
     erw [this]
     cases b<;>simp
    .simp at h
  .simp at h
theorem zo5 (hE:aV (aQ S base φ H w) φ w env a) {X Y:Operand} {x y:aa} {op:BinOp} {t t':TypeId} {s:Nat} {ls:List Nat} {b:Bool} {fs:Array Field} (hx:zB X=some x) (hy:zB Y=some y) (hu:P.underlying t=some (.struct fs)) (xU:Jr P 8 t 0=some ls) (hs:zU P t=some s)
  (ah:o.op=.binOp op t X Y t') (PN:op=.eql\/op=.neq) (y8:(∃ cs,x.eval env=.agg cs)\/∃ ps,x.eval env=.pure (.agg ps)) (hay:(∃ cs,y.eval env=.agg cs)\/∃ ps,y.eval env=.pure (.agg ps))
  (xV:(x.eval env).cells.length=s) (hly:(y.eval env).cells.length=s) (hc:vI (x.eval env).cells (y.eval env).cells ls=some b) :
  iJ C S base φ H w (.val (.pure (.bool (b != (op == .neq))))) ((execOp a.eval o).run P w):=by
 have aux:∀ {Z:Operand} {z:aa},zB Z=some z->((∃ cs,z.eval env=.agg cs)\/∃ ps,z.eval env=.pure (.agg ps))->(z.eval env).cells.length=s->∃ vs,a.eval Z=.agg vs/\TN P (aQ S base φ H w) φ w t 0 (z.eval env).cells (.agg vs):=by
  intro Z z hz haz hlz;have hv:=zC hE hz;have hu':z.eval env≠.undef:=by rcases haz with ⟨cs,e⟩|⟨ps,e⟩<;>rw [e]<;>simp
  have sI:=hv.cells hu';have hX:∃ vs,a.eval Z=.agg vs:=by
   rcases haz with ⟨cs,e⟩|⟨ps,e⟩<;>rw [e] at hv
   .exact hv.lS
   .exact hv.au.lS
  obtain ⟨vs,hX⟩:=hX;rw [hX] at sI
  refine ⟨vs,hX,s,true,hs,by simp [jW,hu],by omega,?_⟩
  simp only [if_true]
  refine ⟨vs,rfl,?_⟩
  rw [List.drop_zero,List.take_of_length_le (by omega)];exact sI
 obtain ⟨vs,e1,r1⟩:=aux hx y8 xV;obtain ⟨us,e2,r2⟩:=aux hy hay hly;have heq:=ztx 8 t 0 ls _ _ b xU hc 10000 (by decide) _ _ r1 r2;have K8:P.eqGuardType P.depth t=false:=by
  unfold Jr at xU;rw [hu] at xU;simp only at xU
  split at xU
  .simp at xU
  .rename_i h;simp at h;exact h.2
 have hg:(eqGuard op t X Y (a.eval X) (a.eval Y)).run P w=.ok () w:=by
  rw [e1,e2];rcases PN with rfl|rfl<;>simp [eqGuard,K8]
 refine zQ (v:=.bool (b != (op == .neq))) ?_ (.pure _ _ (.bool _))
 rcases PN with rfl|rfl
 .simp only [execOp,ah,Sem.run_bind,hg,Result.andThen_ok];rw [e1,e2];simp [binOp,Op.equal,Op.maxDepth,heq]
  cases b<;>rfl
 .simp only [execOp,ah,Sem.run_bind,hg,Result.andThen_ok];rw [e1,e2];simp [binOp,Op.equal,Op.maxDepth,heq]
  try (cases b<;>rfl)
end
end Go.Proofs.YtmmhnfghklppiaaGreat.Vm
