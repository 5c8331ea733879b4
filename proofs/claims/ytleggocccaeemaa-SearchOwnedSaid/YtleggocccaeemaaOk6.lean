/- Each operation of the machine does what the model's operation does: texts and bytes, make, append, clear, the comparison of structs of numbers. Each operation of the machine does what the model's operation does: texts and bytes, make, clear, structs of numbers compared. Each operation of the machine does what the model's operation does: make, clear, structs of numbers compared. -/
import Derived.Test.YtleggocccaeemaaOk5
import Derived.Laws.Append
namespace Go.Proofs.Ytleggocccaeemaa.Vm
open Go Go.RowKit
set_option linter.unusedVariables false
set_option linter.unusedSimpArgs false
section
variable {C:Comp} {P:Program} {S:Bool->Nat->Prop} {base:Nat} {φ:Phi} {H:Heap} {w:World} {env:Env} {a:Act} {e:Eff} {o:Oper} {I:Bool->Nat->Prop}
theorem zd2 {α:Type} {sz:Nat}:∀ {es:List (List α)},(∀ e∈es,e.length=sz)->∀ {j:Nat} {p:α},es.flatten[j]?=some p->0 < sz->∃ e,es[j / sz]?=some e/\e[j % sz]?=some p
 | [],_,j,p,h,_=>by simp at h
 | e::es,hz,j,p,h,h0=>by
  rw [List.flatten_cons] at h;have he:=hz e (List.mem_cons_self ..)
  by_cases hj:j < sz
  ·rw [List.getElem?_append_left (by omega)] at h;exact ⟨e,by rw [Nat.div_eq_of_lt hj];rfl,by rw [Nat.mod_eq_of_lt hj];exact h⟩
  ·rw [List.getElem?_append_right (by omega),he] at h;obtain ⟨e',h1,h2⟩:=zd2 (fun x hx=>hz x (List.mem_cons_of_mem _ hx)) h h0
   refine ⟨e',?_,?_⟩
   ·have:j / sz=(j - sz) / sz+1:=by
     rw [show j=(j - sz)+sz by omega,Nat.add_div_right _ h0];simp
    rw [this]
    simpa using h1
   ·rw [Nat.mod_eq_sub_mod (by omega)];exact h2
theorem zdY {α:Type} {sz:Nat}:∀ {es:List (List α)},(∀ e∈es,e.length=sz)->es.flatten.length=es.length*sz
 | [],_=>by simp
 | e::es,hz=>by
  rw [List.flatten_cons,List.length_append,hz e (List.mem_cons_self ..),zdY fun x hx=>hz x (List.mem_cons_of_mem _ hx),List.length_cons,Nat.add_mul];omega
theorem zcR (hH:HRel C S base φ H w) {sz m:Nat} {av:AV} {v:Value} {cs:List AV} (h0:0 < sz) (hv:VRel (Imm S base φ H w) φ w av v) (h:zJ H sz av=some (cs,m)) :
  ∃ ad cap vs,v=.slice ad m cap/\VRels (Imm S base φ H w) φ w cs vs/\cs.length=m*sz/\(ad=none->m=0)/\∀ a,ad=some a->∀ (j:Nat) u,vs[j]?=some u->w.cell? (a.add j)=some u:=by
 unfold zJ at h
 split at h
 ·simp at h;obtain ⟨rfl,rfl⟩:=h;exact ⟨none,0,[],hv.pure_inv.nils_inv,.nil,by simp,(fun _=>rfl),(fun a ha=>by cases ha)⟩
 ·rename_i s es
  split at h
  ·rename_i hall;simp only [Option.some.injEq,Prod.mk.injEq] at h;obtain ⟨rfl,rfl⟩:=h;obtain ⟨b,q,cap,val,f1,f2,f3,f4,f5⟩:=hv.pure_inv.slice_inv;have hz:∀ e∈es,e.length=sz:=fun e he=>by
    have:=List.all_eq_true.1 hall e he
    simpa using this
   -- the sizes agree where there is an element
   have hs:∀ (i:Nat) e,es[i]?=some e->s=sz:=fun i e he=>(f3 i e he).symm.trans (hz e (List.mem_of_getElem? he));have hlen:=zdY hz
   refine ⟨some ⟨b,q,none⟩,cap,(List.range (es.length*sz)).map fun j=>val (j / sz) (j % sz),f1,⟨by rw [List.length_map,hlen];simp,fun i p u hp hu=>?_⟩,by rw [List.length_map,hlen],⟨(fun h=>by cases h),fun a ha j u hu=>?_⟩⟩
   ·rw [List.getElem?_map] at hp
    cases hq:es.flatten[i]? with
    | none=>rw [hq] at hp;simp at hp
    | some p' =>
     rw [hq] at hp;simp at hp;subst hp;obtain ⟨e,g1,g2⟩:=zd2 hz hq h0;have hi:i < es.length*sz:=by have:=(List.getElem?_eq_some_iff.1 hu).1;simpa using this
     simp [hi] at hu;subst hu;exact .pure _ _ (f5 _ _ _ _ g1 g2)
   ·have hi:j < es.length*sz:=by have:=(List.getElem?_eq_some_iff.1 hu).1;simpa using this
    simp [hi] at hu;subst hu;simp at ha;subst ha;have hq:es.flatten[j]?=some (es.flatten[j]'(by omega)):=List.getElem?_eq_getElem (by omega);obtain ⟨e,g1,g2⟩:=zd2 hz hq h0;rw [zaQ];have:=(f4 _ _ _ _ g1 g2).2;rw [hs _ _ g1] at this;rw [<- this]
    congr 2
    have:=Nat.div_add_mod j sz;rw [Nat.mul_comm] at this;omega
  ·simp at h
 ·rename_i id s off len
  split at h
  ·rename_i hss;subst hss
   split at h
   ·rename_i own ds hg
    split at h
    ·rename_i hle;simp at h;obtain ⟨rfl,rfl⟩:=h;obtain ⟨b,n,cap,hid,f2,f3,f4⟩:=hv.row_inv;have ho:=hH.obj _ _ _ hid;rw [hg] at ho;obtain ⟨c,t,fz,h1,h2,h3,h4,h5⟩:=ho
     refine ⟨some ⟨b,off*s,none⟩,cap,(c.toList.drop (off*s)).take (len*s),f2,⟨by simp;omega,fun i p u hp hu=>?_⟩,by simp;omega,⟨(fun h=>by cases h),fun a ha j u hu=>?_⟩⟩
     ·have hi:i < len*s:=by have:=(List.getElem?_eq_some_iff.1 hp).1;simp at this;omega
      rw [List.getElem?_take_of_lt hi,List.getElem?_drop] at hp hu;exact h5 _ _ _ hp (by simpa using hu)
     ·have hi:j < len*s:=by have:=(List.getElem?_eq_some_iff.1 hu).1;simp at this;omega
      rw [List.getElem?_take_of_lt hi,List.getElem?_drop] at hu;simp at ha;subst ha;rw [zaQ];simp only [World.cell?,h1]
      simpa using hu
    ·simp at h
   ·simp at h
  ·simp at h
 ·simp at h
theorem zbn {ad:Option Addr} {m cap size:Nat} {vs:List Value} (hl:vs.length=m*size) (hn:ad=none->m=0) (hc:∀ a,ad=some a->∀ (j:Nat) u,vs[j]?=some u->w.cell? (a.add j)=some u) :
  (Builtin.firstCells size m (.slice ad m cap)).run P w=.ok vs.toArray w:=by
 cases ad with
 | none =>
  have:=hn rfl;subst this;have:vs=[]:=List.eq_nil_of_length_eq_zero (by simpa using hl);subst this;rfl
 | some a =>
  simp only [Builtin.firstCells];rw [<- hl];exact run_loadCells_list (w:=w) a vs (hc a rfl)
theorem zm9 {cs:List AV} {vs:List Value} (h:VRels I φ w cs vs) (h1:cs.all AV.one=true):∀ v∈vs,v.oneCell'=true:=fun v hv=>by
 obtain ⟨i,hi⟩:=List.getElem?_of_mem hv;have hil:i < cs.length:=by have:=(List.getElem?_eq_some_iff.1 hi).1;have:=h.1;omega
 exact (h.2 i _ _ (List.getElem?_eq_getElem hil) hi).one (List.all_eq_true.1 h1 _ (List.getElem_mem hil))
structure AppT (P:Program) (t u:TypeId) (s b:Nat):Prop where
 ex:∃ e e':TypeId,P.underlying t=some (.slice e)/\P.underlying u=some (.slice e')/\zR P e=some s/\zdv P e=some b/\∃ z,zbi P e=some z/\z.length=s
 pos:0 < s
 bpos:0 < b
theorem zc4 {t u ty:TypeId} {s b:Nat} (hT:AppT P t u s b) {x y:Value} {bs:Option Addr} {n cap m cap':Nat} {ad:Option Addr} {olds news:List Value} (hx:x=.slice bs n cap) (hy:y=.slice ad m cap') (hn:¬ n+m<=cap) (hncap:n<=cap)
  (hbytes:(n+m)*b<=140737488355328) (hold:(Builtin.firstCells s n x).run P w.drew=.ok olds.toArray w.drew) (hnew:(Builtin.firstCells s m y).run P w.drew=.ok news.toArray w.drew)
  (hol:olds.length=n*s) (hnl:news.length=m*s) :
  ∃ (c:Array Value) (e:TypeId) (cp:Nat),(Builtin.append_ #[t,u] ty #[x,y]).run P w=.ok (.slice (some ⟨w.heap.size,0,none⟩) (n+m) cp) ((w.drew).alloc (.cells c e))/\n+m<=cp/\c.size=cp*s /\
   ∃ rest,c.toList=olds++news++rest:=by
 obtain ⟨e,e',ht,hu,hs,hb,z,hz,hzl⟩:=hT.ex;have hi:∃ i,P.info? e=some i/\i.size=s/\i.bytes=b:=by
  unfold zR at hs;unfold zdv at hb
  cases hi:P.info? e with
  | none=>simp [hi] at hs
  | some i=>simp [hi] at hs hb;exact ⟨i,rfl,hs,hb⟩
 obtain ⟨i,hi,his,hib⟩:=hi;obtain ⟨zv,hzv,hzc,hzs⟩:=zbZ (w:=w.drew) hz;have hzsz:zv.cells.size=s:=by
  have:=(zcL (I:=fun _ _=>True) (w:=w) hzc).1;simp at this;omega
 subst hx;subst hy;have hgrow:=growslice_fits (bytes:=b) (by omega:cap < n+m) hbytes;have hforced:(Question.appendCap (n+m) cap e).forced=false:=rfl
 let cp:=(Question.appendCap (n+m) cap e).cut (w.tape w.drawn (.appendCap (n+m) cap e))
 have hcp:n+m<=cp:=by show n+m<=(n+m)+_;omega
 let rest:=Builtin.zeroCells zv.cells (cp - (n+m))
 have hrs:rest.size=(cp - (n+m))*s:=by simp [rest,Builtin.zeroCells,hzsz]
 refine ⟨olds.toArray++news.toArray++rest,e,cp,?_,hcp,?_,rest.toList,by simp⟩
 ·have hsz:∀ w,(sizeOf e).run P w=.ok s w:=fun w=>zO hs;have htI:∀ w,(typeInfo e).run P w=.ok i w:=fun w=>zbb hi;simp only [Builtin.append_,List.getElem?_toArray,List.getElem?_cons_zero,List.getElem?_cons_succ,Sem.run_bind,ze ht,ze hu,Result.andThen_ok,hsz,Sem.run_pure,Builtin.lenOf];rw [if_neg (by simp)];simp only [pure_bind];rw [if_neg hn];simp only [Sem.run_bind,htI,Result.andThen_ok];rw [if_neg (by
   rintro ⟨_,h⟩;rcases h with h|h
   ·cases h
   ·rw [hib] at h;have:=hT.bpos;omega)]
  simp only [Sem.run_bind,htI,Result.andThen_ok];rw [if_neg (by rw [hib];omega)];have hdrew:({ w with drawn:=w.drawn+1 }:World)=w.drew:=rfl;simp only [Sem.run_bind,Sem.run_pure,run_choose,hforced,Bool.false_eq_true,if_false,Result.andThen_ok,htI,run_askRoom,hdrew,hold,Bool.not_false,if_true,hnew,hzv,newRow,run_newObj];rfl
 ·simp only [Array.size_append,List.size_toArray,hrs,hol,hnl];have h3:cp=n+m+(cp - (n+m)):=by omega
  rw [h3,Nat.add_mul,Nat.add_mul];simp
theorem zdV {t u ty:TypeId} {s b:Nat} (hT:AppT P t u s b) {x y:Value} {ba:Addr} {n cap m cap':Nat} {ad:Option Addr} {news:List Value} (hx:x=.slice (some ba) n cap) (hy:y=.slice ad m cap') (hn:n+m<=cap)
  (hnew:(Builtin.firstCells s m y).run P w=.ok news.toArray w) {w':World} (hst:(storeCells (ba.add (n*s)) news).run P w=.ok () w') :
  (Builtin.append_ #[t,u] ty #[x,y]).run P w=.ok (.slice (some ba) (n+m) cap) w':=by
 obtain ⟨e,e',ht,hu,hs,hb,z,hz,hzl⟩:=hT.ex;subst hx;subst hy;have hsz:∀ w,(sizeOf e).run P w=.ok s w:=fun w=>zO hs;simp only [Builtin.append_,List.getElem?_toArray,List.getElem?_cons_zero,List.getElem?_cons_succ,Sem.run_bind,ze ht,ze hu,Result.andThen_ok,hsz,Sem.run_pure,Builtin.lenOf];rw [if_neg (by simp)];simp only [pure_bind];rw [if_pos hn];simp only [Sem.run_bind,Bool.not_false,if_true,hnew,Result.andThen_ok,hst,Sem.run_pure]
theorem zbx (w:World) (o:Obj):w.heap.size < (w.drew.alloc o).heap.size:=by
 rw [World.size_alloc];exact Nat.lt_succ_self _
theorem zaJ {t u:TypeId} {c:Call} {X Y:Operand} (hop:o.op=.call c) (hc:c.callee=.builtin .append) (h1:c.args.toList=[X,Y]) (h2:c.argTypes.toList=[t,u]) {v:Value} {w':World}
  (h:(Builtin.append_ #[t,u] o.type #[a.eval X,a.eval Y]).run P w=.ok v w'):(execOp a.eval o).run P w=.ok (.value v) w':=by
 have ha:c.args=#[X,Y]:=by rw [<- h1]
 have hb:c.argTypes=#[t,u]:=by rw [<- h2]
 simp only [execOp,hop,resolve,hc,invoke,builtin,ha,hb,Sem.run_bind,Sem.run_pure,Result.andThen_ok,List.map_toArray,List.map_cons,List.map_nil,h]
theorem zlp (hH:HRel C S base φ H w) (hE:ERel (Imm S base φ H w) φ w env a) {X Y:Operand} {x y:Opnd} {t u:TypeId} {s b:Nat} {c:Call} (hx:zu X=some x) (hy:zu Y=some y) (hT:AppT P t u s b)
  (hop:o.op=.call c) (hc:c.callee=.builtin .append) (h1:c.args.toList=[X,Y]) (h2:c.argTypes.toList=[t,u]) (hfr:φ H.nx=none) (h:zi H s b (x.eval env) (y.eval env)=some e) :
  Ran C S base φ H w e ((execOp a.eval o).run P w):=by
 have hxv:=zw hE hx;have hyv:=zw hE hy;have hpos:=hT.pos;unfold zi at h
 split at h
 ·simp at h
 ·rename_i new m hsc;obtain ⟨ad,cap',news,f1,f2,f3,f4,f5⟩:=zcR hH hpos hyv hsc;have hnl:news.length=m*s:=by have:=f2.1;omega
  split at h
  ·simp at h
  ·rename_i hone;have hone':new.all AV.one=true:=by simpa using hone
   have hfc:∀ w':World,(∀ a,ad=some a->∀ (j:Nat) v,news[j]?=some v->w'.cell? (a.add j)=some v)->(Builtin.firstCells s m (.slice ad m cap')).run P w'=.ok news.toArray w':=fun w' hc'=>zbn hnl f4 hc'
   split at h
   ·-- onto nothing
    rename_i heq;rw [heq] at hxv;have hX:=hxv.pure_inv.nils_inv
    split at h
    ·rename_i hm;subst hm;simp at h;subst h;have hnews:news=[]:=List.eq_nil_of_length_eq_zero (by simpa using hnl)
     refine zN (v:=.slice none 0 0) (zaJ hop hc h1 h2 ?_) (.pure _ _ .nils)
     obtain ⟨e,e',ht,hu,hs,hb,z,hz,hzl⟩:=hT.ex;have hsz:∀ w,(sizeOf e).run P w=.ok s w:=fun w=>zO hs;rw [hX,f1];simp only [Builtin.append_,List.getElem?_toArray,List.getElem?_cons_zero,List.getElem?_cons_succ,Sem.run_bind,ze ht,ze hu,Result.andThen_ok,hsz,Sem.run_pure,Builtin.lenOf];rw [if_neg (by simp)];simp only [pure_bind,Nat.add_zero,Nat.le_refl,if_true,Bool.not_false,Sem.run_bind,hfc w f5,Result.andThen_ok,Sem.run_pure]
    ·rename_i hm
     split at h
     ·rename_i hmax;simp at h;subst h;have hb':(0+m)*b<=140737488355328:=by rw [Nat.zero_add];have:=hmax.2;simp only [zn] at this;omega
      obtain ⟨c',e,cp,g1,g2,g3,rest,g4⟩:=zc4 (ty:=o.type) (olds:=[]) hT hX f1 (by omega) (Nat.le_refl 0) hb' (by rw [hX];rfl) (by rw [f1];exact hfc _ f5) (by simp) hnl;have hlen:new.length<=c'.size:=by
       have:c'.toList.length=c'.size:=by simp
       rw [g4] at this;simp at this;have:=f2.1;omega
      refine .inl ⟨_,_,zaJ hop hc h1 h2 g1,w.heap.size,c'.size,((Below.refl _ w).drew).alloc (Nat.le_refl _) _,Nat.le_refl _,zbx w _,?_,fun I' φ' id hid=>?_⟩
      ·refine ⟨c',e,(0,0),heap_alloc_new w.drew _,rfl,hlen,fun j _ hj=>by simp at hj,fun j av v ha hv=>?_⟩
       have hj:j < news.length:=by have:=(List.getElem?_eq_some_iff.1 ha).1;have:=f2.1;omega
       rw [<- Array.getElem?_toList,g4,List.nil_append,List.getElem?_append_left hj] at hv;exact VRel.mono (w:=w) (fun _ b hb=>⟨hb,Below.heap_alloc w.drew _ b hb.2.1⟩) (fun _ _ h=>h) (f2.2 j av v ha hv)
      ·have:(0+m)=m:=by omega
       rw [this] at g2 ⊢;exact .row id s 0 m _ _ 0 cp hid (by simp) g2 (by simp [g3])
     ·simp at h
   ·-- onto a row
    rename_i id s' off n heq;rw [heq] at hxv;obtain ⟨bb,nb,cap,hid,hX,hcap,hfull⟩:=hxv.row_inv
    split at h
    ·rename_i hss;subst hss
     split at h
     ·rename_i ds hg;have ho:=hH.obj _ _ _ hid;rw [hg] at ho;obtain ⟨c0,t0,fz,q1,q2,q3,q4,q5⟩:=ho
      split at h
      ·-- room within what is known
       rename_i hroom;simp only [Option.some.injEq] at h;subst h;have hle:off*s'+n*s'+new.length<=ds.length:=by rw [Nat.add_mul] at hroom;omega
       obtain ⟨w',e1,e2,e3⟩:=zfy (P:=P) (off:=off*s'+n*s') hH hid hg f2 hone' hle;have hfit:n+m<=cap:=by
        have h3:(off+(n+m))*s'<=(off+cap)*s':=by rw [Nat.add_mul,hfull];omega
        have:=Nat.le_of_mul_le_mul_right h3 hpos;omega
       refine .inl ⟨_,w',zaJ hop hc h1 h2 (zdV hT hX f1 hfit (by rw [f1];exact hfc w f5) (by rw [zaQ];exact e1)),φ,?_⟩
       have e9:off*s'+(n+m)*s'=off*s'+n*s'+new.length:=by rw [Nat.add_mul,f3];omega
       rw [e9];exact ⟨e2,e3,.row id s' off (n+m) bb nb _ cap hid rfl hfit hfull⟩
      ·rename_i hroom
       split at h
       ·rename_i hcond;obtain ⟨rfl,hn,hm1,hm2⟩:=hcond;simp at h;subst h;have hbytes:(n+m)*b<=140737488355328:=by simp only [zn] at hm2;omega
        have hcells:VRels (Imm S base φ H w) φ w ds (c0.toList.take ds.length):=⟨by simp;omega,fun i p u hp hu=>by
         have hi:i < ds.length:=(List.getElem?_eq_some_iff.1 hp).1;rw [List.getElem?_take_of_lt hi] at hu;exact q5 i p u hp (by simpa using hu)⟩
        by_cases hfit:n+m<=cap
        ·-- in place: the row gets a new name
         -- first as a longer piece of memory under the old name
         have hbig:(n+m)*s'<=c0.size:=by
          rw [q2,<- hfull];exact Nat.mul_le_mul_right _ (by omega)
         obtain ⟨w',c',e1,e2,e3,e4,e5,e6,e7,e8⟩:=zci (P:=P) bb (0*s'+n*s') t0 fz news 0 c0 w q1 (by rw [Nat.add_mul] at hbig;omega) (zm9 f2 hone') (fun j hj=>q4 j (by omega));have hc's:c'.size=nb:=by
          have:c'.toList.length=nb:=by rw [e8];rw [Nat.add_mul] at hbig;simp;omega
          simpa using this
         have hImm:∀ k c,Imm S base φ H w k c->c≠bb:=fun k c hc e=>hc.2.2 ⟨id,nb,e ▸ hid,by rw [hg];rfl⟩;have hw:=hH.write (o:=.cells true (ds++new)) hid (by rw [hg];rfl) e2 e3 e4 e5 e6 ⟨c',t0,fz,e7,hc's,by rw [List.length_append,f3,<- hn];rw [Nat.add_mul] at hbig;omega,fun j hj=>q4 j hj,fun j av v ha hv=>by
          have hmix:=hcells.append f2
          refine (hmix.2 j av v ha ?_).mono (fun k c hc=>⟨hc,e6 c (hImm k c hc)⟩) (fun _ _ h=>h)
          rw [<- Array.getElem?_toList,e8] at hv;rw [<- hv];have hj:j < ds.length+new.length:=by have:=(List.getElem?_eq_some_iff.1 ha).1;simpa using this
          have e10:0*s'+n*s'+0=ds.length:=by omega
          have hlt:(c0.toList.take ds.length).length=ds.length:=by rw [List.length_take];simp;omega
          rw [e10];exact (List.getElem?_append_left (l₁:=c0.toList.take ds.length++news) (by rw [List.length_append,hlt];have:=f2.1;omega)).symm⟩
         have hr:=hw.2.rename (id:=id) (o:=.cells true (ds++new)) hid (zaS (hH.nx _ _ hid)) rfl (by exact hfr);have hheap:((H.set id (.cells true (ds++new))).set id .dead).alloc (.cells true (ds++new))=(H.set id .dead).alloc (.cells true (ds++new)):=by
          refine Heap.ext' rfl fun i=>?_
          simp only [Heap.alloc,Heap.set,upd]
          by_cases hi:i=H.nx
          ·simp [hi]
          ·by_cases hi2:i=id<;>simp [hi,hi2]
         rw [hheap] at hr
         refine .inl ⟨_,w',zaJ hop hc h1 h2 (zdV hT hX f1 hfit (by rw [f1];exact hfc w f5) (by rw [zaQ];exact e1)),_,hw.1.trans hr.1,hr.2,?_⟩
         exact .row H.nx s' 0 (n+m) bb nb _ cap (z8 _ _) rfl hfit hfull
        ·-- a new row
         have holds:(Builtin.firstCells s' n (.slice (some ⟨bb,0*s',none⟩) n cap)).run P w.drew=.ok (c0.toList.take ds.length).toArray w.drew:=by
          refine zbn (by simp;omega) (fun h=>by cases h) fun a ha j u hu=>?_
          simp at ha;subst ha;rw [zaQ];have hi:j < ds.length:=by have:=(List.getElem?_eq_some_iff.1 hu).1;simp at this;omega
          rw [List.getElem?_take_of_lt hi] at hu;show w.drew.cell? _=_;have hq1:w.drew.heap[bb]?=some (.cells c0 t0 fz):=q1;simp only [World.cell?,hq1]
          simpa using hu
         obtain ⟨c',e,cp,g1,g2,g3,rest,g4⟩:=zc4 (ty:=o.type) (olds:=c0.toList.take ds.length) hT hX f1 hfit hcap hbytes (by rw [hX];exact holds) (by rw [f1];exact hfc _ f5) (by simp;omega) hnl;have hk:=hH.kill id;have hlen:(ds++new).length<=c'.size:=by
          have:c'.toList.length=c'.size:=by simp
          rw [g4] at this;simp at this ⊢;have:=f2.1;omega
         have hmix:=hcells.append f2;have hnew:=hk.2.new (H':=(H.set id .dead).alloc (.cells true (ds++new))) (w':=w.drew.alloc (.cells c' e)) (id:=H.nx) (b:=w.heap.size) (n:=c'.size) (o:=.cells true (ds++new))
          (((Below.refl _ w).drew).alloc (Nat.le_refl _) _) hfr (zaG (H:=H.set id .dead)) (fun i hi _=>zas (H:=H.set id .dead) hi) (Nat.lt_succ_self _) (Nat.le_succ _) (Nat.le_refl _) (zbx w _)
          ⟨c',e,(0,0),heap_alloc_new w.drew _,rfl,hlen,fun j _ hj=>by simp at hj,fun j av v ha hv=>by
           have hj:j < ds.length+new.length:=by have:=(List.getElem?_eq_some_iff.1 ha).1;simpa using this
           rw [<- Array.getElem?_toList,g4,List.getElem?_append_left (by have:=f2.1;simp;omega)] at hv;exact VRel.mono (w:=w) (fun _ b hb=>⟨(hk.1.imm hb).1,Below.heap_alloc w.drew _ b hb.2.1⟩) (fun _ _ h=>h) (hmix.2 j av v ha hv)⟩
         refine .inl ⟨_,_,zaJ hop hc h1 h2 g1,_,hk.1.trans hnew.1,hnew.2,?_⟩
         exact .row H.nx s' 0 (n+m) _ _ 0 cp (z8 _ _) (by simp) g2 (by simp [g3])
       ·simp at h
     ·simp at h
    ·simp at h
   ·-- onto a row that is cut at its end
    rename_i id s' off n heq;rw [heq] at hxv;obtain ⟨bb,nb,hid,hX⟩:=hxv.rowc_inv
    split at h
    ·rename_i hss;subst hss
     split at h
     ·rename_i hm;subst hm;simp at h;subst h;have hnews:news=[]:=List.eq_nil_of_length_eq_zero (by simpa using hnl)
      refine zN (v:=.slice (some ⟨bb,off*s',none⟩) n n) (zaJ hop hc h1 h2 ?_) (.rowc id s' off n bb nb _ hid rfl)
      obtain ⟨e,e',ht,hu,hs,hb,z,hz,hzl⟩:=hT.ex;have hsz:∀ w,(sizeOf e).run P w=.ok s' w:=fun w=>zO hs;rw [hX,f1];simp only [Builtin.append_,List.getElem?_toArray,List.getElem?_cons_zero,List.getElem?_cons_succ,Sem.run_bind,ze ht,ze hu,Result.andThen_ok,hsz,Sem.run_pure,Builtin.lenOf];rw [if_neg (by simp)];simp only [pure_bind,Nat.add_zero,Nat.le_refl,if_true,Bool.not_false,Sem.run_bind,hfc w f5,Result.andThen_ok,Sem.run_pure];rw [hnews];simp [storeCells]
     ·rename_i hm0
      split at h
      ·rename_i own ds hg
       split at h
       ·rename_i hcond;obtain ⟨hdl,hm1,hm2⟩:=hcond;simp at h;subst h;have ho:=hH.obj _ _ _ hid;rw [hg] at ho;obtain ⟨c0,t0,fz,q1,q2,q3,q4,q5⟩:=ho;have hbytes:(n+m)*b<=140737488355328:=by simp only [zn] at hm2;omega
        have hcells:VRels (Imm S base φ H w) φ w ((ds.drop (off*s')).take (n*s')) (((c0.toList.take ds.length).drop (off*s')).take (n*s')):=by
         refine (VRels.drop ?_ _).take _
         exact ⟨by simp;omega,fun i p u hp hu=>by
          have hi:i < ds.length:=(List.getElem?_eq_some_iff.1 hp).1;rw [List.getElem?_take_of_lt hi] at hu;exact q5 i p u hp (by simpa using hu)⟩
        have hol:(((c0.toList.take ds.length).drop (off*s')).take (n*s')).length=n*s':=by simp;omega
        have holds:(Builtin.firstCells s' n (.slice (some ⟨bb,off*s',none⟩) n n)).run P w.drew=.ok (((c0.toList.take ds.length).drop (off*s')).take (n*s')).toArray w.drew:=by
         refine zbn (by simp;omega) (fun h=>by cases h) fun a ha j u hu=>?_
         simp at ha;subst ha;rw [zaQ];have hj:j < n*s':=by have:=(List.getElem?_eq_some_iff.1 hu).1;omega
         rw [List.getElem?_take_of_lt hj,List.getElem?_drop,List.getElem?_take_of_lt (by omega)] at hu;show w.drew.cell? _=_;have hq1:w.drew.heap[bb]?=some (.cells c0 t0 fz):=q1;simp only [World.cell?,hq1]
         simpa using hu
        have hfit:¬ n+m<=n:=by omega
        obtain ⟨c',e,cp,g1,g2,g3,rest,g4⟩:=zc4 (ty:=o.type) (olds:=((c0.toList.take ds.length).drop (off*s')).take (n*s')) hT hX f1 hfit (Nat.le_refl _) hbytes (by rw [hX];exact holds) (by rw [f1];exact hfc _ f5) hol hnl;have hmix:=hcells.append f2;have hdn:((ds.drop (off*s')).take (n*s')++new).length=n*s'+new.length:=by
         rw [List.length_append,List.length_take,List.length_drop];omega
        have hlen:((ds.drop (off*s')).take (n*s')++new).length<=c'.size:=by
         have:c'.toList.length=c'.size:=by simp
         rw [g4] at this;rw [hdn,<- this];simp only [List.length_append,hol];have:=f2.1;omega
        refine .inl ⟨_,_,zaJ hop hc h1 h2 g1,w.heap.size,c'.size,((Below.refl _ w).drew).alloc (Nat.le_refl _) _,Nat.le_refl _,zbx w _,?_,fun I' φ' id hid=>?_⟩
        ·refine ⟨c',e,(0,0),heap_alloc_new w.drew _,rfl,hlen,fun j _ hj=>by simp at hj,fun j av v ha hv=>?_⟩
         have hj:j < (((c0.toList.take ds.length).drop (off*s')).take (n*s')++news).length:=by
          have:=(List.getElem?_eq_some_iff.1 ha).1;rw [hdn] at this;rw [List.length_append,hol];have:=f2.1;omega
         rw [<- Array.getElem?_toList,g4,List.getElem?_append_left hj] at hv;exact VRel.mono (w:=w) (fun _ b hb=>⟨hb,Below.heap_alloc w.drew _ b hb.2.1⟩) (fun _ _ h=>h) (hmix.2 j av v ha hv)
        ·exact .row id s' 0 (n+m) _ _ 0 cp hid (by simp) g2 (by simp [g3])
       ·simp at h
      ·simp at h
    ·simp at h
   ·simp at h
end
section
variable {C:Comp} {P:Program} {S:Bool->Nat->Prop} {base:Nat} {φ:Phi} {H:Heap} {w:World} {env:Env} {a:Act} {e:Eff} {o:Oper} {I:Bool->Nat->Prop}
theorem zi1 (hE:ERel (Imm S base φ H w) φ w env a) {X:Operand} {x:Opnd} {s t:TypeId} {b:ByteArray} (hx:zu X=some x) (hs:P.underlying s=some .string) (ht:P.underlying t=some .string)
  (hop:o.op=.convert s t X) (hv:x.eval env=.pure (.str b)):Ran C S base φ H w (.val (.pure (.str b))) ((execOp a.eval o).run P w):=by
 have h:=zw hE hx;rw [hv] at h
 refine zN (v:=.string b) ?_ (.pure _ _ (.str _))
 simp only [execOp,hop,convert,Sem.run_bind,ze hs,ze ht,Result.andThen_ok,h.str_inv];rfl
theorem zfa {b n:Nat} {e:TypeId} (h:w.shape? b=some (e,n)):(markStringish ⟨b,0,none⟩).run P w=.ok () (w.freeze ⟨b,n,none⟩ 1):=by
 simp [markStringish,h]
theorem zjl (hE:ERel (Imm S base φ H w) φ w env a) {X:Operand} {x:Opnd} {s t el:TypeId} {b:ByteArray} (hx:zu X=some x) (hs:P.underlying s=some .string) (ht:P.underlying t=some (.slice el)) (he:P.underlying el=some (.int .u8)) (hsz:zR P el=some 1)
  (hop:o.op=.convert s t X) (hv:x.eval env=.pure (.str b)) :
  Ran C S base φ H w (.new (.cells true (b.data.toList.map fun b=>.pure (.int .u8 b.toNat))) fun id=>.row id 1 0 b.size) ((execOp a.eval o).run P w):=by
 have h:=zw hE hx;rw [hv] at h
 let cap:=(Question.appendCap b.size 0 el).cut (w.tape w.drawn (.appendCap b.size 0 el))
 have hcap:b.size<=cap:=by show b.size<=b.size+_;omega
 let c:Array Value:=(b.data.map fun b=>.int .u8 b.toNat)++Array.replicate (cap - b.size) (.int .u8 0)
 have hc:c.size=cap:=by simp only [c,Array.size_append,Array.size_map,Array.size_replicate];have:b.data.size=b.size:=rfl;omega
 have hw:((w.drew.alloc (.cells c el)).freeze ⟨w.heap.size,c.size,none⟩ 1)={ w.drew with heap:=w.heap.push (.cells c el (c.size,c.size+1)) }:=by
  simp only [World.freeze];rw [if_neg (by decide)];show World.mk _ _ _ _ _=World.mk _ _ _ _ _
  congr 1
  show (w.heap.push (.cells c el)).modify w.heap.size _=_;apply Array.ext_getElem?;intro i;rw [Array.getElem?_modify]
  by_cases hi:i=w.heap.size
  ·subst hi;simp
  ·rw [if_neg (fun h=>hi h.symm)];rw [Array.getElem?_push,Array.getElem?_push];simp [hi]
 have hbelow:Below w.heap.size w { w.drew with heap:=w.heap.push (.cells c el (c.size,c.size+1)) } :=
  ⟨rfl,rfl,rfl,by simp,fun k hk=>by show (w.heap.push _)[k]?=_;rw [Array.getElem?_push,if_neg (by omega)]⟩
 refine .inl ⟨.slice (some ⟨w.heap.size,0,none⟩) b.size cap,{ w.drew with heap:=w.heap.push (.cells c el (c.size,c.size+1)) },?_,w.heap.size,c.size,hbelow,Nat.le_refl _,by simp,?_,fun I' φ' id hid=>?_⟩
 ·rw [<- hw];have hforced:(Question.appendCap b.size 0 el).forced=false:=rfl;have hdrew:({ w with drawn:=w.drawn+1 }:World)=w.drew:=rfl;have hshape:(w.drew.alloc (.cells c el)).shape? w.heap.size=some (el,c.size):=by
   simp only [World.shape?,heap_alloc_new w.drew (.cells c el)];have:=heap_alloc_new w.drew (.cells c el);rw [show w.drew.heap.size=w.heap.size from rfl] at this;rw [this]
  have hrun:(Conv.stringToBytes el b).run P w=.ok (.slice (some ⟨w.heap.size,0,none⟩) b.size cap) ((w.drew.alloc (.cells c el)).freeze ⟨w.heap.size,c.size,none⟩ 1):=by
   unfold Conv.stringToBytes;rw [Sem.run_bind,run_choose,if_neg (by rw [hforced];simp)];simp only [Result.andThen_ok];rw [Sem.run_bind];show Result.andThen (.ok (⟨w.heap.size,0,none⟩:Addr) (w.drew.alloc (.cells c el))) _=_;rw [Result.andThen_ok,Sem.run_bind,zfa hshape];rfl
  simp only [execOp,hop,convert,Sem.run_bind,ze hs,ze ht,ze he,Result.andThen_ok,h.str_inv,hrun,Sem.run_pure]
 ·refine ⟨c,el,(c.size,c.size+1),by simp,rfl,by simp [hc];exact hcap,fun j hj hh=>by omega,fun j av v ha hv=>?_⟩
  rw [List.getElem?_map] at ha
  cases hq:b.data.toList[j]? with
  | none=>rw [hq] at ha;simp at ha
  | some q =>
   rw [hq] at ha;simp at ha;subst ha;have hj:j < b.data.size:=by have:=(List.getElem?_eq_some_iff.1 hq).1;simpa using this
   have:c[j]?=some (.int .u8 q.toNat):=by
    simp only [c];rw [Array.getElem?_append_left (by simpa using hj),Array.getElem?_map];rw [Array.getElem?_toList] at hq;rw [hq];rfl
   rw [this] at hv;simp at hv;subst hv;exact .pure _ _ (.int _ _)
 ·exact .row id 1 0 b.size _ _ 0 cap hid rfl hcap (by simp [hc])
theorem zhJ:∀ {cs:List AV} {vs:List Value} {bs:List UInt8} (s:ByteArray),VRels I φ w cs vs->cs.mapM zc8=some bs ->
  (forIn vs s fun c s=>match c with
   | .int .u8 n=>pure (ForInStep.yield (s.push (UInt8.ofNat n.toNat)))
   | x=>do
    stuck "bytesToString: byte expected"
    pure (ForInStep.yield s):Sem ByteArray).run P w=.ok ⟨s.data++bs.toArray⟩ w
 | [],vs,bs,s,hr,h=>by
  rw [hr.nil_inv];simp at h;subst h;simp
 | c::cs,vs,bs,s,hr,h=>by
  obtain ⟨v,vs',rfl,h1,h2⟩:=hr.cons_inv;rw [List.mapM_cons] at h
  cases hb:zc8 c with
  | none=>simp [hb] at h
  | some b =>
   cases hbs:cs.mapM zc8 with
   | none=>simp [hb,hbs] at h
   | some bs' =>
    simp [hb,hbs] at h;subst h;unfold zc8 at hb
    split at hb
    ·rename_i n;simp at hb;subst hb;have hv:=h1.int_inv;subst hv;rw [List.forIn_cons];simp only [Sem.run_bind,Sem.run_pure,Result.andThen_ok];rw [zhJ (s.push (UInt8.ofNat n.toNat)) h2 hbs];simp [ByteArray.push]
    ·simp at hb
theorem zl4 (hH:HRel C S base φ H w) (hE:ERel (Imm S base φ H w) φ w env a) {X:Operand} {x:Opnd} {s t el:TypeId} {cs:List AV} {m:Nat} {bs:List UInt8} (hx:zu X=some x) (hs:P.underlying s=some (.slice el)) (ht:P.underlying t=some .string) (he:P.underlying el=some (.int .u8))
  (hop:o.op=.convert s t X) (hc:zJ H 1 (x.eval env)=some (cs,m)) (hb:cs.mapM zc8=some bs):Ran C S base φ H w (.val (.pure (.str ⟨bs.toArray⟩))) ((execOp a.eval o).run P w):=by
 obtain ⟨ad,cap,vs,f1,f2,f3,f4,f5⟩:=zcR hH (by decide) (zw hE hx) hc;have hvl:vs.length=m:=by have:=f2.1;omega
 refine zN (v:=.string ⟨bs.toArray⟩) ?_ (.pure _ _ (.str _))
 simp only [execOp,hop,convert,Sem.run_bind,ze hs,ze ht,ze he,Result.andThen_ok,f1,Conv.bytesToString]
 cases ad with
 | none =>
  have hm:=f4 rfl;subst hm;have:vs=[]:=List.eq_nil_of_length_eq_zero hvl;subst this;have hcs:cs=[]:=List.eq_nil_of_length_eq_zero (by have:=f2.1;simpa using this);subst hcs;simp at hb;subst hb;rfl
 | some ad =>
  have hl:=run_loadCells_list (P:=P) (w:=w) ad vs (f5 ad rfl);rw [hvl] at hl;simp only [Sem.run_bind,hl,Result.andThen_ok];have:=zhJ (P:=P) ByteArray.empty f2 hb;simp only [List.forIn_toArray]
  erw [this]
  simp
end
theorem zgh {n:Int} (h:-9223372036854775808<=n) (h':n < 9223372036854775808):IntKind.i64.wrap n=n:=by
 simp only [IntKind.wrap,IntKind.bits,IntKind.signed,Bool.true_and]
 split
 ·rename_i h0;simp at h0;omega
 ·rename_i h0;simp at h0;omega
section
variable {C:Comp} {P:Program} {S:Bool->Nat->Prop} {base:Nat} {φ:Phi} {H:Heap} {w:World} {env:Env} {a:Act} {e:Eff} {o:Oper} {I:Bool->Nat->Prop}
theorem zhv (hE:ERel (Imm S base φ H w) φ w env a) {X Y:Operand} {x y:Opnd} {t el:TypeId} {s b:Nat} {z:List PV} {k k':IntKind} {n:Int} (hx:zu X=some x) (hy:zu Y=some y) (ht:P.underlying t=some (.slice el)) (hs:zR P el=some s) (hb:zdv P el=some b) (hz:zbi P el=some z)
  (h0:0 < s) (hzl:z.length=s) (hop:o.op=.makeSlice t X Y) (hl:x.eval env=.pure (.int k n)) (hc:y.eval env=.pure (.int k' n)) (hn:0<=n) (hm:n.toNat*b<=zn) (hm2:n.toNat<=zn) :
  Ran C S base φ H w (.new (.cells true ((List.replicate n.toNat (z.map AV.pure)).flatten)) fun id=>.row id s 0 n.toNat) ((execOp a.eval o).run P w):=by
 have h1:=zw hE hx;rw [hl] at h1;have h2:=zw hE hy;rw [hc] at h2;obtain ⟨v,hv,hcv,hsv⟩:=zbZ (w:=w) hz;have hvs:v.cells.size=s:=by rw [hs] at hsv;simpa using hsv.symm
 have hi:∃ i,P.info? el=some i/\i.bytes=b:=by
  unfold zdv at hb
  cases hi:P.info? el with
  | none=>simp [hi] at hb
  | some i=>simp [hi] at hb;exact ⟨i,rfl,hb⟩
 obtain ⟨i,hi,hib⟩:=hi;simp only [zn] at hm hm2;have hwrap:IntKind.i64.wrap n=n:=zgh (by omega) (by omega)
 let row:Array Value:=(Array.range (n.toNat*s)).map (v.cells[· % v.cells.size]!)
 have hrow:=zcb (I:=Imm S base φ H w) (φ:=φ) (w:=w) (n:=n.toNat) hcv (by omega) row (by simp [row,hzl]) (fun j hj=>by
   have hj':j < n.toNat*s:=by rw [hzl] at hj;exact hj
   have hm:j % s < v.cells.size:=by rw [hvs];exact Nat.mod_lt _ h0
   simp only [row,Array.getElem?_map,hvs,hzl];rw [Array.getElem?_range,if_pos hj'];simp only [Option.map_some];rw [getElem!_pos v.cells (j % s) hm,Array.getElem?_eq_getElem hm])
 have hrs:row.size=n.toNat*s:=by simp [row]
 refine zfb (c:=row) (t:=el) (v:=.slice (some ⟨w.heap.size,0,none⟩) n.toNat n.toNat) ?_ (by have:=hrow.1;simp only [Array.length_toList] at this;omega) (fun j a v ha hv=>hrow.2 j a v ha (by simpa using hv)) fun I' φ' w' id hid=>.row id s 0 n.toNat _ _ 0 n.toNat hid (by simp) (Nat.le_refl _) (by simp [hrs])
 have hbig:(decide (n < 0)||decide ((b:Int)*n > 2 ^ 48))=false:=by
  have h3:(b:Int)*n=((n.toNat*b:Nat):Int):=by
   rw [Int.natCast_mul,Int.toNat_of_nonneg hn,Int.mul_comm]
  simp only [Bool.or_eq_false_iff,decide_eq_false_iff_not];rw [h3];omega
 simp only [execOp,hop,Instr.makeSlice,Sem.run_bind,ze ht,Result.andThen_ok,h1.int_inv,h2.int_inv,asInt,asIntOf,Sem.run_pure,zbb hi,hib,hwrap,hbig];rw [if_neg (by simp;omega)];simp only [Sem.run_bind,run_askRoom,Result.andThen_ok,zO hs]
 by_cases hn0:n.toNat*s=0
 ·rw [if_pos hn0];have hz0:n.toNat=0:=by
   rcases Nat.eq_zero_or_pos n.toNat with h|h
   ·exact h
   ·have:=Nat.mul_pos h h0;omega
  have hr0:row=#[]:=Array.eq_empty_of_size_eq_zero (by rw [hrs,hn0]);rw [hr0,hn0];have hr00:Array.range 0=#[]:=rfl;simp only [Sem.run_pure,Result.andThen_ok,newRow,Sem.run_bind,run_newObj,hr00,Array.map_empty];rfl
 ·rw [if_neg hn0];simp only [Sem.run_bind,hv,Result.andThen_ok,Sem.run_pure,newRow,run_newObj];rfl
theorem zi7 (hE:ERel (Imm S base φ H w) φ w env a) {X Y:Operand} {x y:Opnd} {t u el:TypeId} {s b:Nat} {z:List PV} {k k0:IntKind} {n:Int} {c:Call} (hx:zu X=some x) (hy:zu Y=some y) (ht:P.underlying t=some (.slice el)) (hu:P.underlying u=some (.int k0)) (hs:zR P el=some s) (hb:zdv P el=some b) (hz:zbi P el=some z)
  (h0:0 < s) (hzl:z.length=s) (hb0:0 < b) (hop:o.op=.call c) (hcal:c.callee=.builtin .append) (ha1:c.args.toList=[X,Y]) (ha2:c.argTypes.toList=[t,u]) (hl:x.eval env=.pure .nils) (hc:y.eval env=.pure (.int k n)) (hn:0<=n) (hm:n.toNat*b<=zn) (hm2:n.toNat<=zn)
  (he:(n=0/\e=.val (.pure .nils))\/(n≠0/\e=.new (.cells true ((List.replicate n.toNat (z.map AV.pure)).flatten)) fun id=>.row id s 0 n.toNat)) :
  Ran C S base φ H w e ((execOp a.eval o).run P w):=by
 have h1:=zw hE hx;rw [hl] at h1;have hX:=h1.pure_inv.nils_inv;have h2:=zw hE hy;rw [hc] at h2;have hY:=h2.int_inv;obtain ⟨v,hv,hcv,hsv⟩:=zbZ (w:=w.drew) hz;have hvs:v.cells.size=s:=by rw [hs] at hsv;simpa using hsv.symm
 have hi:∃ i,P.info? el=some i/\i.bytes=b:=by
  unfold zdv at hb
  cases hi:P.info? el with
  | none=>simp [hi] at hb
  | some i=>simp [hi] at hb;exact ⟨i,rfl,hb⟩
 obtain ⟨i,hi,hib⟩:=hi;simp only [zn] at hm hm2;have hwrap:IntKind.i64.wrap n=n:=zgh (by omega) (by omega);have hsz:∀ w,(sizeOf el).run P w=.ok s w:=fun w=>zO hs;have htI:∀ w,(typeInfo el).run P w=.ok i w:=fun w=>zbb hi;have hbytes:¬ (n*(i.bytes:Int) > 2 ^ 48):=by
  rw [hib];have h3:n*(b:Int)=((n.toNat*b:Nat):Int):=by rw [Int.natCast_mul,Int.toNat_of_nonneg hn]
  rw [h3];omega
 rcases he with ⟨rfl,rfl⟩|⟨hne,rfl⟩
 ·refine zN (v:=.slice none 0 0) (zaJ hop hcal ha1 ha2 ?_) (.pure _ _ .nils)
  rw [hX,hY];simp only [Builtin.append_,List.getElem?_toArray,List.getElem?_cons_zero,List.getElem?_cons_succ,Sem.run_bind,ze ht,ze hu,Result.andThen_ok,hsz,Sem.run_pure,asInt,asIntOf,if_true,hwrap,htI];rw [if_neg (by omega)];simp only [pure_bind,Sem.run_bind,htI,Result.andThen_ok];rw [if_neg hbytes];simp
 ·have hcapq:∀ m:Nat,0 < m->m*b<=140737488355328->Builtin.nextslicecap m 0*b<=281474976710656:=fun m h hb=>growslice_fits h hb;have hnpos:0 < n.toNat:=by omega
  have hgrow:=hcapq n.toNat hnpos (by omega);have hforced:(Question.appendCap (0+n.toNat) 0 el).forced=false:=rfl
  let cp:=(Question.appendCap (0+n.toNat) 0 el).cut (w.tape w.drawn (.appendCap (0+n.toNat) 0 el))
  have hcp:n.toNat<=cp:=by show n.toNat<=(0+n.toNat)+_;omega
  let news:=Builtin.zeroCells v.cells n.toNat
  let rest:=Builtin.zeroCells v.cells (cp - (0+n.toNat))
  have hns:news.size=n.toNat*s:=by simp [news,Builtin.zeroCells,hvs]
  have hrs:rest.size=(cp - (0+n.toNat))*s:=by simp [rest,Builtin.zeroCells,hvs]
  have hnew:=zcb (I:=Imm S base φ H w) (φ:=φ) (w:=w) (n:=n.toNat) hcv (by omega) news (by simp [hns,hzl]) (fun j hj=>by
   have hj':j < n.toNat*s:=by rw [hzl] at hj;exact hj
   have hm:j % s < v.cells.size:=by rw [hvs];exact Nat.mod_lt _ h0
   simp only [news,Builtin.zeroCells,Array.getElem?_map,hvs,hzl];rw [Array.getElem?_range,if_pos hj'];simp only [Option.map_some];rw [getElem!_pos v.cells (j % s) hm,Array.getElem?_eq_getElem hm])
  let c':Array Value:=(#[]:Array Value)++news++rest
  have hcs:c'.size=cp*s:=by
   simp only [c',Array.size_append,hns,hrs,List.size_toArray,List.length_nil];have h3:cp=n.toNat+(cp - (0+n.toNat)):=by omega
   rw [Nat.zero_add,<- Nat.add_mul,<- h3]
  have hrun:(Builtin.append_ #[t,u] o.type #[a.eval X,a.eval Y]).run P w=.ok (.slice (some ⟨w.heap.size,0,none⟩) (0+n.toNat) cp) ((w.drew).alloc (.cells c' el)):=by
   rw [hX,hY];simp only [Builtin.append_,List.getElem?_toArray,List.getElem?_cons_zero,List.getElem?_cons_succ,Sem.run_bind,ze ht,ze hu,Result.andThen_ok,hsz,Sem.run_pure,asInt,asIntOf,if_true,hwrap,htI];rw [if_neg (by omega)];simp only [pure_bind,Sem.run_bind,htI,Result.andThen_ok];rw [if_neg hbytes];rw [if_neg (by omega)];simp only [Sem.run_bind,htI,Result.andThen_ok];rw [if_neg (by
    rintro ⟨h,_⟩;have h7:IntKind.i64.max=9223372036854775807:=rfl;rw [h7] at h;omega)]
   simp only [Sem.run_bind,htI,Result.andThen_ok];rw [if_neg (by rw [hib];have:=hgrow;simp only [Nat.zero_add];omega)];have hdrew:({ w with drawn:=w.drawn+1 }:World)=w.drew:=rfl;have hfirst:(Builtin.firstCells s 0 (.slice none 0 0)).run P w.drew=.ok #[] w.drew:=rfl;have hns0:¬ n.toNat*s=0:=fun h=>by have:=Nat.mul_pos hnpos h0;omega
   simp only [Sem.run_bind,Sem.run_pure,run_choose,hforced,Bool.false_eq_true,if_false,Result.andThen_ok,htI,run_askRoom,hdrew,hfirst,Bool.not_true,hns0,hv,newRow,run_newObj];rfl
  have hlen:((List.replicate n.toNat (z.map AV.pure)).flatten).length<=c'.size:=by
   have h4:=hnew.1;simp only [Array.length_toList] at h4;rw [h4,hns,hcs];exact Nat.mul_le_mul_right _ hcp
  refine .inl ⟨_,_,zaJ hop hcal ha1 ha2 hrun,w.heap.size,c'.size,((Below.refl _ w).drew).alloc (Nat.le_refl _) _,Nat.le_refl _,zbx w _,?_,fun I' φ' id hid=>?_⟩
  ·refine ⟨c',el,(0,0),heap_alloc_new w.drew _,rfl,hlen,fun j _ hj=>by simp at hj,fun j av v' ha hv'=>?_⟩
   have hj:j < news.size:=by have h5:=(List.getElem?_eq_some_iff.1 ha).1;have h4:=hnew.1;simp only [Array.length_toList] at h4;omega
   have hv2:news.toList[j]?=some v':=by
    simp only [c',Array.empty_append] at hv';rw [Array.getElem?_append_left hj] at hv'
    simpa using hv'
   exact VRel.mono (w:=w) (fun _ b hb=>⟨hb,Below.heap_alloc w.drew _ b hb.2.1⟩) (fun _ _ h=>h) (hnew.2 j av v' ha hv2)
  ·have:(0+n.toNat)=n.toNat:=by omega
   rw [this];exact .row id s 0 n.toNat _ _ 0 cp hid (by simp) hcp (by simp [hcs])
theorem zmV (hH:HRel C S base φ H w) (hE:ERel (Imm S base φ H w) φ w env a) {X:Operand} {x:Opnd} {t el:TypeId} {s:Nat} {z:List PV} {c:Call} (hx:zu X=some x) (ht:P.underlying t=some (.slice el)) (hs:zR P el=some s) (hz:zbi P el=some z) (h0:0 < s) (hzl:z.length=s)
  (hop:o.op=.call c) (hc:c.callee=.builtin .clear) (h1:c.args.toList=[X]) (h2:c.argTypes.toList=[t])
  (h:(x.eval env=.pure .nils/\e=.val (.tup []))\/∃ id off len ds,x.eval env=.row id s off len/\H.get id=.cells true ds/\off*s+len*s<=ds.length /\
   e=.upd (.tup []) (H.set id (.cells true (ds.take (off*s)++(List.replicate len (z.map AV.pure)).flatten++ds.drop (off*s+len*s))))) :
  Ran C S base φ H w e ((execOp a.eval o).run P w):=by
 have hxv:=zw hE hx;have ha:c.args=#[X]:=by rw [<- h1]
 have hb:c.argTypes=#[t]:=by rw [<- h2]
 have hred:∀ w',(Builtin.clear_ #[t] o.type #[a.eval X]).run P w=.ok (.tuple #[]) w'->(execOp a.eval o).run P w=.ok (.value (.tuple #[])) w':=fun w' h=>by
  simp only [execOp,hop,resolve,hc,invoke,builtin,ha,hb,Sem.run_bind,Sem.run_pure,Result.andThen_ok,List.map_toArray,List.map_cons,List.map_nil,h]
 rcases h with ⟨e1,rfl⟩|⟨id,off,len,ds,e1,hg,hle,rfl⟩
 ·rw [e1] at hxv
  refine zN (hred w ?_) (.tup [] #[] rfl fun i p v h=>by simp at h)
  simp [Builtin.clear_,ze ht,hxv.pure_inv.nils_inv]
 ·rw [e1] at hxv;obtain ⟨b,n,cap,hid,hX,hcap,hfull⟩:=hxv.row_inv;obtain ⟨v,hv,hcv,hsv⟩:=zbZ (w:=w) hz;have hvs:v.cells.size=s:=by rw [hs] at hsv;simpa using hsv.symm
  have hrow:=zcb (I:=Imm S base φ H w) (φ:=φ) (w:=w) (n:=len) hcv (by omega) (Builtin.zeroCells v.cells len) (by simp [Builtin.zeroCells,hzl,hvs]) (fun j hj=>by
   have hj':j < len*s:=by rw [hzl] at hj;exact hj
   have hm:j % s < v.cells.size:=by rw [hvs];exact Nat.mod_lt _ h0
   simp only [Builtin.zeroCells,Array.getElem?_map,hvs,hzl];rw [Array.getElem?_range,if_pos hj'];simp only [Option.map_some];rw [getElem!_pos v.cells (j % s) hm,Array.getElem?_eq_getElem hm])
  have hlen:((List.replicate len (z.map AV.pure)).flatten).length=len*s:=by simp [hzl]
  have hone:((List.replicate len (z.map AV.pure)).flatten).all AV.one=true:=by
   rw [List.all_eq_true];intro p hp;obtain ⟨l,hl,hp⟩:=List.mem_flatten.1 hp;have:=List.eq_of_mem_replicate hl;subst this;obtain ⟨q,hq,rfl⟩:=List.mem_map.1 hp;obtain ⟨i,hi⟩:=List.getElem?_of_mem hq
   -- constants of one cell
   have key:∀ (vs:List Value) (ps:List PV),zb3 vs=some ps->∀ q∈ps,(AV.pure q).one=true:=by
    intro vs
    induction vs with
    | nil=>intro ps h;simp [zb3] at h;subst h;simp
    | cons u us ih =>
     intro ps h;unfold zb3 at h
     split at h
     ·simp at h
     ·rename_i p hp
      split at h
      ·simp at h
      ·rename_i qs hqs;simp at h;subst h;intro q hq;rcases List.mem_cons.1 hq with rfl|hq
       ·unfold zhq at hp
        split at hp<;>simp at hp<;>subst hp<;>rfl
       ·exact ih qs hqs q hq
   exact key _ _ hcv q hq
  obtain ⟨w',g1,g2,g3⟩:=zfy (P:=P) (off:=off*s) hH hid hg hrow hone (by rw [hlen];exact hle);rw [hlen] at g2 g3
  refine .inl ⟨.tuple #[],w',hred w' ?_,φ,g2,g3,.tup [] #[] rfl fun i p v h=>by simp at h⟩
  simp only [Builtin.clear_,List.getElem?_toArray,List.getElem?_cons_zero,Sem.run_bind,ze ht,Result.andThen_ok,hX]
  cases len with
  | zero =>
   have hnil:(Builtin.zeroCells v.cells 0).toList=[]:=by simp [Builtin.zeroCells]
   rw [hnil] at g1;simp only [storeCells] at g1;simp at g1;subst g1;simp
  | succ k=>simp only [Sem.run_bind,hv,Result.andThen_ok,g1,Sem.run_pure]
theorem zcS (xs ys:List AV) (k:List Nat):∀ l:List Nat,zaC xs ys (l++k)=match zaC xs ys l with
  | some true=>zaC xs ys k
  | r=>r
 | []=>by simp [zaC]
 | i::l=>by
  simp only [List.cons_append,zaC]
  split
  ·split
   ·split
    ·split
     ·rw [zcS xs ys k l]
     ·rfl
    ·rfl
   ·rfl
  ·split
   ·split
    ·rw [zcS xs ys k l]
    ·rfl
   ·rfl
def zlG (P:Program) (I:Bool->Nat->Prop) (φ:Phi) (w:World) (t:TypeId) (at_:Nat) (fx:List AV) (v:Value):Prop :=
 ∃ s g,zR P t=some s/\aggP P t=some g/\at_+s<=fx.length /\
  if g then ∃ vs:Array Value,v=.agg vs/\VRels I φ w ((fx.drop at_).take s) vs.toList else s=1/\∃ c,fx[at_]?=some c/\VRel I φ w c v
theorem zlB {t ft:TypeId} {s sf off at_:Nat} {g:Bool} {fx:List AV} {vs:Array Value} (hs:zR P ft=some sf) (hg:aggP P ft=some g) (h1:g=false->sf=1) (hle:off+sf<=s) (hfx:at_+s<=fx.length)
  (hr:VRels I φ w ((fx.drop at_).take s) vs.toList):∃ v,(part ft vs off).run P w=.ok v w/\zlG P I φ w ft (at_+off) fx v:=by
 have hlen:vs.size=s:=by have:=hr.1;simp at this;omega
 simp only [part,Sem.run_bind,zez hg,Result.andThen_ok]
 cases g with
 | true =>
  simp only [if_true,Sem.run_bind,zO hs,Result.andThen_ok,Sem.run_pure]
  refine ⟨_,rfl,sf,true,hs,hg,by omega,?_⟩
  simp only [if_true]
  refine ⟨_,rfl,?_⟩
  have:=hr.sub off sf;have e:(((fx.drop at_).take s).drop off).take sf=(fx.drop (at_+off)).take sf:=by
   rw [List.drop_take,List.take_take,List.drop_drop]
   congr 1
   omega
  rwa [e] at this
 | false =>
  have h1':=h1 rfl;subst h1';have hlt:off < vs.size:=by omega
  refine ⟨vs[off],by simp [Array.getElem?_eq_getElem hlt],1,false,hs,hg,by omega,?_⟩
  simp only [Bool.false_eq_true,if_false];have hc:fx[at_+off]?=some (fx[at_+off]'(by omega)):=List.getElem?_eq_getElem (by omega)
  refine ⟨trivial,_,hc,hr.2 off _ _ ?_ (by simp [Array.getElem?_eq_getElem hlt])⟩
  rw [List.getElem?_take_of_lt (by omega),List.getElem?_drop,hc]
theorem zqi:∀ (d:Nat) (t:TypeId) (at_:Nat) (ls:List Nat) (fx fy:List AV) (b:Bool),zc6 P d t at_=some ls->zaC fx fy ls=some b->∀ D,d<=D->∀ (vx vy:Value),zlG P I φ w t at_ fx vx->zlG P I φ w t at_ fy vy ->
  (Op.equalIn D t vx vy).run P w=.ok b w:=by
 intro d
 induction d with
 | zero=>intro t at_ ls fx fy b h;simp [zc6] at h
 | succ d ih =>
  intro t at_ ls fx fy b h hc D hD vx vy hx hy;obtain ⟨D,rfl⟩:∃ D',D=D'+1:=⟨D - 1,by omega⟩
  unfold zc6 at h
  split at h
  ·rename_i k hu
   split at h
   case isFalse=>simp at h
   rename_i hat;simp at h;subst h;obtain ⟨s,g,q1,q2,q3,q4⟩:=hx;obtain ⟨s',g',p1,p2,p3,p4⟩:=hy;have hg:g=false:=by simp [aggP,hu] at q2;exact q2
   have hg':g'=false:=by simp [aggP,hu] at p2;exact p2
   subst hg;subst hg';simp only [Bool.false_eq_true,if_false] at q4 p4;obtain ⟨_,c,q5,q6⟩:=q4;obtain ⟨_,c',p5,p6⟩:=p4;simp only [zaC,if_pos hat,q5,p5] at hc
   split at hc
   ·rename_i k1 a1 k2 a2 e1 e2;simp at e1 e2;subst e1;subst e2;have f1:=q6.int_inv;have f2:=p6.int_inv;subst f1;subst f2
    split at hc
    ·rename_i hk;subst hk;simp only [Op.equalIn,Sem.run_bind,ze hu,Result.andThen_ok,if_true,Sem.run_pure]
     by_cases hab:a1=a2
     ·subst hab;simp at hc;subst hc;simp
     ·have:(a1 == a2)=false:=by simpa using hab
      rw [this] at hc ⊢;simp at hc;subst hc;rfl
    ·simp at hc
   ·simp at hc
  ·rename_i hu;simp at h;subst h;obtain ⟨s,g,q1,q2,q3,q4⟩:=hx;obtain ⟨s',g',p1,p2,p3,p4⟩:=hy;have hg:g=false:=by simp [aggP,hu] at q2;exact q2
   have hg':g'=false:=by simp [aggP,hu] at p2;exact p2
   subst hg;subst hg';simp only [Bool.false_eq_true,if_false] at q4 p4;obtain ⟨_,c,q5,q6⟩:=q4;obtain ⟨_,c',p5,p6⟩:=p4;simp only [zaC,if_neg (show ¬ at_+500000 < 500000 by omega),Nat.add_sub_cancel,q5,p5] at hc
   split at hc
   ·rename_i a1 a2 e1 e2;simp at e1 e2;subst e1;subst e2;have f1:=q6.bool_inv;have f2:=p6.bool_inv;subst f1;subst f2;simp only [Op.equalIn,Sem.run_bind,ze hu,Result.andThen_ok,Sem.run_pure]
    cases a1<;>cases a2<;>simp at hc<;>subst hc<;>rfl
   ·simp at hc
  ·rename_i fs hu
   split at h
   ·simp at h
   ·rename_i hst
    split at h
    ·rename_i s hs;obtain ⟨s1,g,q1,q2,q3,q4⟩:=hx;obtain ⟨s2,g',p1,p2,p3,p4⟩:=hy;have hg:g=true:=by simp [aggP,hu] at q2;exact q2
     have hg':g'=true:=by simp [aggP,hu] at p2;exact p2
     subst hg;subst hg';have es1:s1=s:=by rw [hs] at q1;simpa using q1.symm
     have es2:s2=s:=by rw [hs] at p1;simpa using p1.symm
     obtain ⟨s0,hs0⟩:∃ s0,s0=s:=⟨s,rfl⟩
     rw [<- hs0] at es1 es2 h;rw [es1] at q3 q4;rw [es2] at p3 p4;simp only [if_true] at q4 p4;obtain ⟨xs,rfl,hxs⟩:=q4;obtain ⟨ys,rfl,hys⟩:=p4;have hst':P.stoodInHeld t=false:=by simp at hst;exact hst.1
     simp only [Op.equalIn,Sem.run_bind,ze hu,Result.andThen_ok,run_program,hst',Bool.false_eq_true,if_false]
     -- the loop over the fields
     have loop:∀ (l:List Field) (ls:List Nat) (b:Bool),zfe P (zc6 P d) s0 at_ l=some ls->zaC fx fy ls=some b ->
       (forIn l ((none,()):Option Bool×Unit) (fun f __s =>
        if f.name ≠ "_" then do
         let __do_lift <- part f.type xs f.offset
         let __do_lift_1 <- part f.type ys f.offset
         let __do_lift <- Op.equalIn D f.type __do_lift __do_lift_1
         if (!__do_lift)=true then pure (ForInStep.done (some false,()))
          else pure (ForInStep.yield (none,()))
        else pure (ForInStep.yield (none,()))):Sem (Option Bool×Unit)).run P w=.ok (if b then none else some false,()) w:=by
      intro l
      induction l with
      | nil=>intro ls b h hc;simp [zfe] at h;subst h;simp [zaC] at hc;subst hc;simp
      | cons f l ihl =>
       intro ls b h hc;unfold zfe at h
       split at h
       ·simp at h
       ·rename_i hname
        split at h
        ·rename_i sf g l1 ls2 e1 e2 e3 e4
         split at h
         ·rename_i hcond;simp at h;subst h;rw [zcS] at hc;obtain ⟨v1,r1,r2⟩:=zlB (t:=t) e1 e2 hcond.2 hcond.1 q3 hxs;obtain ⟨v2,r3,r4⟩:=zlB (t:=t) e1 e2 hcond.2 hcond.1 p3 hys;rw [List.forIn_cons,if_pos hname]
          cases hb:zaC fx fy l1 with
          | none=>rw [hb] at hc;simp at hc
          | some b1 =>
           have:=ih _ _ _ _ _ _ e3 hb D (by omega) _ _ r2 r4;rw [hb] at hc;simp only [Sem.run_bind,r1,r3,this,Result.andThen_ok]
           cases b1 with
           | true =>
            simp only at hc;simp only [Bool.not_true,Bool.false_eq_true,if_false,Sem.run_pure,Result.andThen_ok];exact ihl _ _ e4 hc
           | false =>
            simp at hc;subst hc;simp
         ·simp at h
        ·simp at h
     have:=loop fs.toList ls b h hc;rw [<- Array.forIn_toList]
     erw [this]
     cases b<;>simp
    ·simp at h
  ·simp at h
theorem zl8 (hE:ERel (Imm S base φ H w) φ w env a) {X Y:Operand} {x y:Opnd} {op:BinOp} {t t':TypeId} {s:Nat} {ls:List Nat} {b:Bool} {fs:Array Field} (hx:zu X=some x) (hy:zu Y=some y) (hu:P.underlying t=some (.struct fs)) (hls:zc6 P 8 t 0=some ls) (hs:zR P t=some s)
  (hop:o.op=.binOp op t X Y t') (hopk:op=.eql\/op=.neq) (hax:(∃ cs,x.eval env=.agg cs)\/∃ ps,x.eval env=.pure (.agg ps)) (hay:(∃ cs,y.eval env=.agg cs)\/∃ ps,y.eval env=.pure (.agg ps))
  (hlx:(x.eval env).cells.length=s) (hly:(y.eval env).cells.length=s) (hc:zaC (x.eval env).cells (y.eval env).cells ls=some b) :
  Ran C S base φ H w (.val (.pure (.bool (b != (op == .neq))))) ((execOp a.eval o).run P w):=by
 have aux:∀ {Z:Operand} {z:Opnd},zu Z=some z->((∃ cs,z.eval env=.agg cs)\/∃ ps,z.eval env=.pure (.agg ps))->(z.eval env).cells.length=s->∃ vs,a.eval Z=.agg vs/\zlG P (Imm S base φ H w) φ w t 0 (z.eval env).cells (.agg vs):=by
  intro Z z hz haz hlz;have hv:=zw hE hz;have hu':z.eval env≠.undef:=by rcases haz with ⟨cs,e⟩|⟨ps,e⟩<;>rw [e]<;>simp
  have hcs:=hv.cells hu';have hX:∃ vs,a.eval Z=.agg vs:=by
   rcases haz with ⟨cs,e⟩|⟨ps,e⟩<;>rw [e] at hv
   ·exact hv.agg_inv
   ·exact hv.pure_inv.agg_inv
  obtain ⟨vs,hX⟩:=hX;rw [hX] at hcs
  refine ⟨vs,hX,s,true,hs,by simp [aggP,hu],by omega,?_⟩
  simp only [if_true]
  refine ⟨vs,rfl,?_⟩
  rw [List.drop_zero,List.take_of_length_le (by omega)];exact hcs
 obtain ⟨vs,e1,r1⟩:=aux hx hax hlx;obtain ⟨us,e2,r2⟩:=aux hy hay hly;have heq:=zqi 8 t 0 ls _ _ b hls hc 10000 (by decide) _ _ r1 r2;have hguard:P.eqGuardType P.depth t=false:=by
  unfold zc6 at hls;rw [hu] at hls;simp only at hls
  split at hls
  ·simp at hls
  ·rename_i h;simp at h;exact h.2
 have hg:(eqGuard op t X Y (a.eval X) (a.eval Y)).run P w=.ok () w:=by
  rw [e1,e2];rcases hopk with rfl|rfl<;>simp [eqGuard,hguard]
 refine zN (v:=.bool (b != (op == .neq))) ?_ (.pure _ _ (.bool _))
 rcases hopk with rfl|rfl
 ·simp only [execOp,hop,Sem.run_bind,hg,Result.andThen_ok];rw [e1,e2];simp [binOp,Op.equal,Op.maxDepth,heq]
  cases b<;>rfl
 ·simp only [execOp,hop,Sem.run_bind,hg,Result.andThen_ok];rw [e1,e2];simp [binOp,Op.equal,Op.maxDepth,heq]
  try (cases b<;>rfl)
end
end Go.Proofs.Ytleggocccaeemaa.Vm
