/- Each operation of the machine does what the model's operation does: texts and bytes, make, append, clear, the comparison of structs of numbers. Each operation of the machine does what the model's operation does: texts and bytes, make, clear, structs of numbers compared. Each operation of the machine does what the model's operation does: make, clear, structs of numbers compared. -/
import Derived.Test.YtmmhnfghklppiaaGreatWk5
import Derived.Laws.Append
namespace Go.Proofs.YtmmhnfghklppiaaGreat.Vm
open Go Go.RowKit
set_option linter.unusedVariables false
set_option linter.unusedSimpArgs false
section
variable {C:jH} {P:Program} {S:Bool->Nat->Prop} {base:Nat} {φ:jO} {H:Heap} {w:World} {env:Env} {a:Act} {e:Eff} {o:Oper} {I:Bool->Nat->Prop}
theorem Yi {α:Type} {sz:Nat}:∀ {es:List (List α)},(∀ e∈es,e.length=sz)->∀ {j:Nat} {p:α},es.flatten[j]?=some p->0 < sz->∃ e,es[j / sz]?=some e/\e[j % sz]?=some p
 | [],_,j,p,h,_=>by simp at h
 | e::es,hz,j,p,h,h0=>by
  rw [List.flatten_cons] at h;have he:=hz e (List.mem_cons_self ..)
  by_cases hj:j < sz
  .rw [List.getElem?_append_left (by omega)] at h;exact ⟨e,by rw [Nat.div_eq_of_lt hj];rfl,by rw [Nat.mod_eq_of_lt hj];exact h⟩
  .rw [List.getElem?_append_right (by omega),he] at h;obtain ⟨e',h1,h2⟩:=Yi (fun x hx=>hz x (List.mem_cons_of_mem _ hx)) h h0
   refine ⟨e',?_,?_⟩
   .have:j / sz=(j - sz) / sz+1:=by
     rw [show j=(j - sz)+sz by omega,Nat.add_div_right _ h0];simp
    rw [this]
    simpa using h1
   .rw [Nat.mod_eq_sub_mod (by omega)];exact h2
theorem zfa {α:Type} {sz:Nat}:∀ {es:List (List α)},(∀ e∈es,e.length=sz)->es.flatten.length=es.length*sz
 | [],_=>by simp
 | e::es,hz=>by
  rw [List.flatten_cons,List.length_append,hz e (List.mem_cons_self ..),zfa fun x hx=>hz x (List.mem_cons_of_mem _ hx),List.length_cons,Nat.add_mul];omega
theorem Yj (hH:aS C S base φ H w) {sz m:Nat} {av:AV} {v:Value} {cs:List AV} (h0:0 < sz) (hv:aG (aW S base φ H w) φ w av v) (h:zO H sz av=some (cs,m)) :
  ∃ ad cap vs,v=.slice ad m cap/\aC (aW S base φ H w) φ w cs vs/\cs.length=m*sz/\(ad=none->m=0)/\∀ a,ad=some a->∀ (j:Nat) u,vs[j]?=some u->w.cell? (a.add j)=some u:=by
 unfold zO at h
 split at h
 .simp at h;obtain ⟨rfl,rfl⟩:=h;exact ⟨none,0,[],hv.aA.jw,.nil,by simp,(fun _=>rfl),(fun a ha=>by cases ha)⟩
 .rename_i s es
  split at h
  .rename_i fq;simp only [Option.some.injEq,Prod.mk.injEq] at h;obtain ⟨rfl,rfl⟩:=h;obtain ⟨b,q,cap,val,f1,f2,f3,f4,f5⟩:=hv.aA.j6;have hz:∀ e∈es,e.length=sz:=fun e he=>by
    have:=List.all_eq_true.1 fq e he
    simpa using this
   -- the sizes agree where there is an element
   have hs:∀ (i:Nat) e,es[i]?=some e->s=sz:=fun i e he=>(f3 i e he).symm.trans (hz e (List.mem_of_getElem? he));have hlen:=zfa hz
   refine ⟨some ⟨b,q,none⟩,cap,(List.range (es.length*sz)).map fun j=>val (j / sz) (j % sz),f1,⟨by rw [List.length_map,hlen];simp,fun i p u hp hu=>?_⟩,by rw [List.length_map,hlen],⟨(fun h=>by cases h),fun a ha j u hu=>?_⟩⟩
   .rw [List.getElem?_map] at hp
    cases hq:es.flatten[i]? with
    | none=>rw [hq] at hp;simp at hp
    | some p' =>
     rw [hq] at hp;simp at hp;subst hp;obtain ⟨e,g1,g2⟩:=Yi hz hq h0;have hi:i < es.length*sz:=by have:=(List.getElem?_eq_some_iff.1 hu).1;simpa using this
     simp [hi] at hu;subst hu;exact .pure _ _ (f5 _ _ _ _ g1 g2)
   .have hi:j < es.length*sz:=by have:=(List.getElem?_eq_some_iff.1 hu).1;simpa using this
    simp [hi] at hu;subst hu;simp at ha;subst ha;have hq:es.flatten[j]?=some (es.flatten[j]'(by omega)):=List.getElem?_eq_getElem (by omega);obtain ⟨e,g1,g2⟩:=Yi hz hq h0;rw [Eb];have:=(f4 _ _ _ _ g1 g2).2;rw [hs _ _ g1] at this;rw [<- this]
    congr 2
    have:=Nat.div_add_mod j sz;rw [Nat.mul_comm] at this;omega
  .simp at h
 .rename_i id s off len
  split at h
  .rename_i si;subst si
   split at h
   .rename_i own ds hg
    split at h
    .rename_i hle;simp at h;obtain ⟨rfl,rfl⟩:=h;obtain ⟨b,n,cap,au,f2,f3,f4⟩:=hv.iY;have ho:=hH.obj _ _ _ au;rw [hg] at ho;obtain ⟨c,t,fz,h1,h2,h3,h4,h5⟩:=ho
     refine ⟨some ⟨b,off*s,none⟩,cap,(c.toList.drop (off*s)).take (len*s),f2,⟨by simp;omega,fun i p u hp hu=>?_⟩,by simp;omega,⟨(fun h=>by cases h),fun a ha j u hu=>?_⟩⟩
     .have hi:i < len*s:=by have:=(List.getElem?_eq_some_iff.1 hp).1;simp at this;omega
      rw [List.getElem?_take_of_lt hi,List.getElem?_drop] at hp hu;exact h5 _ _ _ hp (by simpa using hu)
     .have hi:j < len*s:=by have:=(List.getElem?_eq_some_iff.1 hu).1;simp at this;omega
      rw [List.getElem?_take_of_lt hi,List.getElem?_drop] at hu;simp at ha;subst ha;rw [Eb];simp only [World.cell?,h1]
      simpa using hu
    .simp at h
   .simp at h
  .simp at h
 .simp at h
theorem RY {ad:Option Addr} {m cap size:Nat} {vs:List Value} (hl:vs.length=m*size) (hn:ad=none->m=0) (hc:∀ a,ad=some a->∀ (j:Nat) u,vs[j]?=some u->w.cell? (a.add j)=some u) :
  (Builtin.firstCells size m (.slice ad m cap)).run P w=.ok vs.toArray w:=by
 cases ad with
 | none =>
  have:=hn rfl;subst this;have:vs=[]:=List.eq_nil_of_length_eq_zero (by simpa using hl);subst this;rfl
 | some a =>
  simp only [Builtin.firstCells];rw [<- hl];exact run_loadCells_list (w:=w) a vs (hc a rfl)
theorem zqW {cs:List AV} {vs:List Value} (h:aC I φ w cs vs) (h1:cs.all AV.one=true):∀ v∈vs,v.oneCell'=true:=fun v hv=>by
 obtain ⟨i,hi⟩:=List.getElem?_of_mem hv;have aX:i < cs.length:=by have:=(List.getElem?_eq_some_iff.1 hi).1;have:=h.1;omega
 exact (h.2 i _ _ (List.getElem?_eq_getElem aX) hi).one (List.all_eq_true.1 h1 _ (List.getElem_mem aX))
structure GX (P:Program) (t u:TypeId) (s b:Nat):Prop where
 ex:∃ e e':TypeId,P.underlying t=some (.slice e)/\P.underlying u=some (.slice e')/\iU P e=some s/\JM P e=some b/\∃ z,yH P e=some z/\z.length=s
 pos:0 < s
 Yk:0 < b
theorem VW {t u ty:TypeId} {s b:Nat} (hT:GX P t u s b) {x y:Value} {bs:Option Addr} {n cap m cap':Nat} {ad:Option Addr} {olds news:List Value} (hx:x=.slice bs n cap) (hy:y=.slice ad m cap') (hn:¬ n+m<=cap) (hncap:n<=cap)
  (oz:(n+m)*b<=140737488355328) (hold:(Builtin.firstCells s n x).run P w.drew=.ok olds.toArray w.drew) (aR:(Builtin.firstCells s m y).run P w.drew=.ok news.toArray w.drew)
  (LQ:olds.length=n*s) (yU:news.length=m*s) :
  ∃ (c:Array Value) (e:TypeId) (cp:Nat),(Builtin.append_ #[t,u] ty #[x,y]).run P w=.ok (.slice (some ⟨w.heap.size,0,none⟩) (n+m) cp) ((w.drew).alloc (.cells c e))/\n+m<=cp/\c.size=cp*s /\
   ∃ rest,c.toList=olds++news++rest:=by
 obtain ⟨e,e',ht,hu,hs,hb,z,hz,r9⟩:=hT.ex;have hi:∃ i,P.info? e=some i/\i.size=s/\i.bytes=b:=by
  unfold iU at hs;unfold JM at hb
  cases hi:P.info? e with
  | none=>simp [hi] at hs
  | some i=>simp [hi] at hs hb;exact ⟨i,rfl,hs,hb⟩
 obtain ⟨i,hi,qy,Jc⟩:=hi;obtain ⟨zv,VX,hzc,Yl⟩:=NS (w:=w.drew) hz;have Ym:zv.cells.size=s:=by
  have:=(RN (I:=fun _ _=>True) (w:=w) hzc).1;simp at this;omega
 subst hx;subst hy;have yV:=growslice_fits (bytes:=b) (by omega:cap < n+m) oz;have qJ:(Question.appendCap (n+m) cap e).forced=false:=rfl
 let cp:=(Question.appendCap (n+m) cap e).cut (w.tape w.drawn (.appendCap (n+m) cap e))
 have LU:n+m<=cp:=by show n+m<=(n+m)+_;omega
 let rest:=Builtin.zeroCells zv.cells (cp - (n+m))
 have Ec:rest.size=(cp - (n+m))*s:=by simp [rest,Builtin.zeroCells,Ym]
 refine ⟨olds.toArray++news.toArray++rest,e,cp,?_,LU,?_,rest.toList,by simp⟩
 .have bZ:∀ w,(sizeOf e).run P w=.ok s w:=fun w=>zV hs;have pQ:∀ w,(typeInfo e).run P w=.ok i w:=fun w=>Qi hi;simp only [Builtin.append_,List.getElem?_toArray,List.getElem?_cons_zero,List.getElem?_cons_succ,Sem.run_bind,zh ht,zh hu,Result.andThen_ok,bZ,Sem.run_pure,Builtin.lenOf];rw [if_neg (by simp)];simp only [pure_bind];rw [if_neg hn];simp only [Sem.run_bind,pQ,Result.andThen_ok];rw [if_neg (by
   rintro ⟨_,h⟩;rcases h with h|h
   .cases h
   .rw [Jc] at h;have:=hT.Yk;omega)]
  simp only [Sem.run_bind,pQ,Result.andThen_ok];rw [if_neg (by rw [Jc];omega)];have Ed:({ w with drawn:=w.drawn+1 }:World)=w.drew:=rfl;simp only [Sem.run_bind,Sem.run_pure,run_choose,qJ,Bool.false_eq_true,if_false,Result.andThen_ok,pQ,run_askRoom,Ed,hold,Bool.not_false,if_true,aR,VX,newRow,run_newObj];rfl
 .simp only [Array.size_append,List.size_toArray,Ec,LQ,yU];have h3:cp=n+m+(cp - (n+m)):=by omega
  rw [h3,Nat.add_mul,Nat.add_mul];simp
theorem Yn {t u ty:TypeId} {s b:Nat} (hT:GX P t u s b) {x y:Value} {ba:Addr} {n cap m cap':Nat} {ad:Option Addr} {news:List Value} (hx:x=.slice (some ba) n cap) (hy:y=.slice ad m cap') (hn:n+m<=cap)
  (aR:(Builtin.firstCells s m y).run P w=.ok news.toArray w) {w':World} (fA:(storeCells (ba.add (n*s)) news).run P w=.ok () w') :
  (Builtin.append_ #[t,u] ty #[x,y]).run P w=.ok (.slice (some ba) (n+m) cap) w':=by
 obtain ⟨e,e',ht,hu,hs,hb,z,hz,r9⟩:=hT.ex;subst hx;subst hy;have bZ:∀ w,(sizeOf e).run P w=.ok s w:=fun w=>zV hs;simp only [Builtin.append_,List.getElem?_toArray,List.getElem?_cons_zero,List.getElem?_cons_succ,Sem.run_bind,zh ht,zh hu,Result.andThen_ok,bZ,Sem.run_pure,Builtin.lenOf];rw [if_neg (by simp)];simp only [pure_bind];rw [if_pos hn];simp only [Sem.run_bind,Bool.not_false,if_true,aR,Result.andThen_ok,fA,Sem.run_pure]
theorem RZ (w:World) (o:Obj):w.heap.size < (w.drew.alloc o).heap.size:=by
 rw [World.size_alloc];exact Nat.lt_succ_self _
theorem GY {t u:TypeId} {c:Call} {X Y:Operand} (aj:o.op=.call c) (hc:c.callee=.builtin .append) (h1:c.args.toList=[X,Y]) (h2:c.argTypes.toList=[t,u]) {v:Value} {w':World}
  (h:(Builtin.append_ #[t,u] o.type #[a.eval X,a.eval Y]).run P w=.ok v w'):(execOp a.eval o).run P w=.ok (.value v) w':=by
 have ha:c.args=#[X,Y]:=by rw [<- h1]
 have hb:c.argTypes=#[t,u]:=by rw [<- h2]
 simp only [execOp,aj,resolve,hc,invoke,builtin,ha,hb,Sem.run_bind,Sem.run_pure,Result.andThen_ok,List.map_toArray,List.map_cons,List.map_nil,h]
theorem zoc (hH:aS C S base φ H w) (hE:bq (aW S base φ H w) φ w env a) {X Y:Operand} {x y:aa} {t u:TypeId} {s b:Nat} {c:Call} (hx:zD X=some x) (hy:zD Y=some y) (hT:GX P t u s b)
  (aj:o.op=.call c) (hc:c.callee=.builtin .append) (h1:c.args.toList=[X,Y]) (h2:c.argTypes.toList=[t,u]) (qE:φ H.nx=none) (h:zm H s b (x.eval env) (y.eval env)=some e) :
  jA C S base φ H w e ((execOp a.eval o).run P w):=by
 have vQ:=zG hE hx;have Bt:=zG hE hy;have pY:=hT.pos;unfold zm at h
 split at h
 .simp at h
 .rename_i new m GZ;obtain ⟨ad,cap',news,f1,f2,f3,f4,f5⟩:=Yj hH pY Bt GZ;have yU:news.length=m*s:=by have:=f2.1;omega
  split at h
  .simp at h
  .rename_i bG;have LV:new.all AV.one=true:=by simpa using bG
   have Jd:∀ w':World,(∀ a,ad=some a->∀ (j:Nat) v,news[j]?=some v->w'.cell? (a.add j)=some v)->(Builtin.firstCells s m (.slice ad m cap')).run P w'=.ok news.toArray w':=fun w' uD=>RY yU f4 uD
   split at h
   ·-- onto nothing
    rename_i heq;rw [heq] at vQ;have hX:=vQ.aA.jw
    split at h
    .rename_i hm;subst hm;simp at h;subst h;have Ee:news=[]:=List.eq_nil_of_length_eq_zero (by simpa using yU)
     refine zU (v:=.slice none 0 0) (GY aj hc h1 h2 ?_) (.pure _ _ .nils)
     obtain ⟨e,e',ht,hu,hs,hb,z,hz,r9⟩:=hT.ex;have bZ:∀ w,(sizeOf e).run P w=.ok s w:=fun w=>zV hs;rw [hX,f1];simp only [Builtin.append_,List.getElem?_toArray,List.getElem?_cons_zero,List.getElem?_cons_succ,Sem.run_bind,zh ht,zh hu,Result.andThen_ok,bZ,Sem.run_pure,Builtin.lenOf];rw [if_neg (by simp)];simp only [pure_bind,Nat.add_zero,Nat.le_refl,if_true,Bool.not_false,Sem.run_bind,Jd w f5,Result.andThen_ok,Sem.run_pure]
    .rename_i hm
     split at h
     .rename_i JO;simp at h;subst h;have jR:(0+m)*b<=140737488355328:=by rw [Nat.zero_add];have:=JO.2;simp only [zo] at this;omega
      obtain ⟨c',e,cp,g1,g2,g3,rest,g4⟩:=VW (ty:=o.type) (olds:=[]) hT hX f1 (by omega) (Nat.le_refl 0) jR (by rw [hX];rfl) (by rw [f1];exact Jd _ f5) (by simp) yU;have hlen:new.length<=c'.size:=by
       have:c'.toList.length=c'.size:=by simp
       rw [g4] at this;simp at this;have:=f2.1;omega
      refine .inl ⟨_,_,GY aj hc h1 h2 g1,w.heap.size,c'.size,((Below.refl _ w).drew).alloc (Nat.le_refl _) _,Nat.le_refl _,RZ w _,?_,fun I' φ' id au=>?_⟩
      .refine ⟨c',e,(0,0),heap_alloc_new w.drew _,rfl,hlen,fun j _ hj=>by simp at hj,fun j av v ha hv=>?_⟩
       have hj:j < news.length:=by have:=(List.getElem?_eq_some_iff.1 ha).1;have:=f2.1;omega
       rw [<- Array.getElem?_toList,g4,List.nil_append,List.getElem?_append_left hj] at hv;exact aG.mono (w:=w) (fun _ b hb=>⟨hb,Below.heap_alloc w.drew _ b hb.2.1⟩) (fun _ _ h=>h) (f2.2 j av v ha hv)
      .have:(0+m)=m:=by omega
       rw [this] at g2 ⊢;exact .row id s 0 m _ _ 0 cp au (by simp) g2 (by simp [g3])
     .simp at h
   ·-- onto a row
    rename_i id s' off n heq;rw [heq] at vQ;obtain ⟨bb,nb,cap,au,hX,vR,uE⟩:=vQ.iY
    split at h
    .rename_i si;subst si
     split at h
     .rename_i ds hg;have ho:=hH.obj _ _ _ au;rw [hg] at ho;obtain ⟨c0,t0,fz,q1,q2,q3,q4,q5⟩:=ho
      split at h
      ·-- room within what is known
       rename_i LW;simp only [Option.some.injEq] at h;subst h;have hle:off*s'+n*s'+new.length<=ds.length:=by rw [Nat.add_mul] at LW;omega
       obtain ⟨w',e1,e2,e3⟩:=Yc (P:=P) (off:=off*s'+n*s') hH au hg f2 LV hle;have mM:n+m<=cap:=by
        have h3:(off+(n+m))*s'<=(off+cap)*s':=by rw [Nat.add_mul,uE];omega
        have:=Nat.le_of_mul_le_mul_right h3 pY;omega
       refine .inl ⟨_,w',GY aj hc h1 h2 (Yn hT hX f1 mM (by rw [f1];exact Jd w f5) (by rw [Eb];exact e1)),φ,?_⟩
       have e9:off*s'+(n+m)*s'=off*s'+n*s'+new.length:=by rw [Nat.add_mul,f3];omega
       rw [e9];exact ⟨e2,e3,.row id s' off (n+m) bb nb _ cap au rfl mM uE⟩
      .rename_i LW
       split at h
       .rename_i aH;obtain ⟨rfl,hn,LM,NV⟩:=aH;simp at h;subst h;have oz:(n+m)*b<=140737488355328:=by simp only [zo] at NV;omega
        have p9:aC (aW S base φ H w) φ w ds (c0.toList.take ds.length):=⟨by simp;omega,fun i p u hp hu=>by
         have hi:i < ds.length:=(List.getElem?_eq_some_iff.1 hp).1;rw [List.getElem?_take_of_lt hi] at hu;exact q5 i p u hp (by simpa using hu)⟩
        by_cases mM:n+m<=cap
        ·-- in place: the row gets a new name
         -- first as a longer piece of memory under the old name
         have mO:(n+m)*s'<=c0.size:=by
          rw [q2,<- uE];exact Nat.mul_le_mul_right _ (by omega)
         obtain ⟨w',c',e1,e2,e3,e4,e5,e6,e7,e8⟩:=Yb (P:=P) bb (0*s'+n*s') t0 fz news 0 c0 w q1 (by rw [Nat.add_mul] at mO;omega) (zqW f2 LV) (fun j hj=>q4 j (by omega));have NT:c'.size=nb:=by
          have:c'.toList.length=nb:=by rw [e8];rw [Nat.add_mul] at mO;simp;omega
          simpa using this
         have EU:∀ k c,aW S base φ H w k c->c≠bb:=fun k c hc e=>hc.2.2 ⟨id,nb,e ▸ au,by rw [hg];rfl⟩;have hw:=hH.write (o:=.cells true (ds++new)) au (by rw [hg];rfl) e2 e3 e4 e5 e6 ⟨c',t0,fz,e7,NT,by rw [List.length_append,f3,<- hn];rw [Nat.add_mul] at mO;omega,fun j hj=>q4 j hj,fun j av v ha hv=>by
          have p8:=p9.append f2
          refine (p8.2 j av v ha ?_).mono (fun k c hc=>⟨hc,e6 c (EU k c hc)⟩) (fun _ _ h=>h)
          rw [<- Array.getElem?_toList,e8] at hv;rw [<- hv];have hj:j < ds.length+new.length:=by have:=(List.getElem?_eq_some_iff.1 ha).1;simpa using this
          have e10:0*s'+n*s'+0=ds.length:=by omega
          have aO:(c0.toList.take ds.length).length=ds.length:=by rw [List.length_take];simp;omega
          rw [e10];exact (List.getElem?_append_left (l₁:=c0.toList.take ds.length++news) (by rw [List.length_append,aO];have:=f2.1;omega)).symm⟩
         have hr:=hw.2.rename (id:=id) (o:=.cells true (ds++new)) au (LB (hH.nx _ _ au)) rfl (by exact qE);have G5:((H.set id (.cells true (ds++new))).set id .dead).alloc (.cells true (ds++new))=(H.set id .dead).alloc (.cells true (ds++new)):=by
          refine Heap.ext' rfl fun i=>?_
          simp only [Heap.alloc,Heap.set,upd]
          by_cases hi:i=H.nx
          .simp [hi]
          .by_cases F5:i=id<;>simp [hi,F5]
         rw [G5] at hr
         refine .inl ⟨_,w',GY aj hc h1 h2 (Yn hT hX f1 mM (by rw [f1];exact Jd w f5) (by rw [Eb];exact e1)),_,hw.1.trans hr.1,hr.2,?_⟩
         exact .row H.nx s' 0 (n+m) bb nb _ cap (BS _ _) rfl mM uE
        ·-- a new row
         have holds:(Builtin.firstCells s' n (.slice (some ⟨bb,0*s',none⟩) n cap)).run P w.drew=.ok (c0.toList.take ds.length).toArray w.drew:=by
          refine RY (by simp;omega) (fun h=>by cases h) fun a ha j u hu=>?_
          simp at ha;subst ha;rw [Eb];have hi:j < ds.length:=by have:=(List.getElem?_eq_some_iff.1 hu).1;simp at this;omega
          rw [List.getElem?_take_of_lt hi] at hu;show w.drew.cell? _=_;have Je:w.drew.heap[bb]?=some (.cells c0 t0 fz):=q1;simp only [World.cell?,Je]
          simpa using hu
         obtain ⟨c',e,cp,g1,g2,g3,rest,g4⟩:=VW (ty:=o.type) (olds:=c0.toList.take ds.length) hT hX f1 mM vR oz (by rw [hX];exact holds) (by rw [f1];exact Jd _ f5) (by simp;omega) yU;have hk:=hH.kill id;have hlen:(ds++new).length<=c'.size:=by
          have:c'.toList.length=c'.size:=by simp
          rw [g4] at this;simp at this ⊢;have:=f2.1;omega
         have p8:=p9.append f2;have aR:=hk.2.new (H':=(H.set id .dead).alloc (.cells true (ds++new))) (w':=w.drew.alloc (.cells c' e)) (id:=H.nx) (b:=w.heap.size) (n:=c'.size) (o:=.cells true (ds++new))
          (((Below.refl _ w).drew).alloc (Nat.le_refl _) _) qE (NN (H:=H.set id .dead)) (fun i hi _=>Lx (H:=H.set id .dead) hi) (Nat.lt_succ_self _) (Nat.le_succ _) (Nat.le_refl _) (RZ w _)
          ⟨c',e,(0,0),heap_alloc_new w.drew _,rfl,hlen,fun j _ hj=>by simp at hj,fun j av v ha hv=>by
           have hj:j < ds.length+new.length:=by have:=(List.getElem?_eq_some_iff.1 ha).1;simpa using this
           rw [<- Array.getElem?_toList,g4,List.getElem?_append_left (by have:=f2.1;simp;omega)] at hv;exact aG.mono (w:=w) (fun _ b hb=>⟨(hk.1.DZ hb).1,Below.heap_alloc w.drew _ b hb.2.1⟩) (fun _ _ h=>h) (p8.2 j av v ha hv)⟩
         refine .inl ⟨_,_,GY aj hc h1 h2 g1,_,hk.1.trans aR.1,aR.2,?_⟩
         exact .row H.nx s' 0 (n+m) _ _ 0 cp (BS _ _) (by simp) g2 (by simp [g3])
       .simp at h
     .simp at h
    .simp at h
   ·-- onto a row that is cut at its end
    rename_i id s' off n heq;rw [heq] at vQ;obtain ⟨bb,nb,au,hX⟩:=vQ.yw
    split at h
    .rename_i si;subst si
     split at h
     .rename_i hm;subst hm;simp at h;subst h;have Ee:news=[]:=List.eq_nil_of_length_eq_zero (by simpa using yU)
      refine zU (v:=.slice (some ⟨bb,off*s',none⟩) n n) (GY aj hc h1 h2 ?_) (.lS id s' off n bb nb _ au rfl)
      obtain ⟨e,e',ht,hu,hs,hb,z,hz,r9⟩:=hT.ex;have bZ:∀ w,(sizeOf e).run P w=.ok s' w:=fun w=>zV hs;rw [hX,f1];simp only [Builtin.append_,List.getElem?_toArray,List.getElem?_cons_zero,List.getElem?_cons_succ,Sem.run_bind,zh ht,zh hu,Result.andThen_ok,bZ,Sem.run_pure,Builtin.lenOf];rw [if_neg (by simp)];simp only [pure_bind,Nat.add_zero,Nat.le_refl,if_true,Bool.not_false,Sem.run_bind,Jd w f5,Result.andThen_ok,Sem.run_pure];rw [Ee];simp [storeCells]
     .rename_i Br
      split at h
      .rename_i own ds hg
       split at h
       .rename_i aH;obtain ⟨hdl,LM,NV⟩:=aH;simp at h;subst h;have ho:=hH.obj _ _ _ au;rw [hg] at ho;obtain ⟨c0,t0,fz,q1,q2,q3,q4,q5⟩:=ho;have oz:(n+m)*b<=140737488355328:=by simp only [zo] at NV;omega
        have p9:aC (aW S base φ H w) φ w ((ds.drop (off*s')).take (n*s')) (((c0.toList.take ds.length).drop (off*s')).take (n*s')):=by
         refine (aC.drop ?_ _).take _
         exact ⟨by simp;omega,fun i p u hp hu=>by
          have hi:i < ds.length:=(List.getElem?_eq_some_iff.1 hp).1;rw [List.getElem?_take_of_lt hi] at hu;exact q5 i p u hp (by simpa using hu)⟩
        have LQ:(((c0.toList.take ds.length).drop (off*s')).take (n*s')).length=n*s':=by simp;omega
        have holds:(Builtin.firstCells s' n (.slice (some ⟨bb,off*s',none⟩) n n)).run P w.drew=.ok (((c0.toList.take ds.length).drop (off*s')).take (n*s')).toArray w.drew:=by
         refine RY (by simp;omega) (fun h=>by cases h) fun a ha j u hu=>?_
         simp at ha;subst ha;rw [Eb];have hj:j < n*s':=by have:=(List.getElem?_eq_some_iff.1 hu).1;omega
         rw [List.getElem?_take_of_lt hj,List.getElem?_drop,List.getElem?_take_of_lt (by omega)] at hu;show w.drew.cell? _=_;have Je:w.drew.heap[bb]?=some (.cells c0 t0 fz):=q1;simp only [World.cell?,Je]
         simpa using hu
        have mM:¬ n+m<=n:=by omega
        obtain ⟨c',e,cp,g1,g2,g3,rest,g4⟩:=VW (ty:=o.type) (olds:=((c0.toList.take ds.length).drop (off*s')).take (n*s')) hT hX f1 mM (Nat.le_refl _) oz (by rw [hX];exact holds) (by rw [f1];exact Jd _ f5) LQ yU;have p8:=p9.append f2;have Jf:((ds.drop (off*s')).take (n*s')++new).length=n*s'+new.length:=by
         rw [List.length_append,List.length_take,List.length_drop];omega
        have hlen:((ds.drop (off*s')).take (n*s')++new).length<=c'.size:=by
         have:c'.toList.length=c'.size:=by simp
         rw [g4] at this;rw [Jf,<- this];simp only [List.length_append,LQ];have:=f2.1;omega
        refine .inl ⟨_,_,GY aj hc h1 h2 g1,w.heap.size,c'.size,((Below.refl _ w).drew).alloc (Nat.le_refl _) _,Nat.le_refl _,RZ w _,?_,fun I' φ' id au=>?_⟩
        .refine ⟨c',e,(0,0),heap_alloc_new w.drew _,rfl,hlen,fun j _ hj=>by simp at hj,fun j av v ha hv=>?_⟩
         have hj:j < (((c0.toList.take ds.length).drop (off*s')).take (n*s')++news).length:=by
          have:=(List.getElem?_eq_some_iff.1 ha).1;rw [Jf] at this;rw [List.length_append,LQ];have:=f2.1;omega
         rw [<- Array.getElem?_toList,g4,List.getElem?_append_left hj] at hv;exact aG.mono (w:=w) (fun _ b hb=>⟨hb,Below.heap_alloc w.drew _ b hb.2.1⟩) (fun _ _ h=>h) (p8.2 j av v ha hv)
        .exact .row id s' 0 (n+m) _ _ 0 cp au (by simp) g2 (by simp [g3])
       .simp at h
      .simp at h
    .simp at h
   .simp at h
end
section
variable {C:jH} {P:Program} {S:Bool->Nat->Prop} {base:Nat} {φ:jO} {H:Heap} {w:World} {env:Env} {a:Act} {e:Eff} {o:Oper} {I:Bool->Nat->Prop}
theorem zla (hE:bq (aW S base φ H w) φ w env a) {X:Operand} {x:aa} {s t:TypeId} {b:ByteArray} (hx:zD X=some x) (hs:P.underlying s=some .string) (ht:P.underlying t=some .string)
  (aj:o.op=.convert s t X) (hv:x.eval env=.pure (.str b)):jA C S base φ H w (.val (.pure (.str b))) ((execOp a.eval o).run P w):=by
 have h:=zG hE hx;rw [hv] at h
 refine zU (v:=.string b) ?_ (.pure _ _ (.str _))
 simp only [execOp,aj,convert,Sem.run_bind,zh hs,zh ht,Result.andThen_ok,h.jv];rfl
theorem zgg {b n:Nat} {e:TypeId} (h:w.shape? b=some (e,n)):(markStringish ⟨b,0,none⟩).run P w=.ok () (w.freeze ⟨b,n,none⟩ 1):=by
 simp [markStringish,h]
theorem zmk (hE:bq (aW S base φ H w) φ w env a) {X:Operand} {x:aa} {s t el:TypeId} {b:ByteArray} (hx:zD X=some x) (hs:P.underlying s=some .string) (ht:P.underlying t=some (.slice el)) (he:P.underlying el=some (.int .u8)) (bZ:iU P el=some 1)
  (aj:o.op=.convert s t X) (hv:x.eval env=.pure (.str b)) :
  jA C S base φ H w (.new (.cells true (b.data.toList.map fun b=>.pure (.int .u8 b.toNat))) fun id=>.row id 1 0 b.size) ((execOp a.eval o).run P w):=by
 have h:=zG hE hx;rw [hv] at h
 let cap:=(Question.appendCap b.size 0 el).cut (w.tape w.drawn (.appendCap b.size 0 el))
 have vR:b.size<=cap:=by show b.size<=b.size+_;omega
 let c:Array Value:=(b.data.map fun b=>.int .u8 b.toNat)++Array.replicate (cap - b.size) (.int .u8 0)
 have hc:c.size=cap:=by simp only [c,Array.size_append,Array.size_map,Array.size_replicate];have:b.data.size=b.size:=rfl;omega
 have hw:((w.drew.alloc (.cells c el)).freeze ⟨w.heap.size,c.size,none⟩ 1)={ w.drew with heap:=w.heap.push (.cells c el (c.size,c.size+1)) }:=by
  simp only [World.freeze];rw [if_neg (by decide)];show World.mk _ _ _ _ _=World.mk _ _ _ _ _
  congr 1
  show (w.heap.push (.cells c el)).modify w.heap.size _=_;apply Array.ext_getElem?;intro i;rw [Array.getElem?_modify]
  by_cases hi:i=w.heap.size
  .subst hi;simp
  .rw [if_neg (fun h=>hi h.symm)];rw [Array.getElem?_push,Array.getElem?_push];simp [hi]
 have Cf:Below w.heap.size w { w.drew with heap:=w.heap.push (.cells c el (c.size,c.size+1)) } :=
  ⟨rfl,rfl,rfl,by simp,fun k hk=>by show (w.heap.push _)[k]?=_;rw [Array.getElem?_push,if_neg (by omega)]⟩
 refine .inl ⟨.slice (some ⟨w.heap.size,0,none⟩) b.size cap,{ w.drew with heap:=w.heap.push (.cells c el (c.size,c.size+1)) },?_,w.heap.size,c.size,Cf,Nat.le_refl _,by simp,?_,fun I' φ' id au=>?_⟩
 .rw [<- hw];have qJ:(Question.appendCap b.size 0 el).forced=false:=rfl;have Ed:({ w with drawn:=w.drawn+1 }:World)=w.drew:=rfl;have NW:(w.drew.alloc (.cells c el)).shape? w.heap.size=some (el,c.size):=by
   simp only [World.shape?,heap_alloc_new w.drew (.cells c el)];have:=heap_alloc_new w.drew (.cells c el);rw [show w.drew.heap.size=w.heap.size from rfl] at this;rw [this]
  have bP:(Conv.stringToBytes el b).run P w=.ok (.slice (some ⟨w.heap.size,0,none⟩) b.size cap) ((w.drew.alloc (.cells c el)).freeze ⟨w.heap.size,c.size,none⟩ 1):=by
   unfold Conv.stringToBytes;rw [Sem.run_bind,run_choose,if_neg (by rw [qJ];simp)];simp only [Result.andThen_ok];rw [Sem.run_bind];show Result.andThen (.ok (⟨w.heap.size,0,none⟩:Addr) (w.drew.alloc (.cells c el))) _=_;rw [Result.andThen_ok,Sem.run_bind,zgg NW];rfl
  simp only [execOp,aj,convert,Sem.run_bind,zh hs,zh ht,zh he,Result.andThen_ok,h.jv,bP,Sem.run_pure]
 .refine ⟨c,el,(c.size,c.size+1),by simp,rfl,by simp [hc];exact vR,fun j hj hh=>by omega,fun j av v ha hv=>?_⟩
  rw [List.getElem?_map] at ha
  cases hq:b.data.toList[j]? with
  | none=>rw [hq] at ha;simp at ha
  | some q =>
   rw [hq] at ha;simp at ha;subst ha;have hj:j < b.data.size:=by have:=(List.getElem?_eq_some_iff.1 hq).1;simpa using this
   have:c[j]?=some (.int .u8 q.toNat):=by
    simp only [c];rw [Array.getElem?_append_left (by simpa using hj),Array.getElem?_map];rw [Array.getElem?_toList] at hq;rw [hq];rfl
   rw [this] at hv;simp at hv;subst hv;exact .pure _ _ (.int _ _)
 .exact .row id 1 0 b.size _ _ 0 cap au rfl vR (by simp [hc])
theorem zjQ:∀ {cs:List AV} {vs:List Value} {bs:List UInt8} (s:ByteArray),aC I φ w cs vs->cs.mapM Ja=some bs ->
  (forIn vs s fun c s=>match c with
   | .int .u8 n=>pure (ForInStep.yield (s.push (UInt8.ofNat n.toNat)))
   | x=>do
    stuck "bytesToString: byte expected"
    pure (ForInStep.yield s):Sem ByteArray).run P w=.ok ⟨s.data++bs.toArray⟩ w
 | [],vs,bs,s,hr,h=>by
  rw [hr.nk];simp at h;subst h;simp
 | c::cs,vs,bs,s,hr,h=>by
  obtain ⟨v,vs',rfl,h1,h2⟩:=hr.cons_inv;rw [List.mapM_cons] at h
  cases hb:Ja c with
  | none=>simp [hb] at h
  | some b =>
   cases oW:cs.mapM Ja with
   | none=>simp [hb,oW] at h
   | some bs' =>
    simp [hb,oW] at h;subst h;unfold Ja at hb
    split at hb
    .rename_i n;simp at hb;subst hb;have hv:=h1.bF;subst hv;rw [List.forIn_cons];simp only [Sem.run_bind,Sem.run_pure,Result.andThen_ok];rw [zjQ (s.push (UInt8.ofNat n.toNat)) h2 oW];simp [ByteArray.push]
    .simp at hb
theorem zpw (hH:aS C S base φ H w) (hE:bq (aW S base φ H w) φ w env a) {X:Operand} {x:aa} {s t el:TypeId} {cs:List AV} {m:Nat} {bs:List UInt8} (hx:zD X=some x) (hs:P.underlying s=some (.slice el)) (ht:P.underlying t=some .string) (he:P.underlying el=some (.int .u8))
  (aj:o.op=.convert s t X) (hc:zO H 1 (x.eval env)=some (cs,m)) (hb:cs.mapM Ja=some bs):jA C S base φ H w (.val (.pure (.str ⟨bs.toArray⟩))) ((execOp a.eval o).run P w):=by
 obtain ⟨ad,cap,vs,f1,f2,f3,f4,f5⟩:=Yj hH (by decide) (zG hE hx) hc;have LX:vs.length=m:=by have:=f2.1;omega
 refine zU (v:=.string ⟨bs.toArray⟩) ?_ (.pure _ _ (.str _))
 simp only [execOp,aj,convert,Sem.run_bind,zh hs,zh ht,zh he,Result.andThen_ok,f1,Conv.bytesToString]
 cases ad with
 | none =>
  have hm:=f4 rfl;subst hm;have:vs=[]:=List.eq_nil_of_length_eq_zero LX;subst this;have vz:cs=[]:=List.eq_nil_of_length_eq_zero (by have:=f2.1;simpa using this);subst vz;simp at hb;subst hb;rfl
 | some ad =>
  have hl:=run_loadCells_list (P:=P) (w:=w) ad vs (f5 ad rfl);rw [LX] at hl;simp only [Sem.run_bind,hl,Result.andThen_ok];have:=zjQ (P:=P) ByteArray.empty f2 hb;simp only [List.forIn_toArray]
  erw [this]
  simp
end
theorem Yo {n:Int} (h:-9223372036854775808<=n) (h':n < 9223372036854775808):IntKind.i64.wrap n=n:=by
 simp only [IntKind.wrap,IntKind.bits,IntKind.signed,Bool.true_and]
 split
 .rename_i h0;simp at h0;omega
 .rename_i h0;simp at h0;omega
section
variable {C:jH} {P:Program} {S:Bool->Nat->Prop} {base:Nat} {φ:jO} {H:Heap} {w:World} {env:Env} {a:Act} {e:Eff} {o:Oper} {I:Bool->Nat->Prop}
theorem zjm (hE:bq (aW S base φ H w) φ w env a) {X Y:Operand} {x y:aa} {t el:TypeId} {s b:Nat} {z:List PV} {k k':IntKind} {n:Int} (hx:zD X=some x) (hy:zD Y=some y) (ht:P.underlying t=some (.slice el)) (hs:iU P el=some s) (hb:JM P el=some b) (hz:yH P el=some z)
  (h0:0 < s) (r9:z.length=s) (aj:o.op=.makeSlice t X Y) (hl:x.eval env=.pure (.int k n)) (hc:y.eval env=.pure (.int k' n)) (hn:0<=n) (hm:n.toNat*b<=zo) (NV:n.toNat<=zo) :
  jA C S base φ H w (.new (.cells true ((List.replicate n.toNat (z.map AV.pure)).flatten)) fun id=>.row id s 0 n.toNat) ((execOp a.eval o).run P w):=by
 have h1:=zG hE hx;rw [hl] at h1;have h2:=zG hE hy;rw [hc] at h2;obtain ⟨v,hv,JQ,GU⟩:=NS (w:=w) hz;have pO:v.cells.size=s:=by rw [hs] at GU;simpa using GU.symm
 have hi:∃ i,P.info? el=some i/\i.bytes=b:=by
  unfold JM at hb
  cases hi:P.info? el with
  | none=>simp [hi] at hb
  | some i=>simp [hi] at hb;exact ⟨i,rfl,hb⟩
 obtain ⟨i,hi,Jc⟩:=hi;simp only [zo] at hm NV;have Ef:IntKind.i64.wrap n=n:=Yo (by omega) (by omega)
 let row:Array Value:=(Array.range (n.toNat*s)).map (v.cells[· % v.cells.size]!)
 have sI:=VR (I:=aW S base φ H w) (φ:=φ) (w:=w) (n:=n.toNat) JQ (by omega) row (by simp [row,r9]) (fun j hj=>by
   have oZ:j < n.toNat*s:=by rw [r9] at hj;exact hj
   have hm:j % s < v.cells.size:=by rw [pO];exact Nat.mod_lt _ h0
   simp only [row,Array.getElem?_map,pO,r9];rw [Array.getElem?_range,if_pos oZ];simp only [Option.map_some];rw [getElem!_pos v.cells (j % s) hm,Array.getElem?_eq_getElem hm])
 have Ec:row.size=n.toNat*s:=by simp [row]
 refine RQ (c:=row) (t:=el) (v:=.slice (some ⟨w.heap.size,0,none⟩) n.toNat n.toNat) ?_ (by have:=sI.1;simp only [Array.length_toList] at this;omega) (fun j a v ha hv=>sI.2 j a v ha (by simpa using hv)) fun I' φ' w' id au=>.row id s 0 n.toNat _ _ 0 n.toNat au (by simp) (Nat.le_refl _) (by simp [Ec])
 have mO:(decide (n < 0)||decide ((b:Int)*n > 2 ^ 48))=false:=by
  have h3:(b:Int)*n=((n.toNat*b:Nat):Int):=by
   rw [Int.natCast_mul,Int.toNat_of_nonneg hn,Int.mul_comm]
  simp only [Bool.or_eq_false_iff,decide_eq_false_iff_not];rw [h3];omega
 simp only [execOp,aj,Instr.makeSlice,Sem.run_bind,zh ht,Result.andThen_ok,h1.bF,h2.bF,asInt,asIntOf,Sem.run_pure,Qi hi,Jc,Ef,mO];rw [if_neg (by simp;omega)];simp only [Sem.run_bind,run_askRoom,Result.andThen_ok,zV hs]
 by_cases vS:n.toNat*s=0
 .rw [if_pos vS];have hz0:n.toNat=0:=by
   rcases Nat.eq_zero_or_pos n.toNat with h|h
   .exact h
   .have:=Nat.mul_pos h h0;omega
  have vB:row=#[]:=Array.eq_empty_of_size_eq_zero (by rw [Ec,vS]);rw [vB,vS];have GV:Array.range 0=#[]:=rfl;simp only [Sem.run_pure,Result.andThen_ok,newRow,Sem.run_bind,run_newObj,GV,Array.map_empty];rfl
 .rw [if_neg vS];simp only [Sem.run_bind,hv,Result.andThen_ok,Sem.run_pure,newRow,run_newObj];rfl
theorem zlL (hE:bq (aW S base φ H w) φ w env a) {X Y:Operand} {x y:aa} {t u el:TypeId} {s b:Nat} {z:List PV} {k k0:IntKind} {n:Int} {c:Call} (hx:zD X=some x) (hy:zD Y=some y) (ht:P.underlying t=some (.slice el)) (hu:P.underlying u=some (.int k0)) (hs:iU P el=some s) (hb:JM P el=some b) (hz:yH P el=some z)
  (h0:0 < s) (r9:z.length=s) (uG:0 < b) (aj:o.op=.call c) (jb:c.callee=.builtin .append) (ha1:c.args.toList=[X,Y]) (ha2:c.argTypes.toList=[t,u]) (hl:x.eval env=.pure .nils) (hc:y.eval env=.pure (.int k n)) (hn:0<=n) (hm:n.toNat*b<=zo) (NV:n.toNat<=zo)
  (he:(n=0/\e=.val (.pure .nils))\/(n≠0/\e=.new (.cells true ((List.replicate n.toNat (z.map AV.pure)).flatten)) fun id=>.row id s 0 n.toNat)) :
  jA C S base φ H w e ((execOp a.eval o).run P w):=by
 have h1:=zG hE hx;rw [hl] at h1;have hX:=h1.aA.jw;have h2:=zG hE hy;rw [hc] at h2;have hY:=h2.bF;obtain ⟨v,hv,JQ,GU⟩:=NS (w:=w.drew) hz;have pO:v.cells.size=s:=by rw [hs] at GU;simpa using GU.symm
 have hi:∃ i,P.info? el=some i/\i.bytes=b:=by
  unfold JM at hb
  cases hi:P.info? el with
  | none=>simp [hi] at hb
  | some i=>simp [hi] at hb;exact ⟨i,rfl,hb⟩
 obtain ⟨i,hi,Jc⟩:=hi;simp only [zo] at hm NV;have Ef:IntKind.i64.wrap n=n:=Yo (by omega) (by omega);have bZ:∀ w,(sizeOf el).run P w=.ok s w:=fun w=>zV hs;have pQ:∀ w,(typeInfo el).run P w=.ok i w:=fun w=>Qi hi;have oz:¬ (n*(i.bytes:Int) > 2 ^ 48):=by
  rw [Jc];have h3:n*(b:Int)=((n.toNat*b:Nat):Int):=by rw [Int.natCast_mul,Int.toNat_of_nonneg hn]
  rw [h3];omega
 rcases he with ⟨rfl,rfl⟩|⟨bJ,rfl⟩
 .refine zU (v:=.slice none 0 0) (GY aj jb ha1 ha2 ?_) (.pure _ _ .nils)
  rw [hX,hY];simp only [Builtin.append_,List.getElem?_toArray,List.getElem?_cons_zero,List.getElem?_cons_succ,Sem.run_bind,zh ht,zh hu,Result.andThen_ok,bZ,Sem.run_pure,asInt,asIntOf,if_true,Ef,pQ];rw [if_neg (by omega)];simp only [pure_bind,Sem.run_bind,pQ,Result.andThen_ok];rw [if_neg oz];simp
 .have R3:∀ m:Nat,0 < m->m*b<=140737488355328->Builtin.nextslicecap m 0*b<=281474976710656:=fun m h hb=>growslice_fits h hb;have LY:0 < n.toNat:=by omega
  have yV:=R3 n.toNat LY (by omega);have qJ:(Question.appendCap (0+n.toNat) 0 el).forced=false:=rfl
  let cp:=(Question.appendCap (0+n.toNat) 0 el).cut (w.tape w.drawn (.appendCap (0+n.toNat) 0 el))
  have LU:n.toNat<=cp:=by show n.toNat<=(0+n.toNat)+_;omega
  let news:=Builtin.zeroCells v.cells n.toNat
  let rest:=Builtin.zeroCells v.cells (cp - (0+n.toNat))
  have LP:news.size=n.toNat*s:=by simp [news,Builtin.zeroCells,pO]
  have Ec:rest.size=(cp - (0+n.toNat))*s:=by simp [rest,Builtin.zeroCells,pO]
  have aR:=VR (I:=aW S base φ H w) (φ:=φ) (w:=w) (n:=n.toNat) JQ (by omega) news (by simp [LP,r9]) (fun j hj=>by
   have oZ:j < n.toNat*s:=by rw [r9] at hj;exact hj
   have hm:j % s < v.cells.size:=by rw [pO];exact Nat.mod_lt _ h0
   simp only [news,Builtin.zeroCells,Array.getElem?_map,pO,r9];rw [Array.getElem?_range,if_pos oZ];simp only [Option.map_some];rw [getElem!_pos v.cells (j % s) hm,Array.getElem?_eq_getElem hm])
  let c':Array Value:=(#[]:Array Value)++news++rest
  have vz:c'.size=cp*s:=by
   simp only [c',Array.size_append,LP,Ec,List.size_toArray,List.length_nil];have h3:cp=n.toNat+(cp - (0+n.toNat)):=by omega
   rw [Nat.zero_add,<- Nat.add_mul,<- h3]
  have bP:(Builtin.append_ #[t,u] o.type #[a.eval X,a.eval Y]).run P w=.ok (.slice (some ⟨w.heap.size,0,none⟩) (0+n.toNat) cp) ((w.drew).alloc (.cells c' el)):=by
   rw [hX,hY];simp only [Builtin.append_,List.getElem?_toArray,List.getElem?_cons_zero,List.getElem?_cons_succ,Sem.run_bind,zh ht,zh hu,Result.andThen_ok,bZ,Sem.run_pure,asInt,asIntOf,if_true,Ef,pQ];rw [if_neg (by omega)];simp only [pure_bind,Sem.run_bind,pQ,Result.andThen_ok];rw [if_neg oz];rw [if_neg (by omega)];simp only [Sem.run_bind,pQ,Result.andThen_ok];rw [if_neg (by
    rintro ⟨h,_⟩;have h7:IntKind.i64.max=9223372036854775807:=rfl;rw [h7] at h;omega)]
   simp only [Sem.run_bind,pQ,Result.andThen_ok];rw [if_neg (by rw [Jc];have:=yV;simp only [Nat.zero_add];omega)];have Ed:({ w with drawn:=w.drawn+1 }:World)=w.drew:=rfl;have uH:(Builtin.firstCells s 0 (.slice none 0 0)).run P w.drew=.ok #[] w.drew:=rfl;have Yp:¬ n.toNat*s=0:=fun h=>by have:=Nat.mul_pos LY h0;omega
   simp only [Sem.run_bind,Sem.run_pure,run_choose,qJ,Bool.false_eq_true,if_false,Result.andThen_ok,pQ,run_askRoom,Ed,uH,Bool.not_true,Yp,hv,newRow,run_newObj];rfl
  have hlen:((List.replicate n.toNat (z.map AV.pure)).flatten).length<=c'.size:=by
   have h4:=aR.1;simp only [Array.length_toList] at h4;rw [h4,LP,vz];exact Nat.mul_le_mul_right _ LU
  refine .inl ⟨_,_,GY aj jb ha1 ha2 bP,w.heap.size,c'.size,((Below.refl _ w).drew).alloc (Nat.le_refl _) _,Nat.le_refl _,RZ w _,?_,fun I' φ' id au=>?_⟩
  .refine ⟨c',el,(0,0),heap_alloc_new w.drew _,rfl,hlen,fun j _ hj=>by simp at hj,fun j av v' ha qx=>?_⟩
   have hj:j < news.size:=by have h5:=(List.getElem?_eq_some_iff.1 ha).1;have h4:=aR.1;simp only [Array.length_toList] at h4;omega
   have fD:news.toList[j]?=some v':=by
    simp only [c',Array.empty_append] at qx;rw [Array.getElem?_append_left hj] at qx
    simpa using qx
   exact aG.mono (w:=w) (fun _ b hb=>⟨hb,Below.heap_alloc w.drew _ b hb.2.1⟩) (fun _ _ h=>h) (aR.2 j av v' ha fD)
  .have:(0+n.toNat)=n.toNat:=by omega
   rw [this];exact .row id s 0 n.toNat _ _ 0 cp au (by simp) LU (by simp [vz])
theorem zpG (hH:aS C S base φ H w) (hE:bq (aW S base φ H w) φ w env a) {X:Operand} {x:aa} {t el:TypeId} {s:Nat} {z:List PV} {c:Call} (hx:zD X=some x) (ht:P.underlying t=some (.slice el)) (hs:iU P el=some s) (hz:yH P el=some z) (h0:0 < s) (r9:z.length=s)
  (aj:o.op=.call c) (hc:c.callee=.builtin .clear) (h1:c.args.toList=[X]) (h2:c.argTypes.toList=[t])
  (h:(x.eval env=.pure .nils/\e=.val (.aQ []))\/∃ id off len ds,x.eval env=.row id s off len/\H.get id=.cells true ds/\off*s+len*s<=ds.length /\
   e=.upd (.aQ []) (H.set id (.cells true (ds.take (off*s)++(List.replicate len (z.map AV.pure)).flatten++ds.drop (off*s+len*s))))) :
  jA C S base φ H w e ((execOp a.eval o).run P w):=by
 have vQ:=zG hE hx;have ha:c.args=#[X]:=by rw [<- h1]
 have hb:c.argTypes=#[t]:=by rw [<- h2]
 have R4:∀ w',(Builtin.clear_ #[t] o.type #[a.eval X]).run P w=.ok (.tuple #[]) w'->(execOp a.eval o).run P w=.ok (.value (.tuple #[])) w':=fun w' h=>by
  simp only [execOp,aj,resolve,hc,invoke,builtin,ha,hb,Sem.run_bind,Sem.run_pure,Result.andThen_ok,List.map_toArray,List.map_cons,List.map_nil,h]
 rcases h with ⟨e1,rfl⟩|⟨id,off,len,ds,e1,hg,hle,rfl⟩
 .rw [e1] at vQ
  refine zU (R4 w ?_) (.aQ [] #[] rfl fun i p v h=>by simp at h)
  simp [Builtin.clear_,zh ht,vQ.aA.jw]
 .rw [e1] at vQ;obtain ⟨b,n,cap,au,hX,vR,uE⟩:=vQ.iY;obtain ⟨v,hv,JQ,GU⟩:=NS (w:=w) hz;have pO:v.cells.size=s:=by rw [hs] at GU;simpa using GU.symm
  have sI:=VR (I:=aW S base φ H w) (φ:=φ) (w:=w) (n:=len) JQ (by omega) (Builtin.zeroCells v.cells len) (by simp [Builtin.zeroCells,r9,pO]) (fun j hj=>by
   have oZ:j < len*s:=by rw [r9] at hj;exact hj
   have hm:j % s < v.cells.size:=by rw [pO];exact Nat.mod_lt _ h0
   simp only [Builtin.zeroCells,Array.getElem?_map,pO,r9];rw [Array.getElem?_range,if_pos oZ];simp only [Option.map_some];rw [getElem!_pos v.cells (j % s) hm,Array.getElem?_eq_getElem hm])
  have hlen:((List.replicate len (z.map AV.pure)).flatten).length=len*s:=by simp [r9]
  have bG:((List.replicate len (z.map AV.pure)).flatten).all AV.one=true:=by
   rw [List.all_eq_true];intro p hp;obtain ⟨l,hl,hp⟩:=List.mem_flatten.1 hp;have:=List.eq_of_mem_replicate hl;subst this;obtain ⟨q,hq,rfl⟩:=List.mem_map.1 hp;obtain ⟨i,hi⟩:=List.getElem?_of_mem hq
   -- constants of one cell
   have key:∀ (vs:List Value) (ps:List PV),ES vs=some ps->∀ q∈ps,(AV.pure q).one=true:=by
    intro vs
    induction vs with
    | nil=>intro ps h;simp [ES] at h;subst h;simp
    | cons u us ih =>
     intro ps h;unfold ES at h
     split at h
     .simp at h
     .rename_i p hp
      split at h
      .simp at h
      .rename_i qs hqs;simp at h;subst h;intro q hq;rcases List.mem_cons.1 hq with rfl|hq
       .unfold RB at hp
        split at hp<;>simp at hp<;>subst hp<;>rfl
       .exact ih qs hqs q hq
   exact key _ _ JQ q hq
  obtain ⟨w',g1,g2,g3⟩:=Yc (P:=P) (off:=off*s) hH au hg sI bG (by rw [hlen];exact hle);rw [hlen] at g2 g3
  refine .inl ⟨.tuple #[],w',R4 w' ?_,φ,g2,g3,.aQ [] #[] rfl fun i p v h=>by simp at h⟩
  simp only [Builtin.clear_,List.getElem?_toArray,List.getElem?_cons_zero,Sem.run_bind,zh ht,Result.andThen_ok,hX]
  cases len with
  | zero =>
   have G6:(Builtin.zeroCells v.cells 0).toList=[]:=by simp [Builtin.zeroCells]
   rw [G6] at g1;simp only [storeCells] at g1;simp at g1;subst g1;simp
  | succ k=>simp only [Sem.run_bind,hv,Result.andThen_ok,g1,Sem.run_pure]
theorem Yq (xs ys:List AV) (k:List Nat):∀ l:List Nat,xZ xs ys (l++k)=match xZ xs ys l with
  | some true=>xZ xs ys k
  | r=>r
 | []=>by simp [xZ]
 | i::l=>by
  simp only [List.cons_append,xZ]
  split
  .split
   .split
    .split
     .rw [Yq xs ys k l]
     .rfl
    .rfl
   .rfl
  .split
   .split
    .rw [Yq xs ys k l]
    .rfl
   .rfl
def VY (P:Program) (I:Bool->Nat->Prop) (φ:jO) (w:World) (t:TypeId) (at_:Nat) (fx:List AV) (v:Value):Prop :=
 ∃ s g,iU P t=some s/\mF P t=some g/\at_+s<=fx.length /\
  if g then ∃ vs:Array Value,v=.agg vs/\aC I φ w ((fx.drop at_).take s) vs.toList else s=1/\∃ c,fx[at_]?=some c/\aG I φ w c v
theorem zoF {t ft:TypeId} {s sf off at_:Nat} {g:Bool} {fx:List AV} {vs:Array Value} (hs:iU P ft=some sf) (hg:mF P ft=some g) (h1:g=false->sf=1) (hle:off+sf<=s) (Yr:at_+s<=fx.length)
  (hr:aC I φ w ((fx.drop at_).take s) vs.toList):∃ v,(part ft vs off).run P w=.ok v w/\VY P I φ w ft (at_+off) fx v:=by
 have hlen:vs.size=s:=by have:=hr.1;simp at this;omega
 simp only [part,Sem.run_bind,X4 hg,Result.andThen_ok]
 cases g with
 | true =>
  simp only [if_true,Sem.run_bind,zV hs,Result.andThen_ok,Sem.run_pure]
  refine ⟨_,rfl,sf,true,hs,hg,by omega,?_⟩
  simp only [if_true]
  refine ⟨_,rfl,?_⟩
  have:=hr.sub off sf;have e:(((fx.drop at_).take s).drop off).take sf=(fx.drop (at_+off)).take sf:=by
   rw [List.drop_take,List.take_take,List.drop_drop]
   congr 1
   omega
  rwa [e] at this
 | false =>
  have tO:=h1 rfl;subst tO;have aO:off < vs.size:=by omega
  refine ⟨vs[off],by simp [Array.getElem?_eq_getElem aO],1,false,hs,hg,by omega,?_⟩
  simp only [Bool.false_eq_true,if_false];have hc:fx[at_+off]?=some (fx[at_+off]'(by omega)):=List.getElem?_eq_getElem (by omega)
  refine ⟨trivial,_,hc,hr.2 off _ _ ?_ (by simp [Array.getElem?_eq_getElem aO])⟩
  rw [List.getElem?_take_of_lt (by omega),List.getElem?_drop,hc]
theorem zum:∀ (d:Nat) (t:TypeId) (at_:Nat) (ls:List Nat) (fx fy:List AV) (b:Bool),LG P d t at_=some ls->xZ fx fy ls=some b->∀ D,d<=D->∀ (vx vy:Value),VY P I φ w t at_ fx vx->VY P I φ w t at_ fy vy ->
  (Op.equalIn D t vx vy).run P w=.ok b w:=by
 intro d
 induction d with
 | zero=>intro t at_ ls fx fy b h;simp [LG] at h
 | succ d ih =>
  intro t at_ ls fx fy b h hc D hD vx vy hx hy;obtain ⟨D,rfl⟩:∃ D',D=D'+1:=⟨D - 1,by omega⟩
  unfold LG at h
  split at h
  .rename_i k hu
   split at h
   case isFalse=>simp at h
   rename_i sJ;simp at h;subst h;obtain ⟨s,g,q1,q2,q3,q4⟩:=hx;obtain ⟨s',g',p1,p2,p3,p4⟩:=hy;have hg:g=false:=by simp [mF,hu] at q2;exact q2
   have tX:g'=false:=by simp [mF,hu] at p2;exact p2
   subst hg;subst tX;simp only [Bool.false_eq_true,if_false] at q4 p4;obtain ⟨_,c,q5,q6⟩:=q4;obtain ⟨_,c',p5,p6⟩:=p4;simp only [xZ,if_pos sJ,q5,p5] at hc
   split at hc
   .rename_i k1 a1 k2 a2 e1 e2;simp at e1 e2;subst e1;subst e2;have f1:=q6.bF;have f2:=p6.bF;subst f1;subst f2
    split at hc
    .rename_i hk;subst hk;simp only [Op.equalIn,Sem.run_bind,zh hu,Result.andThen_ok,if_true,Sem.run_pure]
     by_cases Ci:a1=a2
     .subst Ci;simp at hc;subst hc;simp
     .have:(a1 == a2)=false:=by simpa using Ci
      rw [this] at hc ⊢;simp at hc;subst hc;rfl
    .simp at hc
   .simp at hc
  .rename_i hu;simp at h;subst h;obtain ⟨s,g,q1,q2,q3,q4⟩:=hx;obtain ⟨s',g',p1,p2,p3,p4⟩:=hy;have hg:g=false:=by simp [mF,hu] at q2;exact q2
   have tX:g'=false:=by simp [mF,hu] at p2;exact p2
   subst hg;subst tX;simp only [Bool.false_eq_true,if_false] at q4 p4;obtain ⟨_,c,q5,q6⟩:=q4;obtain ⟨_,c',p5,p6⟩:=p4;simp only [xZ,if_neg (show ¬ at_+500000 < 500000 by omega),Nat.add_sub_cancel,q5,p5] at hc
   split at hc
   .rename_i a1 a2 e1 e2;simp at e1 e2;subst e1;subst e2;have f1:=q6.iF;have f2:=p6.iF;subst f1;subst f2;simp only [Op.equalIn,Sem.run_bind,zh hu,Result.andThen_ok,Sem.run_pure]
    cases a1<;>cases a2<;>simp at hc<;>subst hc<;>rfl
   .simp at hc
  .rename_i fs hu
   split at h
   .simp at h
   .rename_i fA
    split at h
    .rename_i s hs;obtain ⟨s1,g,q1,q2,q3,q4⟩:=hx;obtain ⟨s2,g',p1,p2,p3,p4⟩:=hy;have hg:g=true:=by simp [mF,hu] at q2;exact q2
     have tX:g'=true:=by simp [mF,hu] at p2;exact p2
     subst hg;subst tX;have es1:s1=s:=by rw [hs] at q1;simpa using q1.symm
     have es2:s2=s:=by rw [hs] at p1;simpa using p1.symm
     obtain ⟨s0,pM⟩:∃ s0,s0=s:=⟨s,rfl⟩
     rw [<- pM] at es1 es2 h;rw [es1] at q3 q4;rw [es2] at p3 p4;simp only [if_true] at q4 p4;obtain ⟨xs,rfl,EW⟩:=q4;obtain ⟨ys,rfl,NR⟩:=p4;have Yt:P.stoodInHeld t=false:=by simp at fA;exact fA.1
     simp only [Op.equalIn,Sem.run_bind,zh hu,Result.andThen_ok,run_program,Yt,Bool.false_eq_true,if_false]
     -- the loop over the fields
     have loop:∀ (l:List Field) (ls:List Nat) (b:Bool),RG P (LG P d) s0 at_ l=some ls->xZ fx fy ls=some b ->
       (forIn l ((none,()):Option Bool×Unit) (fun f __s =>
        if f.name ≠ "_" then do
         let __do_lift <- part f.type xs f.offset
         let __do_lift_1 <- part f.type ys f.offset
         let __do_lift <- Op.equalIn D f.type __do_lift __do_lift_1
         if (!__do_lift)=true then pure (ForInStep.done (some false,()))
          else pure (ForInStep.yield (none,()))
        else pure (ForInStep.yield (none,()))):Sem (Option Bool×Unit)).run P w=.ok (if b then none else some false,()) w:=by
      intro l
      induction l with
      | nil=>intro ls b h hc;simp [RG] at h;subst h;simp [xZ] at hc;subst hc;simp
      | cons f l ihl =>
       intro ls b h hc;unfold RG at h
       split at h
       .simp at h
       .rename_i yY
        split at h
        .rename_i sf g l1 ls2 e1 e2 e3 e4
         split at h
         .rename_i aH;simp at h;subst h;rw [Yq] at hc;obtain ⟨v1,r1,r2⟩:=zoF (t:=t) e1 e2 aH.2 aH.1 q3 EW;obtain ⟨v2,r3,r4⟩:=zoF (t:=t) e1 e2 aH.2 aH.1 p3 NR;rw [List.forIn_cons,if_pos yY]
          cases hb:xZ fx fy l1 with
          | none=>rw [hb] at hc;simp at hc
          | some b1 =>
           have:=ih _ _ _ _ _ _ e3 hb D (by omega) _ _ r2 r4;rw [hb] at hc;simp only [Sem.run_bind,r1,r3,this,Result.andThen_ok]
           cases b1 with
           | true =>
            simp only at hc;simp only [Bool.not_true,Bool.false_eq_true,if_false,Sem.run_pure,Result.andThen_ok];exact ihl _ _ e4 hc
           | false =>
            simp at hc;subst hc;simp
         .simp at h
        .simp at h
     have:=loop fs.toList ls b h hc;rw [<- Array.forIn_toList]
     erw [this]
     cases b<;>simp
    .simp at h
  .simp at h
theorem zpU (hE:bq (aW S base φ H w) φ w env a) {X Y:Operand} {x y:aa} {op:BinOp} {t t':TypeId} {s:Nat} {ls:List Nat} {b:Bool} {fs:Array Field} (hx:zD X=some x) (hy:zD Y=some y) (hu:P.underlying t=some (.struct fs)) (Bv:LG P 8 t 0=some ls) (hs:iU P t=some s)
  (aj:o.op=.binOp op t X Y t') (R5:op=.eql\/op=.neq) (Cj:(∃ cs,x.eval env=.agg cs)\/∃ ps,x.eval env=.pure (.agg ps)) (hay:(∃ cs,y.eval env=.agg cs)\/∃ ps,y.eval env=.pure (.agg ps))
  (Bw:(x.eval env).cells.length=s) (hly:(y.eval env).cells.length=s) (hc:xZ (x.eval env).cells (y.eval env).cells ls=some b) :
  jA C S base φ H w (.val (.pure (.bool (b != (op == .neq))))) ((execOp a.eval o).run P w):=by
 have aux:∀ {Z:Operand} {z:aa},zD Z=some z->((∃ cs,z.eval env=.agg cs)\/∃ ps,z.eval env=.pure (.agg ps))->(z.eval env).cells.length=s->∃ vs,a.eval Z=.agg vs/\VY P (aW S base φ H w) φ w t 0 (z.eval env).cells (.agg vs):=by
  intro Z z hz haz hlz;have hv:=zG hE hz;have hu':z.eval env≠.undef:=by rcases haz with ⟨cs,e⟩|⟨ps,e⟩<;>rw [e]<;>simp
  have vz:=hv.cells hu';have hX:∃ vs,a.eval Z=.agg vs:=by
   rcases haz with ⟨cs,e⟩|⟨ps,e⟩<;>rw [e] at hv
   .exact hv.nu
   .exact hv.aA.nu
  obtain ⟨vs,hX⟩:=hX;rw [hX] at vz
  refine ⟨vs,hX,s,true,hs,by simp [mF,hu],by omega,?_⟩
  simp only [if_true]
  refine ⟨vs,rfl,?_⟩
  rw [List.drop_zero,List.take_of_length_le (by omega)];exact vz
 obtain ⟨vs,e1,r1⟩:=aux hx Cj Bw;obtain ⟨us,e2,r2⟩:=aux hy hay hly;have heq:=zum 8 t 0 ls _ _ b Bv hc 10000 (by decide) _ _ r1 r2;have NY:P.eqGuardType P.depth t=false:=by
  unfold LG at Bv;rw [hu] at Bv;simp only at Bv
  split at Bv
  .simp at Bv
  .rename_i h;simp at h;exact h.2
 have hg:(eqGuard op t X Y (a.eval X) (a.eval Y)).run P w=.ok () w:=by
  rw [e1,e2];rcases R5 with rfl|rfl<;>simp [eqGuard,NY]
 refine zU (v:=.bool (b != (op == .neq))) ?_ (.pure _ _ (.bool _))
 rcases R5 with rfl|rfl
 .simp only [execOp,aj,Sem.run_bind,hg,Result.andThen_ok];rw [e1,e2];simp [binOp,Op.equal,Op.maxDepth,heq]
  cases b<;>rfl
 .simp only [execOp,aj,Sem.run_bind,hg,Result.andThen_ok];rw [e1,e2];simp [binOp,Op.equal,Op.maxDepth,heq]
  try (cases b<;>rfl)
end
end Go.Proofs.YtmmhnfghklppiaaGreat.Vm
