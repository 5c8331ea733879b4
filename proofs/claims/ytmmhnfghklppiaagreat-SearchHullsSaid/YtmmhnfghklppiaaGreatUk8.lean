/- The library's sort of numbers, as the machine of values runs it, by its contract. Contracts of functions of Go's library for the machine of values: slices.Sort, Clone, Delete, Compact, IndexFunc. Appending in a chain: onto an empty literal, and rows of more than one. Maps: what single operations come to; sets of numbers, and tables from numbers. Problems, as data. Narrowing: the greatest boxes no strip of which fails, whichever way they are found. Plain Lean. Trees of cuts: one that grows fits, and how large it is. Plain Lean. How large a refutation's tree is: strips outside of what narrowing leaves, then a division of what is left. Plain Lean. -/
import Derived.Test.YtmmhnfghklppiaaGreatUk7
import Derived.Sort.Grow
import Derived.Sort.Row
import Derived.CallsIn
namespace Go.Proofs.YtmmhnfghklppiaaGreat.Vm
open Go Go.RowKit
set_option linter.unusedVariables false
def ins (a:Int):List Int->List Int
 | []=>[a]
 | b::l=>if a<=b then a::b::l else b::ins a l
def yY:List Int->List Int
 | []=>[]
 | a::l=>ins a (yY l)
theorem ziX (a:Int):∀ l:List Int,(ins a l).Perm (a::l)
 | []=>List.Perm.refl _
 | b::l=>by
  unfold ins
  split
  .exact List.Perm.refl _
  .exact ((ziX a l).cons b).trans (List.Perm.swap a b l)
theorem zfW:∀ l:List Int,(yY l).Perm l
 | []=>List.Perm.refl _
 | a::l=>(ziX a (yY l)).trans ((zfW l).cons a)
theorem zie (a:Int):∀ {l:List Int},l.Pairwise (·<=·)->(ins a l).Pairwise (·<=·)
 | [],_=>by simp [ins]
 | b::l,h=>by
  have h1:=List.pairwise_cons.1 h;unfold ins
  split
  .rename_i DC
   refine List.pairwise_cons.2 ⟨fun x hx=>?_,h⟩
   rcases List.mem_cons.1 hx with rfl|hx
   .exact DC
   .exact Int.le_trans DC (h1.1 x hx)
  .rename_i DC
   refine List.pairwise_cons.2 ⟨fun x hx=>?_,zie a h1.2⟩
   rcases List.mem_cons.1 ((ziX a l).mem_iff.1 hx) with rfl|hx
   .omega
   .exact h1.1 x hx
theorem zgr:∀ l:List Int,(yY l).Pairwise (·<=·)
 | []=>List.Pairwise.nil
 | a::l=>zie a (zgr l)
theorem zgI (l:List Int):(yY l).length=l.length:=(zfW l).length_eq
theorem zhC (l:List Int):(l.mergeSort fun x y=>decide (x<=y))=yY l:=by
 have h1:(l.mergeSort fun x y=>decide (x<=y)).Pairwise (fun a b=>decide (a<=b)=true):=List.pairwise_mergeSort (fun a b c h h'=>by simp at *;omega) (fun a b=>by simp;omega) l
 refine List.Perm.eq_of_pairwise (le:=fun a b=>a<=b) (fun a b _ _ h h'=>Int.le_antisymm h h') (h1.imp fun h=>by simpa using h) (zgr l) ((List.mergeSort_perm l _).trans (zfW l).symm)
def U2:List AV->Option (List Int)
 | []=>some []
 | .pure (.int .i64 z)::l=>(U2 l).map (z :: ·)
 | _=>none
theorem zjK:∀ {l:List AV} {zs:List Int},U2 l=some zs->l=zs.map fun z=>.pure (.int .i64 z)
 | [],zs,h=>by simp [U2] at h;subst h;rfl
 | c::l,zs,h=>by
  unfold U2 at h
  split at h
  .rename_i h0;cases h0
  .rename_i z l' h0;simp only [List.cons.injEq] at h0;obtain ⟨rfl,rfl⟩:=h0;rw [Option.map_eq_some_iff] at h;obtain ⟨ys,hy,rfl⟩:=h;rw [zjK hy];rfl
  .simp at h
def zlu (args:List AV) (H:Heap):Option (AV×Heap) :=
 match args with
 | [.row id 1 off n]=>match H.get id with
  | .cells true cs=>if off+n<=cs.length/\n<=zu then match U2 ((cs.drop off).take n) with
    | some zs=>some (.aQ [],H.set id (.cells true (cs.take off++(yY zs).map (fun z=>AV.pure (.int .i64 z))++cs.drop (off+n))))
    | none=>none else none
  | _=>none
 | _=>none
theorem znH {C:jC} {P:Program} {f:Nat} (hf:II P f)
  (hc:∀ (blk off cap:Nat) (zs:List Int) (w:World),Sort.Holds (Value.int .i64) w blk off zs.toArray->blk < w.heap.size->zs.length < 4611686018427387904 ->
   Calls P f #[.slice (some ⟨blk,off,none⟩) zs.length cap] w fun e w'=>e=.returned (.tuple #[])/\∃ n os,w'=Sort.grow (Sort.putRow (Value.int .i64) (Sort.ahead w n) blk off (zs.mergeSort fun x y=>decide (x<=y)).toArray) os)
  {args:List AV} {H H':Heap} {r:AV} (h:zlu args H=some (r,H')):Us C P f args H r H':=by
 refine ⟨hf,fun k S base φ w vals hH hv=>?_⟩
 unfold zlu at h
 split at h
 .rename_i id off n
  split at h
  .rename_i cs hg
   split at h
   .rename_i aM
    split at h
    .rename_i zs hz;simp only [Option.some.injEq,Prod.mk.injEq] at h;obtain ⟨rfl,rfl⟩:=h;obtain ⟨v,vs',rfl,h1,h2⟩:=hv.cons_inv;have:=h2.nC;subst this;obtain ⟨b,m,cap,aB,rfl,wT,vC⟩:=h1.jr;have ho:=hH.obj _ _ _ aB;rw [hg] at ho;obtain ⟨c,e,fz,q1,q2,q3,q4,q5⟩:=ho;have hzs:=zjK hz;have tX:zs.length=n:=by
      have:((cs.drop off).take n).length=n:=by simp;omega
      rw [hzs] at this
      simpa using this
     have xJ:∀ j,j < zs.length->c[off+j]?=some (.int .i64 zs[j]!):=fun j hj=>by
      have ha:cs[off+j]?=some (.pure (.int .i64 zs[j]!)):=by
       have h3:((cs.drop off).take n)[j]?=some (.pure (.int .i64 zs[j]!)):=by
        rw [hzs,List.getElem?_map,List.getElem?_eq_getElem hj];simp [hj]
       rw [List.getElem?_take_of_lt (by omega),List.getElem?_drop] at h3;exact h3
      have uS:off+j < c.size:=by omega
      have KZ:c[off+j]?=some c[off+j]:=Array.getElem?_eq_getElem uS;have:=(q5 _ _ _ ha KZ).bJ;rw [KZ,this]
     have PU:Sort.Holds (Value.int .i64) w b off zs.toArray:=fun j hj=>by
      have o8:j < zs.length:=by simpa using hj
      refine ⟨?_,?_⟩
      .simp only [World.cell?,q1];rw [xJ j o8];simp
      .have uS:off+j < c.size:=by omega
       simp only [World.frozen?,q1];have:=q4 (off+j) (by omega)
       simpa using this
     have o7:b < w.heap.size:=(hH.lt _ _ _ aB).2;have bO:=hc b off cap zs w PU o7 (by rw [tX];have:=aM.2;simp only [zu] at this;omega);rw [tX] at bO;rw [Nat.mul_one]
     refine (callsIn_wide.2 bO).mono ?_
     rintro e' w' ⟨rfl,n',os,rfl⟩;rw [zhC];have lS:(Sort.putRow (Value.int .i64) (Sort.ahead w n') b off (yY zs).toArray).heap[b]?=some (.cells (Sort.putCells (Value.int .i64) off (yY zs).toArray c) e fz):=by
      simp [Sort.putRow,Sort.mapBlock,Sort.ahead,Array.getElem?_modify,q1,Sort.onCells]
     have Lh:=hH.write (o:=.cells true (cs.take off++(yY zs).map (fun z=>AV.pure (.int .i64 z))++cs.drop (off+n))) (w':=Sort.putRow (Value.int .i64) (Sort.ahead w n') b off (yY zs).toArray) aB (by rw [hg];rfl) rfl rfl rfl (by simp [Sort.ahead]) (fun c' vB=>by
       simp [Sort.putRow,Sort.mapBlock,Sort.ahead,Array.getElem?_modify,vB.symm]) ⟨_,e,fz,lS,by simp [Sort.putCells,q2],by
       have:=zgI zs;simp only [List.length_append,List.length_take,List.length_map,List.length_drop];omega,q4,fun j a v ha hv=>?_⟩
     .have Bc:Below (Sort.putRow (Value.int .i64) (Sort.ahead w n') b off (yY zs).toArray).heap.size (Sort.putRow (Value.int .i64) (Sort.ahead w n') b off (yY zs).toArray) (Sort.grow (Sort.putRow (Value.int .i64) (Sort.ahead w n') b off (yY zs).toArray) os):=by
       refine ⟨rfl,rfl,rfl,by simp [Sort.grow],fun c' vB=>?_⟩
       simp only [Sort.grow];rw [Array.getElem?_append_left vB]
      exact ⟨_,φ,rfl,Lh.1.trans (fT.of_below Bc),Lh.2.below Bc,.aQ [] #[] rfl fun i p v h=>by simp at h⟩
     ·-- each cell
      have iX:=(List.getElem?_eq_some_iff.1 ha).1;have aT:=zgI zs;simp only [List.length_append,List.length_take,List.length_map,List.length_drop] at iX;have uS:j < c.size:=by omega
      have PW:c[j]?=some c[j]:=Array.getElem?_eq_getElem uS;have ah:∀ k b',aY S base φ H w k b'->aY S base φ H w k b'/\(Sort.putRow (Value.int .i64) (Sort.ahead w n') b off (yY zs).toArray).heap[b']?=w.heap[b']?:=fun k b' hb'=>⟨hb',by
       have bC:b≠b':=fun e=>hb'.2.2 ⟨id,m,by rw [<- e];exact aB,by rw [hg];rfl⟩;simp [Sort.putRow,Sort.mapBlock,Sort.ahead,Array.getElem?_modify,bC]⟩
      simp only [Sort.putCells,Array.getElem?_mapIdx,PW,Option.map_some,Option.some.injEq] at hv
      by_cases iZ:off<=j/\j < off+n
      .rw [if_pos ⟨iZ.1,by simp [aT,tX];exact iZ.2⟩] at hv;have iG:¬ j < (cs.take off).length:=by simp;omega
       rw [List.append_assoc,List.getElem?_append_right (by simp;omega)] at ha;have e1:j - (cs.take off).length=j - off:=by simp;omega
       rw [e1,List.getElem?_append_left (by simp;omega),List.getElem?_map,List.getElem?_eq_getElem (by omega)] at ha;simp only [Option.map_some,Option.some.injEq] at ha;subst ha;subst hv;have aK:j - off < (yY zs).length:=by omega
       have:((yY zs).toArray[j - off]! : Int)=(yY zs)[j - off]:=by simp [aK]
       rw [this];exact .pure _ _ (.int _ _)
      .rw [if_neg (by simp [aT,tX];omega)] at hv;subst hv;have haj:cs[j]?=some a:=by
        by_cases iG:j < off
        .rw [List.append_assoc,List.getElem?_append_left (by simp;omega),List.getElem?_take_of_lt iG] at ha;exact ha
        .rw [List.getElem?_append_right (by simp;omega)] at ha;rw [List.getElem?_drop] at ha;have e2:off+n+(j - (cs.take off++(yY zs).map (fun z=>AV.pure (.int .i64 z))).length)=j:=by simp;omega
         rw [e2] at ha;exact ha
       exact (q5 j a c[j] haj PW).mono ah (fun _ _ h=>h)
    .simp at h
   .simp at h
  .simp at h
 .simp at h
open Go
set_option linter.unusedSimpArgs false
set_option maxHeartbeats 4000000
def wpS (rs:List mP) (k:AV->Heap->Prop) (x:fO) (env:Env) (H:Heap):Prop:=(∀ i,x≠.exit i)/\∃ v,results env H rs=some v/\k v H
@[simp] theorem zwI {rs:List mP} {k:AV->Heap->Prop} {env:Env} {H:Heap}:wpS rs k .ret env H↔∃ v,results env H rs=some v/\k v H:=by simp [wpS]
@[simp] theorem zt5 {rs:List mP} {k:AV->Heap->Prop} {env:Env} {H:Heap}:wpS rs k .normal env H↔∃ v,results env H rs=some v/\k v H:=by simp [wpS]
section
variable {G:Prog} {n:Nat} {H:Heap}
theorem F8 {f:Nat} {fn:az} {args:List AV} {k:AV->Heap->Prop} (hr:G.lh f args H=none) (hf:G.func f=some fn) (hl:args.length=fn.xE)
  (h:wp (zt G n) fn.body (zb args) H (wpS fn.results k) .mk):∃ v H',Vm.call G (n+1) (.fn f) args H=some (v,H')/\k v H':=by
 obtain ⟨x,e,h',h1,h2,v,h3,h4⟩:=h
 refine ⟨v,h',?_,h4⟩
 rw [zlh,hr,hf];simp only [hl,if_true,h1]
 cases x with
 | exit i=>exact absurd rfl (h2 i)
 | normal=>simp only [h3]
 | ret=>simp only [h3]
theorem LB {f:Nat} {caps:List PV} {args:List AV} {k:AV->Heap->Prop} {u} (hs:G.shared f=true) (h:∃ v H',Vm.call G (n+1) (.fn f) (args++caps.map .pure) H=some (v,H')/\k v H') :
  wpE 0 (zG (zt G (n+1)) H (.pure (.func f caps)) args) H k u:=by
 obtain ⟨v,H',h1,h2⟩:=h
 refine ⟨.upd v H',?_,by simp,h2⟩
 have oH:(zt G (n+1)).shared f=true:=hs;have uP:(zt G (n+1)).run f (args++caps.map .pure) H=some (v,H'):=h1;simp only [zG,oH,if_true,uP]
theorem LC {f:Nat} {caps:List PV} {args:List AV} {ps:List PV} {r:PV} {pre:Nat} {k:AV->Heap->Prop} {u} (hs:G.shared f=false) (ha:FrzL H true qP (args++caps.map .pure) ps) (h:zF G n f ps=some r) (hc:r.cold=true)
  (hk:k (.pure r) H):wpE pre (zG (zt G n) H (.pure (.func f caps)) args) H k u:=by
 obtain ⟨ids,ha⟩:=ha
 refine ⟨.val (.pure r),?_,by simp [tN],hk⟩
 have oH:(zt G n).shared f=false:=hs;have h':(zt G n).pure f ps=some r:=h;simp only [zG,oH,Bool.false_eq_true,if_false,ha,h',hc,Bool.or_true,if_true]
end
section
variable {α:Type} {f:α->List PV} {sz:Nat} {H:Heap} {v:AV} {l:List α}
theorem Su:zq f ([]:List α)=[]:=rfl
theorem PX (a:α) (l:List α):zq f (a::l)=(f a).map .pure++zq f l:=by simp [zq]
theorem ziv (hf:∀ a,(f a).length=sz):∀ (l:List α) (i:Nat),(zq f l).take (i*sz)=zq f (l.take i)
 | [],i=>by simp [zq]
 | a::l,0=>by simp [zq]
 | a::l,i+1=>by
  have h3:(List.map AV.pure (f a)).length=sz:=by rw [List.length_map,hf]
  rw [List.take_succ_cons,PX,PX,Nat.add_mul,Nat.one_mul,Nat.add_comm,<- h3,List.take_length_add_append,h3,ziv hf l i]
theorem zia (hf:∀ a,(f a).length=sz):∀ (l:List α) (i:Nat),(zq f l).drop (i*sz)=zq f (l.drop i)
 | [],i=>by simp [zq]
 | a::l,0=>by simp [zq]
 | a::l,i+1=>by
  have h3:(List.map AV.pure (f a)).length=sz:=by rw [List.length_map,hf]
  rw [List.drop_succ_cons,PX,Nat.add_mul,Nat.one_mul,Nat.add_comm,<- h3,List.drop_length_add_append,h3,zia hf l i]
theorem Ym (bn:∀ a,(f a).all PV.one=true) (l:List α):(zq f l).all AV.one=true:=by
 induction l with
 | nil=>rfl
 | cons a l ih=>rw [PX,List.all_append,ih,U0 _ (bn a)];rfl
theorem zeH (l:List α):zq f l=((l.map f).flatten).map .pure:=by simp [zq,List.map_flatten,Function.comp_def]
theorem J8 (hf:∀ a,(f a).length=sz) (s:Sl α):zM H sz (.pure (s.pv f sz))=some (zq f s.xs,s.xs.length):=by
 rw [zju hf,zeH]
theorem bP.slice (hf:∀ a,(f a).length=sz) (h:bP f sz H v l):zM H sz v=some (zq f l,l.length):=by
 rcases h with ⟨rfl,rfl⟩|⟨id,rfl,hg⟩
 .rfl
 .rw [zjn,hg];have:=DX hf l;simp only [Yj];rw [if_pos (by omega),Nat.zero_mul,List.drop_zero,<- this,List.take_length]
def Bn {α:Type} (f:α->List PV) (sz:Nat) (H:Heap) (v:AV) (l:List α):Prop:=∃ id rest,v=.row id sz 0 l.length/\H.get id=.cells true (zq f l++rest)
theorem Bn.frz {k:Bool} {n:Nat} (hf:∀ a,(f a).length=sz) (h:Bn f sz H v l):FrzK H k (n+2) v (.slice k sz (l.map f)):=by
 obtain ⟨id,rest,rfl,hg⟩:=h;have hlen:=DX hf l;have qg:∀ l:List α,chunks sz l.length ((l.map f).flatten)=l.map f:=by
  intro l
  induction l with
  | nil=>rfl
  | cons a l ih =>
   simp only [List.length_cons,chunks,List.map_cons,List.flatten_cons];rw [List.take_left' (hf a),List.drop_left' (hf a),ih]
 have U3:((l.map f).flatten).length=l.length*sz:=by
  rw [<- hlen,zeH,List.length_map]
 refine ⟨[id],?_⟩
 have h1:((zq f l++rest).drop (0*sz)).take (l.length*sz)=((l.map f).flatten).map .pure:=by
  rw [Nat.zero_mul,List.drop_zero,<- hlen,List.take_left',zeH];rfl
 have I6:zX (freeze H k (n+1)) (((l.map f).flatten).map .pure)=some ((l.map f).flatten,[]):=by
  generalize (l.map f).flatten=q
  induction q with
  | nil=>rfl
  | cons p ps ih=>rw [List.map_cons,zX,ih];rfl
 unfold freeze;simp only [hg,h1,I6,U3,if_true,qg]
theorem bP.head (h:bP f sz H v l):(l=[]/\v=.pure .nils)\/Bn f sz H v l:=by
 rcases h with h|⟨id,h1,h2⟩
 .exact .inl h
 .exact .inr ⟨id,[],h1,by rw [List.append_nil];exact h2⟩
end
theorem Ha {α:Type} {f:α->List PV} {sz n:Nat} {H:Heap} {id m:Nat} {l:List α} (hf:∀ a,(f a).length=sz) (hg:H.get id=.cells true (zq f l)) (hl:l.length=m):∃ s:Sl α,s.xs=l/\FrzK H true (n+2) (.row id sz 0 m) (s.pv f sz):=by
 subst hl;exact ⟨.mk true l,rfl,Bn.frz hf ⟨id,[],rfl,by rw [List.append_nil];exact hg⟩⟩
theorem sI {α:Type} {f:α->List PV} {sz n:Nat} {H:Heap} {id m:Nat} {l:List α} (hf:∀ a,(f a).length=sz) (hg:H.get id=.cells true (zq f l)) (hl:l.length=m):FrzK H false (n+2) (.row id sz 0 m) ((Sl.mk false l).pv f sz):=by
 subst hl;exact Bn.frz hf ⟨id,[],rfl,by rw [List.append_nil];exact hg⟩
def zqL (sz bytes:Nat):az:=⟨1,8,[(.tmp 2)],(.seq (.region none [⟨(some 2),(.iq (.const .nils)),none⟩]) (.seq (.seq (.region none [⟨(some 3),(.iq (.tmp 0)),none⟩,⟨(some 4),(.bin .eql .slice (.tmp 3) (.const .nils)),none⟩]) (.cond (.tmp 4) (.seq (.region none [⟨(some 2),(.iq (.const .nils)),none⟩]) .ret) .skip)) (.seq (.region none [⟨(some 5),(.buildSlice sz [] []),none⟩,⟨(some 6),(.iq (.tmp 0)),none⟩,⟨(some 7),(.append sz bytes (.tmp 5) (.tmp 6)),none⟩,⟨(some 2),(.iq (.tmp 7)),none⟩]) .ret)))⟩
theorem zf2 {v:AV} {b:Bool} (h:isNil .slice v=some b):iE .eql .slice v (.pure .nils)=some (.pure (.bool b)):=by
 have h1:KS .slice v (.pure .nils)=some b:=by
  have h0:isNil .slice (.pure .nils)=some true:=rfl
  cases b<;>simp only [KS,h,h0]
 cases v with
 | pure p=>cases p<;>simp only [iE,h1,Option.map_some]<;>simp [isNil] at h
 | _=>simp only [iE,h1,Option.map_some]
section
variable {α:Type} {f:α->List PV} {sz:Nat} {H:Heap} {v:AV} {l:List α} {G:Prog} {n:Nat}
theorem ziq {g bytes:Nat} {b:Bool} {k:AV->Heap->Prop} (hx:∀ H,G.lh g [v] H=none) (hg:G.func g=some (zqL sz bytes)) (hv:zM H sz v=some (zq f l,l.length)) (hn:isNil .slice v=some b) (Dw:b=true->l=[])
  (hf:∀ a,(f a).length=sz) (h0:0 < sz) (bn:∀ a,(f a).all PV.one=true) (hm:l.length*sz<=zu/\l.length*bytes<=zu)
  (hk:∀ v' H',bP f sz H' v' l->isNil .slice v'=some b->H.nx<=H'.nx->(∀ id,id < H.nx->H'.get id=H.get id)->(∀ id,Names v' id->H.nx<=id)->k v' H') :
  ∃ v' H',Vm.call G (n+1) (.fn g) [v] H=some (v',H')/\k v' H':=by
 refine F8 (hx H) hg rfl ?_
 simp only [zqL];have h1:=zf2 hn
 cases b with
 | true =>
  have hl:=Dw rfl;subst hl;have:=hk (.pure .nils) H bP.nil rfl (Nat.le_refl _) (fun _ _=>rfl) (fun id ⟨_,_,_,h⟩=>by simp at h);simp [zb,h1,this]
 | false =>
  simp only [zrc,zkE,zmc,zhx,zt4,Yf,Option.getD_none,zjc,ziI,zoU,zm6,zjU,zb,zui,zo2];simp [h1];have ah:zM (H.alloc (.cells true [])) sz v=some (zq f l,l.length):=by
   cases v with
   | row id s o m =>
    simp only [zM] at hv ⊢
    split at hv
    .rename_i hs;rw [if_pos hs]
     split at hv
     .rename_i cs hc;rw [zi (zo hc),hc];exact hv
     .simp at hv
    .simp at hv
   | pure p=>cases p<;>exact hv
   | _=>exact hv
  have ho:=Ym bn l;have hz:(if sz=0 then 0 else 0 / sz)=0:=by split<;>simp
  try rw [hz]
  have NP:zb [v] 0=v:=rfl;rw [NP];have hlen:=DX hf l
  cases l with
  | nil =>
   have PY:zh (H.alloc (.cells true [])) sz bytes (.row H.nx sz 0 0) v=some (.upd (.row H.nx sz 0 0) ((H.alloc (.cells true [])).set H.nx (.cells true []))):=by
    simp only [zh,ah,ho,F7];simp [zq]
   rw [PY];simp
   refine hk _ _ (.inr ⟨H.nx,rfl,?_⟩) rfl (by simp) (fun id aB=>?_) (fun id ⟨_,_,_,h⟩=>?_)
   .rw [zn (by simp)];rfl
   .rw [zg (by omega),zi aB]
   .simp at h;omega
  | cons a l =>
   have PY:zh (H.alloc (.cells true [])) sz bytes (.row H.nx sz 0 0) v=some (.upd (.row (H.nx+1) sz 0 (a::l).length) (((H.alloc (.cells true [])).set H.nx .dead).alloc (.cells true (zq f (a::l))))):=by
    simp only [zh,ah,ho,F7];have hp:0 < (a::l).length*sz:=Nat.mul_pos (by simp) h0;simp only [Bool.not_true,Bool.false_eq_true,if_false,if_true,Nat.zero_mul,Nat.zero_add,List.length_nil];rw [if_neg (by omega)];simp only [true_and,qp,List.nil_append];rw [if_pos hm]
   rw [PY];simp
   refine hk _ _ (.inr ⟨H.nx+1,by simp,?_⟩) rfl (by simp;omega) (fun id aB=>?_) (fun id ⟨_,_,_,h⟩=>?_)
   .exact zhA (by simp)
   .rw [zi (by simp;omega),zg (by omega),zi aB]
   .simp at h;omega
end
section
variable {H:Heap} {v:AV} {l:List Int} {G:Prog} {n:Nat}
end
section
variable {α:Type} {f:α->List PV} {sz:Nat} {G:Prog} {n:Nat}
end
section
variable {H:Heap} {v:AV} {l:List Int} {G:Prog} {n:Nat}
@[simp] theorem PZ {l:List Int} {i:Nat} {x:Int} (h:i < l.length):vK (.cells true (zq aF l)) 1 i [.pure (.int .i64 x)]=some (.cells true (zq aF (l.set i x))):=by
 have hlen:∀ l:List Int,(zq aF l).length=l.length:=fun l=>by rw [DX (sz:=1) (fun _=>rfl)];omega
 simp only [vK];rw [if_pos ⟨rfl,by simp,rfl,by rw [hlen];omega⟩];have h1:=ziv (f:=aF) (sz:=1) (fun _=>rfl) l i;have h2:=zia (f:=aF) (sz:=1) (fun _=>rfl) l (i+1);rw [Nat.mul_one] at h1 h2;rw [h1,h2,List.set_eq_take_append_cons_drop,if_pos h,G9,PX,List.append_assoc];rfl
end
section
variable {G:Prog} {n:Nat} {H:Heap} {env:Env}
theorem zoq {id:Nat} {r:EL} {args:List AV} {k:AV->Heap->Prop} {u} (hg:H.get id=.loop r) (hs:r.state=.ready) (hl:args.length=r.params.length)
  (h:wp (zt G n) r.assign ((r.params.zip args).foldl (fun e x=>upd e x.1 x.2) r.env) H (fun x iB H2=>x=.normal/\H2.get id=.loop r /\
   wp (zt G n) r.body iB (H2.set id (.loop { r with state:=.busy })) (fun x _ H3=>x=.normal/\H3.get id=.loop { r with state:=.busy }/\k (.pure (.bool true)) (H3.set id (.loop { r with state:=.ready,pending:=.normal }))) .mk) .mk) :
  wpE 0 (zG (zt G (n+1)) H (.yield id) args) H k u:=by
 obtain ⟨x,iB,H2,h1,rfl,xS,x3,e3,H3,h3,rfl,h4,h5⟩:=h
 refine ⟨.upd (.pure (.bool true)) (H3.set id (.loop { r with state:=.ready,pending:=.normal })),?_,by simp,h5⟩
 have hy:(zt G (n+1)).yield id args H=some (.pure (.bool true),H3.set id (.loop { r with state:=.ready,pending:=.normal })):=by
  show Vm.call G (n+1) (.yield id) args H=_;have e0:Vm.call G (n+1) (.yield id) args H=(match H.get id with
   | .loop r =>
    if args.length=r.params.length then
     match exec (zt G n) r.assign ((r.params.zip args).foldl (fun e x=>upd e x.1 x.2) r.env) H with
     | some (.normal,iB,H2)=>match H2.get id with
      | .loop r2=>match r2.state with
       | .ready=>match exec (zt G n) r.body iB (H2.set id (.loop { r2 with state:=.busy })) with
        | some (x,_,H3)=>match H3.get id with
         | .loop r3=>match x with
          | .normal=>some (.pure (.bool true),H3.set id (.loop { r3 with state:=.ready,pending:=.normal }))
          | x=>some (.pure (.bool false),H3.set id (.loop { r3 with state:=.done,pending:=x }))
         | _=>none
        | none=>none
       | _=>none
      | _=>none
     | _=>none
    else none
   | _=>none):=rfl
  rw [e0,hg];simp only [hl,if_true,h1,hg,xS,hs,h3,h4]
 simp only [zG,hy]
theorem zk5 {f:ag} {params:List Nat} {assign body:aX} {Q:fO->Env->Heap->Prop} {g:Nat} {caps:List PV} {u} (hf:f.eval env=.pure (.func g caps))
  (h:∃ v H2,Vm.call G (n+1) (.fn g) (.yield H.nx::caps.map .pure) (H.alloc (.loop { env,params,assign,body,state:=.ready,pending:=.normal }))=some (v,H2) /\
   H2.get H.nx=.loop { env,params,assign,body,state:=.ready,pending:=.normal }/\Q .normal env (H2.set H.nx .dead)) :
  wp (zt G (n+1)) (.rangeFunc f params assign body) env H Q u:=by
 obtain ⟨v,H2,h1,h2,h3⟩:=h
 refine ⟨.normal,env,H2.set H.nx .dead,?_,h3⟩
 have uP:(zt G (n+1)).run g (.yield H.nx::caps.map .pure) (H.alloc (.loop { env,params,assign,body,state:=.ready,pending:=.normal }))=some (v,H2):=h1;simp only [exec,hf,uP,h2]
end
def Yn (H:Heap) (sz bytes:Nat) (a b:AV):Option Eff:=match zM H sz b with
  | none=>none
  | some (new,m)=>if !new.all AV.one then none else match a with
   | .void id s=>if s=sz then (if m=0 then some (.val (.row id sz 0 0)) else
     if m*sz<=zu/\m*bytes<=zu then some (.new (.cells true new) fun id=>.row id sz 0 m) else none) else none
   | _=>none
@[simp] theorem ztY {cl:Callee} {env:Env} {H:Heap} (sz bytes:Nat) (a b:ag):step cl env H (.jW sz bytes a b)=Yn H sz bytes (a.eval env) (b.eval env):=by simp only [step,Yn];rfl
section
variable {α:Type} {f:α->List PV} {sz:Nat} {H:Heap} {v:AV} {l:List α}
theorem Yo {bytes pre id:Nat} {b:AV} {k:AV->Heap->Prop} {u} (hb:zM H sz b=some (zq f l,l.length)) (aB:H.get id=.cells true []) (bn:∀ a,(f a).all PV.one=true)
  (hm:l.length*sz<=zu/\l.length*bytes<=zu)
  (hk:∀ v' H',bP f sz H' v' l->H.nx<=H'.nx->(∀ i,i < H.nx->H'.get i=H.get i)->(∀ i,Names v' i->i=id\/H.nx<=i)->k v' H'):wpE pre (Yn H sz bytes (.void id sz) b) H k u:=by
 have ho:=Ym bn l;simp only [Yn,hb,ho];simp only [Bool.not_true,Bool.false_eq_true,if_false,if_true]
 by_cases h0:l.length=0
 .have hl:l=[]:=List.eq_nil_of_length_eq_zero h0;subst hl;rw [if_pos (show ([]:List α).length=0 from rfl),Yf];exact hk _ _ (.inr ⟨id,rfl,by rw [aB];rfl⟩) (Nat.le_refl _) (fun _ _=>rfl) fun i ⟨_,_,_,h⟩=>by simp at h;exact .inl h.1.symm
 .rw [if_neg h0,if_pos hm,UT]
  refine hk _ _ (.inr ⟨H.nx,rfl,F7 _⟩) (Nat.le_succ _) (fun i hi=>zi hi) fun i ⟨_,_,_,h⟩=>?_
  simp at h;exact .inr (by omega)
theorem Yp {bytes:Nat} {b:AV} {m:List α} {k:AV->Heap->Prop} {u} (hv:bP f sz H v l) (hf:∀ a,(f a).length=sz) (h0:0 < sz) (bn:∀ a,(f a).all PV.one=true)
  (hb:zM H sz b=some (zq f m,m.length)) (hm:(l.length+m.length)*sz<=zu/\(l.length+m.length)*bytes<=zu)
  (hk:∀ v' H',bP f sz H' v' (l++m)->H.nx<=H'.nx->(∀ i,i < H.nx->¬ Names v i->H'.get i=H.get i)->(∀ i,Names v' i->Names v i\/H.nx<=i)->k v' H'):wpE 0 (zh H sz bytes v b) H k u:=by
 have ho:=Ym bn m;rcases hv with ⟨rfl,rfl⟩|⟨id,rfl,aB⟩
 .simp only [List.length_nil,Nat.zero_add] at hm
  by_cases Iz:m.length=0
  .have hl:m=[]:=List.eq_nil_of_length_eq_zero Iz;subst hl;have:zh H sz bytes (.pure .nils) b=some (.val (.pure .nils)):=by
    simp only [zh,hb,ho];simp
   rw [this,Yf];exact hk _ _ (.inl ⟨rfl,rfl⟩) (Nat.le_refl _) (fun _ _ _=>rfl) fun i h=>.inl h
  .have:zh H sz bytes (.pure .nils) b=some (.new (.cells true (zq f m)) fun id=>.row id sz 0 m.length):=by
    simp only [zh,hb,ho];simp only [Bool.not_true,Bool.false_eq_true,if_false];rw [if_neg Iz,if_pos hm]
   rw [this,UT]
   refine hk _ _ (.inr ⟨H.nx,by simp,by rw [List.nil_append];exact F7 _⟩) (Nat.le_succ _) (fun i hi _=>zi hi) fun i ⟨_,_,_,h⟩=>.inr ?_
   simp at h;omega
 .have hlen:=DX hf l
  by_cases Iz:m.length=0
  .have hl:m=[]:=List.eq_nil_of_length_eq_zero Iz;subst hl;have:zh H sz bytes (.row id sz 0 l.length) b=some (.upd (.row id sz 0 l.length) (H.set id (.cells true (zq f l)))):=by
    simp only [zh,hb,ho,aB,Su];simp only [Bool.not_true,Bool.false_eq_true,if_false,if_true,List.all_nil,List.length_nil,Nat.add_zero,Nat.zero_mul,Nat.zero_add,List.append_nil];rw [if_pos (by rw [hlen];exact Nat.le_refl _),List.take_of_length_le (by rw [hlen];exact Nat.le_refl _),List.drop_eq_nil_of_le (by rw [hlen];exact Nat.le_refl _),List.append_nil]
   rw [this,Lp]
   refine hk _ _ (.inr ⟨id,by simp,?_⟩) (Nat.le_refl _) (fun i hi hn=>zg fun e=>hn (by subst e;exact ⟨_,_,_,rfl⟩)) fun i h=>?_
   .rw [Ns (zo aB),List.append_nil]
   .obtain ⟨_,_,_,h⟩:=h;simp at h;exact .inl ⟨_,_,_,by rw [h.1]⟩
  .have vH:¬ (0*sz+(l.length+m.length)*sz<=(zq f l).length):=by
    rw [hlen,Nat.add_mul];have:=Nat.mul_pos (Nat.pos_of_ne_zero Iz) h0;omega
   have:zh H sz bytes (.row id sz 0 l.length) b=some (.upd (.row H.nx sz 0 (l.length+m.length)) ((H.set id .dead).alloc (.cells true (zq f l++zq f m)))):=by
    simp only [zh,hb,ho,aB];simp only [Bool.not_true,Bool.false_eq_true,if_false,if_true];rw [if_neg vH];simp only [true_and];rw [if_pos ⟨hlen.symm,hm⟩]
   rw [this,Lp]
   refine hk _ _ (.inr ⟨H.nx,by simp,?_⟩) (Nat.le_succ _) (fun i hi hn=>?_) fun i ⟨_,_,_,h⟩=>.inr ?_
   .have:(H.set id .dead).nx=H.nx:=rfl;rw [<- this,F7,G9]
   .rw [zi (by exact hi),zg];intro e;subst e;exact hn ⟨_,_,_,rfl⟩
   .simp at h;omega
end
section
variable {cl:Callee} {env:Env} {H:Heap}
@[simp] theorem zuK:step cl env H .makeMap=some (.new (.ji []) fun id=>.j6 id):=rfl
@[simp] theorem zt7 (id:Nat):AV.cells (.j6 id)=[.j6 id]:=rfl
@[simp] theorem zvK (id:Nat):AV.one (.j6 id)=true:=rfl
end
structure Span where
 lo:Int
 hi:Int
 deriving Inhabited
@[simp] def Span.cells (s:Span):List PV:=[.int .i64 s.lo,.int .i64 s.hi]
@[simp] theorem Span.eta (s:Span):(⟨s.lo,s.hi⟩:Span)=s:=rfl
structure Box where
 x:Span
 y:Span
 deriving Inhabited
@[simp] def Box.cells (s:Box):List PV:=[.int .i64 s.x.lo,.int .i64 s.x.hi,.int .i64 s.y.lo,.int .i64 s.y.hi]
@[simp] theorem Box.eta (s:Box):(⟨s.x,s.y⟩:Box)=s:=rfl
@[simp] theorem zwD (x0:Int) (x1:Int) (x2:Int) (x3:Int) (P:Box->Prop) {u}:PT Box.cells [.pure (.int .i64 x0),.pure (.int .i64 x1),.pure (.int .i64 x2),.pure (.int .i64 x3)] P u↔P ⟨⟨x0,x1⟩,⟨x2,x3⟩⟩:=by
 constructor
 .rintro ⟨a,h,hp⟩;simp [Box.cells] at h;obtain ⟨rfl,rfl,rfl,rfl⟩:=h;exact hp
 .intro h;exact ⟨_,rfl,h⟩
structure Pt where
 x:Int
 y:Int
 deriving Inhabited
@[simp] def Pt.cells (s:Pt):List PV:=[.int .i64 s.x,.int .i64 s.y]
@[simp] theorem Pt.eta (s:Pt):(⟨s.x,s.y⟩:Pt)=s:=rfl
@[simp] theorem zwT (x0:Int) (x1:Int) (P:Pt->Prop) {u}:PT Pt.cells [.pure (.int .i64 x0),.pure (.int .i64 x1)] P u↔P ⟨x0,x1⟩:=by
 constructor
 .rintro ⟨a,h,hp⟩;simp [Pt.cells] at h;obtain ⟨rfl,rfl⟩:=h;exact hp
 .intro h;exact ⟨_,rfl,h⟩
structure Fact where
 id:Int
 kind:Int
 nt:Bool
 a:Int
 b:Int
 c:Int
 span:Span
 quarter:Int
 deriving Inhabited
@[simp] def Fact.cells (s:Fact):List PV:=[.int .i64 s.id,.int .i64 s.kind,.bool s.nt,.int .i64 s.a,.int .i64 s.b,.int .i64 s.c,.int .i64 s.span.lo,.int .i64 s.span.hi,.int .i64 s.quarter]
@[simp] theorem Fact.eta (s:Fact):(⟨s.id,s.kind,s.nt,s.a,s.b,s.c,s.span,s.quarter⟩:Fact)=s:=rfl
@[simp] theorem zvT (x0:Int) (x1:Int) (x2:Bool) (x3:Int) (x4:Int) (x5:Int) (x6:Int) (x7:Int) (x8:Int) (P:Fact->Prop) {u}:PT Fact.cells [.pure (.int .i64 x0),.pure (.int .i64 x1),.pure (.bool x2),.pure (.int .i64 x3),.pure (.int .i64 x4),.pure (.int .i64 x5),.pure (.int .i64 x6),.pure (.int .i64 x7),.pure (.int .i64 x8)] P u↔P ⟨x0,x1,x2,x3,x4,x5,⟨x6,x7⟩,x8⟩:=by
 constructor
 .rintro ⟨a,h,hp⟩;simp [Fact.cells] at h;obtain ⟨rfl,rfl,rfl,rfl,rfl,rfl,rfl,rfl,rfl⟩:=h;exact hp
 .intro h;exact ⟨_,rfl,h⟩
structure Problem where
 boxes:Sl Box
 facts:Sl Fact
 deriving Inhabited
@[simp] def Problem.cells (s:Problem):List PV:=[(s.boxes).pv Box.cells 4,(s.facts).pv Fact.cells 9]
@[simp] theorem Problem.eta (s:Problem):(⟨s.boxes,s.facts⟩:Problem)=s:=rfl
def fC (s t:Span):Prop:=t.lo<=s.lo/\s.hi<=t.hi
def fD (a b:Box):Prop:=fC a.x b.x/\fC a.y b.y
def ja (b:Box):Prop:=b.x.lo<=b.x.hi/\b.y.lo<=b.y.hi
def aR (l m:List Box):Prop:=l.length=m.length/\∀ i (h:i < l.length) (h':i < m.length),fD l[i] m[i]
def Wf (l:List Box):Prop:=∀ b∈l,ja b
theorem zjM (b:Box):fD b b:=⟨⟨Int.le_refl _,Int.le_refl _⟩,⟨Int.le_refl _,Int.le_refl _⟩⟩
theorem ziN {a b c:Box} (h:fD a b) (h':fD b c):fD a c:=by unfold fD fC at *;omega
theorem zjv {a b:Box} (h:fD a b) (h':fD b a):a=b:=by
 obtain ⟨⟨a1,a2⟩,a3,a4⟩:=a;obtain ⟨⟨b1,b2⟩,b3,b4⟩:=b;unfold fD fC at *;simp only [Box.mk.injEq,Span.mk.injEq] at *;omega
theorem aR.refl (l:List Box):aR l l:=⟨rfl,fun i h h'=>zjM _⟩
theorem aR.trans {l m k:List Box} (h:aR l m) (h':aR m k):aR l k:=⟨h.1.trans h'.1,fun i a b=>ziN (h.2 i a (by rw [<- h.1];exact a)) (h'.2 i _ b)⟩
theorem aR.antisymm {l m:List Box} (h:aR l m) (h':aR m l):l=m :=
 List.ext_getElem h.1 fun i a b=>zjv (h.2 i a b) (h'.2 i b a)
theorem aR.set {l m:List Box} (h:aR l m) {i:Nat} {a b:Box} (DC:fD a b):aR (l.set i a) (m.set i b) :=
 ⟨by simp [h.1],fun j h1 h2=>by
  rw [List.getElem_set,List.getElem_set]
  split
  .exact DC
  .exact h.2 j (by simpa using h1) (by simpa using h2)⟩
theorem Wf.set {l:List Box} (h:Wf l) {i:Nat} {a:Box} (ha:ja a):Wf (l.set i a):=fun b hb=>by
 rcases List.mem_or_eq_of_mem_set hb with h1|rfl
 .exact h b h1
 .exact ha
def qw (b:Box) (k:Nat):Box:=match k with
 | 0=>⟨⟨b.x.lo,b.x.lo⟩,b.y⟩
 | 1=>⟨⟨b.x.hi,b.x.hi⟩,b.y⟩
 | 2=>⟨b.x,⟨b.y.lo,b.y.lo⟩⟩
 | _=>⟨b.x,⟨b.y.hi,b.y.hi⟩⟩
def jK (b:Box) (k:Nat):Box:=match k with
 | 0=>⟨⟨b.x.lo+1,b.x.hi⟩,b.y⟩
 | 1=>⟨⟨b.x.lo,b.x.hi - 1⟩,b.y⟩
 | 2=>⟨b.x,⟨b.y.lo+1,b.y.hi⟩⟩
 | _=>⟨b.x,⟨b.y.lo,b.y.hi - 1⟩⟩
def mI (b:Box) (k:Nat):Prop:=if k < 2 then b.x.lo=b.x.hi else b.y.lo=b.y.hi
instance (b:Box) (k:Nat):Decidable (mI b k):=by unfold mI;infer_instance
theorem Sv {b:Box} (h:ja b) (k:Nat):ja (qw b k):=by
 unfold ja qw at *
 split<;>(simp only;omega)
theorem zkq {b:Box} (h:ja b) (k:Nat):fD (qw b k) b:=by
 unfold ja qw fD fC at *
 split<;>(simp only;omega)
theorem zuI {b:Box} (h:ja b) {k:Nat} (hk:k < 4) (ht:¬ mI b k):ja (jK b k):=by
 unfold ja jK mI at *;have:k=0\/k=1\/k=2\/k=3:=by omega
 rcases this with rfl|rfl|rfl|rfl<;>simp at *<;>omega
theorem zs3 (b:Box) (k:Nat):fD (jK b k) b:=by
 unfold jK fD fC
 split<;>(simp only;omega)
theorem zlt {a b:Box} (h:fD a b) (ha:ja a) {k:Nat} (hk:k < 4):fD a (jK b k)\/fD (qw a k) (qw b k):=by
 unfold fD fC jK qw ja at *;have:k=0\/k=1\/k=2\/k=3:=by omega
 rcases this with rfl|rfl|rfl|rfl<;>simp only<;>omega
theorem zoo {a b:Box} (h:fD a b) (ha:ja a) {k:Nat} (hk:k < 4) (ht:mI b k):fD (qw a k) (qw b k):=by
 unfold fD fC qw ja mI at *;have:k=0\/k=1\/k=2\/k=3:=by omega
 rcases this with rfl|rfl|rfl|rfl<;>simp at *<;>omega
section
variable {F:Type} {fails:F->List Box->Prop} {facts:List F} {boxes:List Box}
def yZ (fails:F->List Box->Prop) (facts:List F) (n:Nat):Prop:=∀ f∈facts,∀ l m,m.length=n->Wf m->aR l m->Wf l->fails f m->fails f l
def jP (l:List Box) (i k:Nat):List Box:=match l[i]? with
 | some b=>l.set i (qw b k)
 | none=>l
def rA (l:List Box) (i k:Nat):List Box:=match l[i]? with
 | some b=>l.set i (jK b k)
 | none=>l
theorem CX {l:List Box} {i:Nat} (h:i < l.length) (k:Nat):jP l i k=l.set i (qw l[i] k):=by simp [jP,h]
theorem I7 {l:List Box} {i:Nat} (h:i < l.length) (k:Nat):rA l i k=l.set i (jK l[i] k):=by simp [rA,h]
def Stable (fails:F->List Box->Prop) (facts:List F) (l:List Box):Prop:=∀ i,i < l.length->∀ k,k < 4->∀ f∈facts,¬ fails f (jP l i k)
structure Holds' (fails:F->List Box->Prop) (facts:List F) (boxes l:List Box):Prop where
 wf:Wf l
 sub:aR l boxes
 all:∀ m,Wf m->aR m boxes->Stable fails facts m->aR m l
def bM (fails:F->List Box->Prop) (facts:List F) (boxes:List Box):Option (List Box)->Prop
 | some l=>Holds' fails facts boxes l/\Stable fails facts l
 | none=>∀ m,Wf m->aR m boxes->¬ Stable fails facts m
theorem bM.unique {r s:Option (List Box)} (h:bM fails facts boxes r) (h':bM fails facts boxes s):r=s:=by
 cases r with
 | none=>cases s with
  | none=>rfl
  | some m=>exact absurd h'.2 (h m h'.1.wf h'.1.sub)
 | some l=>cases s with
  | none=>exact absurd h.2 (h' l h.1.wf h.1.sub)
  | some m=>rw [(h'.1.all l h.1.wf h.1.sub h.2).antisymm (h.1.all m h'.1.wf h'.1.sub h'.2)]
theorem Holds'.init (h:Wf boxes):Holds' fails facts boxes boxes:=⟨h,aR.refl _,fun m _ hs _=>hs⟩
theorem Holds'.cut {l:List Box} (ha:yZ fails facts boxes.length) (h:Holds' fails facts boxes l) {i k:Nat} (hi:i < l.length) (hk:k < 4) {f:F} (hf:f∈facts) (hb:fails f (jP l i k)) (ht:¬ mI l[i] k) :
  Holds' fails facts boxes (rA l i k):=by
 have hw:=h.wf _ (List.getElem_mem hi);rw [I7 hi]
 refine ⟨h.wf.set (zuI hw hk ht),⟨by simp [h.sub.1],fun j h1 h2=>?_⟩,fun m hm hs bu=>?_⟩
 .rw [List.getElem_set]
  split
  .rename_i e;subst e;exact ziN (zs3 _ _) (h.sub.2 i hi h2)
  .exact h.sub.2 j (by simpa using h1) h2
 .have wH:=h.all m hm hs bu;have CY:i < m.length:=by rw [wH.1];exact hi
  refine ⟨by simp [wH.1],fun j h1 h2=>?_⟩
  rw [List.getElem_set]
  split
  .rename_i e;subst e;rcases zlt (wH.2 i CY hi) (hm _ (List.getElem_mem CY)) hk with h3|h3
   .exact h3
   .exfalso;have h4:=bu i CY k hk f hf;rw [CX CY] at h4;rw [CX hi] at hb;exact h4 (ha f hf _ _ (by simp [h.sub.1]) (h.wf.set (Sv hw k)) (wH.set h3) (hm.set (Sv (hm _ (List.getElem_mem CY)) k)) hb)
  .exact wH.2 j h1 (by simpa using h2)
theorem Holds'.empty {l:List Box} (ha:yZ fails facts boxes.length) (h:Holds' fails facts boxes l) {i k:Nat} (hi:i < l.length) (hk:k < 4) {f:F} (hf:f∈facts) (hb:fails f (jP l i k)) (ht:mI l[i] k) :
  bM fails facts boxes none:=by
 intro m hm hs bu;have hw:=h.wf _ (List.getElem_mem hi);have wH:=h.all m hm hs bu;have CY:i < m.length:=by rw [wH.1];exact hi
 have h4:=bu i CY k hk f hf;rw [CX CY] at h4;rw [CX hi] at hb;exact h4 (ha f hf _ _ (by simp [h.sub.1]) (h.wf.set (Sv hw k)) (wH.set (zoo (wH.2 i CY hi) (hm _ (List.getElem_mem CY)) hk ht)) (hm.set (Sv (hm _ (List.getElem_mem CY)) k)) hb)
theorem Holds'.fail {l:List Box} (ha:yZ fails facts boxes.length) (h:Holds' fails facts boxes l) (h0:0 < l.length) {f:F} (hf:f∈facts) (hb:fails f l):bM fails facts boxes none:=by
 intro m hm hs bu;have wH:=h.all m hm hs bu;have CY:0 < m.length:=by rw [wH.1];exact h0
 refine bu 0 CY 0 (by decide) f hf ?_
 rw [CX CY];have nU:aR (m.set 0 (qw m[0] 0)) l:=by
  refine aR.trans ⟨by simp,fun j h1 h2=>?_⟩ wH
  rw [List.getElem_set]
  split
  .rename_i e;subst e;exact zkq (hm _ (List.getElem_mem CY)) 0
  .exact zjM _
 exact ha f hf _ _ h.sub.1 h.wf nU (hm.set (Sv (hm _ (List.getElem_mem CY)) 0)) hb
def Sz (b:Box):Nat:=(b.x.hi - b.x.lo).toNat+(b.y.hi - b.y.lo).toNat
def ui (l:List Box):Nat:=(l.map Sz).sum
theorem zqU {b:Box} (h:ja b) {k:Nat} (hk:k < 4) (ht:¬ mI b k):Sz (jK b k) < Sz b:=by
 unfold ja jK mI Sz at *;have:k=0\/k=1\/k=2\/k=3:=by omega
 rcases this with rfl|rfl|rfl|rfl<;>simp at *<;>omega
theorem zpd:∀ (l:List Nat) (i a:Nat) (h:i < l.length),a < l[i]->(l.set i a).sum < l.sum
 | b::l,0,a,_,ha=>by simp at ha ⊢;omega
 | b::l,i+1,a,h,ha=>by
  have:=zpd l i a (by simpa using h) (by simpa using ha);simp;omega
theorem Yq {l:List Box} (hw:Wf l) {i k:Nat} (hi:i < l.length) (hk:k < 4) (ht:¬ mI l[i] k):ui (rA l i k) < ui l:=by
 rw [I7 hi];unfold ui;rw [List.map_set];exact zpd _ i _ (by simpa using hi) (by simpa using zqU (hw _ (List.getElem_mem hi)) hk ht)
theorem ztk (ha:yZ fails facts boxes.length):∀ (N:Nat) (l:List Box),ui l<=N->Holds' fails facts boxes l->∃ r,bM fails facts boxes r:=by
 intro N
 induction N with
 | zero =>
  intro l hN h
  by_cases hs:Stable fails facts l
  .exact ⟨some l,h,hs⟩
  .have:∃ i,∃ hi:i < l.length,∃ k,k < 4/\∃ f∈facts,fails f (jP l i k):=by
    refine Classical.byContradiction fun hc=>hs fun i hi k hk f hf hb=>hc ⟨i,hi,k,hk,f,hf,hb⟩
   obtain ⟨i,hi,k,hk,f,hf,hb⟩:=this
   by_cases ht:mI l[i] k
   .exact ⟨none,h.empty ha hi hk hf hb ht⟩
   .have:=Yq h.wf hi hk ht;omega
 | succ N ih =>
  intro l hN h
  by_cases hs:Stable fails facts l
  .exact ⟨some l,h,hs⟩
  .have:∃ i,∃ hi:i < l.length,∃ k,k < 4/\∃ f∈facts,fails f (jP l i k):=by
    refine Classical.byContradiction fun hc=>hs fun i hi k hk f hf hb=>hc ⟨i,hi,k,hk,f,hf,hb⟩
   obtain ⟨i,hi,k,hk,f,hf,hb⟩:=this
   by_cases ht:mI l[i] k
   .exact ⟨none,h.empty ha hi hk hf hb ht⟩
   .have:=Yq h.wf hi hk ht;exact ih _ (by omega) (h.cut ha hi hk hf hb ht)
theorem Yr (ha:yZ fails facts boxes.length) (hw:Wf boxes):∃ r,bM fails facts boxes r:=ztk ha _ boxes (Nat.le_refl _) (Holds'.init hw)
theorem Holds'.stop {l:List Box} (h:Holds' fails facts boxes l) (hs:Stable fails facts l) {r:Option (List Box)} (hr:bM fails facts boxes r):r=some l:=hr.unique (s:=some l) ⟨h,hs⟩
end
structure Node where
 fact:Int
 point:Int
 nY:Int
 at_:Int
 deriving Inhabited
@[simp] def Node.cells (s:Node):List PV:=[.int .i64 s.fact,.int .i64 s.point,.int .i64 s.nY,.int .i64 s.at_]
@[simp] theorem Node.eta (s:Node):(⟨s.fact,s.point,s.nY,s.at_⟩:Node)=s:=rfl
def bA (b:Box) (ax:Nat):Span:=if ax=0 then b.x else b.y
def mr (b:Box) (ax:Nat) (s:Span):Box:=if ax=0 then ⟨s,b.y⟩ else ⟨b.x,s⟩
def pU (b:Box) (ax:Nat) (t:Int):Box:=mr b ax ⟨(bA b ax).lo,t⟩
def CZ (b:Box) (ax:Nat) (t:Int):Box:=mr b ax ⟨t+1,(bA b ax).hi⟩
def fM (l:List Box) (i ax:Nat) (t:Int):List Box:=match l[i]? with
 | some b=>l.set i (pU b ax t)
 | none=>l
def pV (l:List Box) (i ax:Nat) (t:Int):List Box:=match l[i]? with
 | some b=>l.set i (CZ b ax t)
 | none=>l
theorem He {l:List Box} {i:Nat} (h:i < l.length) (ax:Nat) (t:Int):fM l i ax t=l.set i (pU l[i] ax t):=by simp [fM,h]
theorem Hf {l:List Box} {i:Nat} (h:i < l.length) (ax:Nat) (t:Int):pV l i ax t=l.set i (CZ l[i] ax t):=by simp [pV,h]
structure jE (l:List Box) (i ax:Nat) (t:Int):Prop where
 il:i < l.length
 al:ax < 2
 lo:(bA (l[i]'il) ax).lo<=t
 hi:t < (bA (l[i]'il) ax).hi
def F9 (b:Box):Nat:=(b.x.hi - b.x.lo).toNat+(b.y.hi - b.y.lo).toNat
def iU (l:List Box):Nat:=(l.map F9).sum
theorem zmN:∀ {l:List Nat} {i a:Nat} (h:i < l.length),(l.set i a).sum+l[i]=l.sum+a
 | [],i,a,h=>by simp at h
 | x::l,0,a,h=>by simp;omega
 | x::l,i+1,a,h=>by
  have:=zmN (l:=l) (i:=i) (a:=a) (by simpa using h);simp only [List.set_cons_succ,List.sum_cons,List.getElem_cons_succ];omega
theorem zm9 {l:List Box} {i:Nat} (h:i < l.length) (b:Box):iU (l.set i b)+F9 l[i]=iU l+F9 b:=by
 unfold iU;have:=zmN (l:=l.map F9) (i:=i) (a:=F9 b) (by simpa using h);rw [List.map_set]
 simpa using this
theorem U4 {l:List Box} {i ax:Nat} {t:Int} (h:jE l i ax t):iU (fM l i ax t) < iU l:=by
 have aT:=h.il;rw [He aT];have h1:=zm9 aT (pU l[i] ax t);have h2:=h.lo;have h3:=h.hi;have h4:=h.al;unfold F9 pU mr bA at *
 by_cases e:ax=0
 .simp only [e,if_true] at *;omega
 .simp only [e,if_false] at *;omega
theorem U5 {l:List Box} {i ax:Nat} {t:Int} (h:jE l i ax t):iU (pV l i ax t) < iU l:=by
 have aT:=h.il;rw [Hf aT];have h1:=zm9 aT (CZ l[i] ax t);have h2:=h.lo;have h3:=h.hi;have h4:=h.al;unfold F9 CZ mr bA at *
 by_cases e:ax=0
 .simp only [e,if_true] at *;omega
 .simp only [e,if_false] at *;omega
inductive rC (bad:Int->List Box->Prop):List Box->List Node->Prop
 | leaf (l:List Box) (f:Int) (h:bad f l):rC bad l [⟨f,0,0,0⟩]
 | node (l:List Box) (i ax:Nat) (t:Int) (ta tb:List Node) (h:jE l i ax t) (ha:rC bad (fM l i ax t) ta) (hb:rC bad (pV l i ax t) tb):rC bad l (⟨-1,i,ax,t⟩::(ta++tb))
def LD (oI:List Box->Int) (ch:List Box->Option (Nat×Nat×Int)):Nat->List Box->List Node
 | 0,_=>[]
 | n+1,l=>if 0<=oI l then [⟨oI l,0,0,0⟩] else match ch l with
  | none=>[]
  | some c=>⟨-1,c.1,c.2.1,c.2.2⟩::(LD oI ch n (fM l c.1 c.2.1 c.2.2)++LD oI ch n (pV l c.1 c.2.1 c.2.2))
theorem zkN {oI:List Box->Int} {ch:List Box->Option (Nat×Nat×Int)} {bad:Int->List Box->Prop} (mD:∀ l,0<=oI l->bad (oI l) l) {SA:List Box->Nat->Prop} (h1:∀ l b,SA l b->1<=b)
  (hs:∀ l b,SA l b->oI l < 0->∃ i ax t,ch l=some (i,ax,t)/\jE l i ax t/\∃ ba bb,ba+bb<=b/\SA (fM l i ax t) ba/\SA (pV l i ax t) bb) :
  ∀ n l b,SA l b->iU l < n->rC bad l (LD oI ch n l)/\(LD oI ch n l).length+1<=2*b
 | 0,l,b,_,h=>by omega
 | n+1,l,b,hp,hm=>by
  unfold LD
  by_cases h0:0<=oI l
  .rw [if_pos h0];exact ⟨.leaf l _ (mD l h0),by have:=h1 l b hp;simp only [List.length_cons,List.length_nil];omega⟩
  .rw [if_neg h0];obtain ⟨i,ax,t,hc,SB,ba,bb,hb,hpa,U6⟩:=hs l b hp (by omega);rw [hc];have ma:=U4 SB;have mb:=U5 SB;obtain ⟨fa,la⟩:=zkN mD h1 hs n (fM l i ax t) ba hpa (by omega);obtain ⟨fb,lb⟩:=zkN mD h1 hs n (pV l i ax t) bb U6 (by omega)
   refine ⟨.node l i ax t _ _ SB fa fb,?_⟩
   simp only [List.length_cons,List.length_append];omega
def wI (b:Box):Nat:=(b.x.hi - b.x.lo+1).toNat*(b.y.hi - b.y.lo+1).toNat
def ig (l:List Box):List Nat->Nat
 | []=>1
 | i::r=>wI l[i]! * ig l r
theorem zgO {b:Box} (h:ja b):1<=wI b:=by
 unfold wI;unfold ja at h;exact Nat.mul_pos (by omega) (by omega)
theorem zje {l:List Box} (hw:Wf l):∀ {part:List Nat},(∀ i∈part,i < l.length)->1<=ig l part
 | [],_=>Nat.le_refl _
 | i::r,h=>by
  have hi:=h i List.mem_cons_self;have h1:=zgO (hw _ (List.getElem_mem hi));have h2:=zje hw (part:=r) fun j hj=>h j (List.mem_cons_of_mem _ hj);simp only [ig,getElem!_pos l i hi];exact Nat.mul_pos h1 h2
theorem zl6 {l:List Box} {i:Nat} {b:Box}:∀ {part:List Nat},i ∉ part->ig (l.set i b) part=ig l part
 | [],_=>rfl
 | j::r,h=>by
  have hj:i≠j:=fun e=>h (e ▸ List.mem_cons_self);simp only [ig,List.getElem!_eq_getElem?_getD,List.getElem?_set_ne hj];rw [zl6 fun hm=>h (List.mem_cons_of_mem _ hm)]
theorem ziJ {l:List Box} {i:Nat} (hi:i < l.length) {b1 b2:Box} (ha:wI b1+wI b2=wI l[i]):∀ {part:List Nat},part.Nodup->i∈part->ig (l.set i b1) part+ig (l.set i b2) part=ig l part
 | [],_,h=>by simp at h
 | j::r,hn,h=>by
  have jc:=List.nodup_cons.1 hn
  by_cases e:i=j
  .subst e;simp only [ig,zl6 jc.1];rw [getElem!_pos (l.set i b1) i (by simpa using hi),getElem!_pos (l.set i b2) i (by simpa using hi),getElem!_pos l i hi,List.getElem_set_self,List.getElem_set_self,<- Nat.add_mul,ha]
  .have hir:i∈r:=by
    rcases List.mem_cons.1 h with h|h
    .exact absurd h e
    .exact h
   have ih:=ziJ hi ha jc.2 hir;simp only [ig,List.getElem!_eq_getElem?_getD,List.getElem?_set_ne e];rw [<- Nat.mul_add,ih]
theorem zow {b:Box} {ax:Nat} {t:Int} (h1:(bA b ax).lo<=t) (h2:t < (bA b ax).hi):wI (pU b ax t)+wI (CZ b ax t)=wI b:=by
 unfold wI pU CZ mr bA at *
 by_cases e:ax=0
 .simp only [e,if_true] at *;rw [<- Nat.add_mul]
  congr 1
  omega
 .simp only [e,if_false] at *;rw [<- Nat.mul_add]
  congr 1
  omega
theorem Yt {b:Box} {ax:Nat} {t:Int} (hw:ja b) (h1:(bA b ax).lo<=t) (h2:t < (bA b ax).hi):ja (pU b ax t)/\ja (CZ b ax t)/\fD (pU b ax t) b/\fD (CZ b ax t) b:=by
 unfold ja pU CZ mr bA fD fC at *
 by_cases e:ax=0
 .simp only [e,if_true] at *;omega
 .simp only [e,if_false] at *;omega
theorem zr1 {l:List Box} {i ax:Nat} (hi:i < l.length) (ha:ax < 2):fM l i ax (bA l[i] ax).lo=jP l i (2*ax)/\pV l i ax (bA l[i] ax).lo=rA l i (2*ax):=by
 rw [He hi,Hf hi,CX hi,I7 hi];have:ax=0\/ax=1:=by omega
 rcases this with rfl|rfl<;>simp [pU,CZ,mr,bA,qw,jK]
theorem zqm {l:List Box} {i ax:Nat} (hi:i < l.length) (ha:ax < 2):fM l i ax ((bA l[i] ax).hi - 1)=rA l i (2*ax+1)/\pV l i ax ((bA l[i] ax).hi - 1)=jP l i (2*ax+1):=by
 rw [He hi,Hf hi,CX hi,I7 hi];have:ax=0\/ax=1:=by omega
 rcases this with rfl|rfl<;>simp [pU,CZ,mr,bA,qw,jK]
section
variable {F:Type} {fails:F->List Box->Prop} {facts:List F} {boxes:List Box}
def DZ (fails:F->List Box->Prop) (facts:List F) (l:List Box):Prop:=∃ f∈facts,fails f l
inductive pW (fails:F->List Box->Prop) (facts:List F) (boxes:List Box) (part:List Nat):Option (List Box)->List Box->Nat->Prop
 | bad (r:Option (List Box)) (l:List Box) (b:Nat) (h:DZ fails facts l) (hb:1<=b):pW fails facts boxes part r l b
 | out (N l:List Box) (b:Nat) (h:Holds' fails facts boxes l) (hb:iU l+ig N part<=b+iU N):pW fails facts boxes part (some N) l b
 | y8 (N l:List Box) (b:Nat) (h:aR l N) (hw:Wf l) (hb:ig l part<=b):pW fails facts boxes part (some N) l b
 | none (l:List Box) (b:Nat) (h:Holds' fails facts boxes l) (hb:iU l+1<=b):pW fails facts boxes part none l b
theorem zuo:∀ {l m:List Box},aR l m->iU l<=iU m:=by
 intro l
 induction l with
 | nil=>intro m h;simp [iU]
 | cons a l ih =>
  intro m h
  cases m with
  | nil=>have:=h.1;simp at this
  | cons b m =>
   have h0:=h.2 0 (by simp) (by simp);have hs:aR l m:=⟨by simpa using h.1,fun i h1 h2=>h.2 (i+1) (by simpa using h1) (by simpa using h2)⟩
   have:=ih hs;unfold fD fC at h0;simp only [List.getElem_cons_zero] at h0;have hm:F9 a<=F9 b:=by unfold F9;omega
   unfold iU at *;simp only [List.map_cons,List.sum_cons];omega
theorem zsb {l:List Box} {i k:Nat} (hi:i < l.length) (hk:k < 4) (ht:¬ mI l[i] k) (hw:ja l[i]):iU (rA l i k)+1=iU l:=by
 rw [I7 hi];have h1:=zm9 hi (jK l[i] k);have nE:k=0\/k=1\/k=2\/k=3:=by omega
 unfold F9 jK mI ja at *;rcases nE with rfl|rfl|rfl|rfl<;>simp at *<;>omega
def C8 (loose:List Box->Option (Nat×Nat)) (wide:List Box->Nat×Nat) (l:List Box):Option (Nat×Nat×Int):=match loose l with
 | some s=>some (s.1,s.2 / 2,if s.2 % 2=0 then (bA l[s.1]! (s.2 / 2)).lo else (bA l[s.1]! (s.2 / 2)).hi - 1)
 | none=>if (bA l[(wide l).1]! (wide l).2).lo=(bA l[(wide l).1]! (wide l).2).hi then none else
   some ((wide l).1,(wide l).2,(bA l[(wide l).1]! (wide l).2).lo+((bA l[(wide l).1]! (wide l).2).hi - (bA l[(wide l).1]! (wide l).2).lo) / 2)
structure y9 (fails:F->List Box->Prop) (facts:List F) (boxes:List Box) (part:List Nat) (loose:List Box->Option (Nat×Nat)) (wide:List Box->Nat×Nat):Prop where
 nodup:part.Nodup
 lt:∀ i∈part,i < boxes.length
 some:∀ l i k,l.length=boxes.length->Wf l->loose l=some (i,k)->i∈part/\k < 4/\∃ h:i < l.length,¬ mI l[i] k/\∃ f∈facts,fails f (jP l i k)
 none:∀ l,l.length=boxes.length->Wf l->loose l=none->¬ DZ fails facts l->Stable fails facts l
 wide:∀ l,l.length=boxes.length->Wf l->aR l boxes->¬ DZ fails facts l->(wide l).1∈part/\(wide l).2 < 2/\∃ h:(wide l).1 < l.length,(bA l[(wide l).1] (wide l).2).lo < (bA l[(wide l).1] (wide l).2).hi
variable {part:List Nat} {loose:List Box->Option (Nat×Nat)} {wide:List Box->Nat×Nat} {r:Option (List Box)}
theorem pW.pos {l:List Box} {b:Nat} (hr:bM fails facts boxes r) (aK:∀ i∈part,i < boxes.length) (h:pW fails facts boxes part r l b):1<=b:=by
 cases h with
 | bad _ _ _ _ hb=>exact hb
 | out N _ _ h hb =>
  have hs:aR N l:=h.all N hr.1.wf hr.1.sub hr.2;have h1:=zuo hs;have h2:=zje hr.1.wf (part:=part) fun i hi=>by rw [hr.1.sub.1];exact aK i hi
  omega
 | y8 N _ _ h hw hb =>
  have h2:=zje hw (part:=part) fun i hi=>by rw [h.1,hr.1.sub.1];exact aK i hi
  omega
 | none _ _ h hb=>omega
theorem zfZ {l:List Box} {i k:Nat} (hk:k < 4) (hi:i < l.length) (ht:¬ mI l[i] k) (hw:ja l[i]) {Q:List Box->Nat->Prop} {b:Nat} (h1:Q (jP l i k) 1) (h2:Q (rA l i k) b) :
  jE l i (k / 2) (if k % 2=0 then (bA l[i]! (k / 2)).lo else (bA l[i]! (k / 2)).hi - 1)/\∃ ba bb,ba+bb<=b+1/\Q (fM l i (k / 2) (if k % 2=0 then (bA l[i]! (k / 2)).lo else (bA l[i]! (k / 2)).hi - 1)) ba/\Q (pV l i (k / 2) (if k % 2=0 then (bA l[i]! (k / 2)).lo else (bA l[i]! (k / 2)).hi - 1)) bb:=by
 rw [getElem!_pos l i hi];have iG:(bA l[i] (k / 2)).lo < (bA l[i] (k / 2)).hi:=by
  unfold mI at ht;unfold ja at hw;unfold bA;have nE:k=0\/k=1\/k=2\/k=3:=by omega
  rcases nE with rfl|rfl|rfl|rfl<;>simp at *<;>omega
 by_cases e:k % 2=0
 .rw [if_pos e];obtain ⟨s1,s2⟩:=zr1 (l:=l) (i:=i) (ax:=k / 2) hi (by omega);rw [show 2*(k / 2)=k by omega] at s1 s2;exact ⟨⟨hi,by omega,Int.le_refl _,iG⟩,1,b,by omega,by rw [s1];exact h1,by rw [s2];exact h2⟩
 .rw [if_neg e];obtain ⟨s1,s2⟩:=zqm (l:=l) (i:=i) (ax:=k / 2) hi (by omega);rw [show 2*(k / 2)+1=k by omega] at s1 s2;exact ⟨⟨hi,by omega,by omega,by omega⟩,b,1,by omega,by rw [s1];exact h2,by rw [s2];exact h1⟩
theorem zsY {N l:List Box} {i ax:Nat} {t:Int} (hn:part.Nodup) (hs:aR l N) (hw:Wf l) (hp:jE l i ax t) (hi:i∈part):ig (fM l i ax t) part+ig (pV l i ax t) part=ig l part/\aR (fM l i ax t) N/\aR (pV l i ax t) N/\Wf (fM l i ax t)/\Wf (pV l i ax t):=by
 have aT:=hp.il;obtain ⟨w1,w2,s1,s2⟩:=Yt (hw _ (List.getElem_mem aT)) hp.lo hp.hi;rw [He aT,Hf aT];have g1:=(aR.refl l).set (i:=i) s1;have g2:=(aR.refl l).set (i:=i) s2;rw [List.set_getElem_self] at g1 g2;exact ⟨ziJ aT (zow hp.lo hp.hi) hn hi,g1.trans hs,g2.trans hs,hw.set w1,hw.set w2⟩
theorem zlZ {N l:List Box} {b:Nat} (hr:bM fails facts boxes (some N)) (ti:y9 fails facts boxes part loose wide) (hs:aR l N) (hw:Wf l) (hv:ig l part<=b) (hb:¬ DZ fails facts l) :
  ∃ i ax t,C8 loose wide l=some (i,ax,t)/\jE l i ax t/\∃ ba bb,ba+bb<=b/\pW fails facts boxes part (some N) (fM l i ax t) ba/\pW fails facts boxes part (some N) (pV l i ax t) bb:=by
 have hl:l.length=boxes.length:=hs.1.trans hr.1.sub.1;have fin:∀ i ax t,jE l i ax t->i∈part->∃ ba bb,ba+bb<=b/\pW fails facts boxes part (some N) (fM l i ax t) ba/\pW fails facts boxes part (some N) (pV l i ax t) bb:=fun i ax t hp hi=>by
  obtain ⟨h1,h2,h3,h4,h5⟩:=zsY ti.nodup hs hw hp hi;exact ⟨_,_,by omega,.y8 N _ _ h2 h4 (Nat.le_refl _),.y8 N _ _ h3 h5 (Nat.le_refl _)⟩
 cases iG:loose l with
 | some s =>
  obtain ⟨i,k⟩:=s;obtain ⟨hi,hk,aT,ht,_⟩:=ti.some l i k hl hw iG;have hp:=(zfZ hk aT ht (hw _ (List.getElem_mem aT)) (Q:=fun _ _=>True) (b:=0) trivial trivial).1;exact ⟨i,k / 2,_,by simp only [C8,iG],hp,fin _ _ _ hp hi⟩
 | none =>
  obtain ⟨hi,DD,aT,aK⟩:=ti.wide l hl hw (hs.trans hr.1.sub) hb;have hp:jE l (wide l).1 (wide l).2 ((bA l[(wide l).1]! (wide l).2).lo+((bA l[(wide l).1]! (wide l).2).hi - (bA l[(wide l).1]! (wide l).2).lo) / 2):=by
   rw [getElem!_pos l _ aT];exact ⟨aT,DD,by omega,by omega⟩
  refine ⟨(wide l).1,(wide l).2,_,?_,hp,fin _ _ _ hp hi⟩
  simp only [C8,iG];rw [if_neg];rw [getElem!_pos l _ aT];omega
theorem zsa {l:List Box} {b:Nat} (ha:yZ fails facts boxes.length) (hr:bM fails facts boxes r) (ti:y9 fails facts boxes part loose wide) (h:pW fails facts boxes part r l b) (hb:¬ DZ fails facts l) :
  ∃ i ax t,C8 loose wide l=some (i,ax,t)/\jE l i ax t/\∃ ba bb,ba+bb<=b/\pW fails facts boxes part r (fM l i ax t) ba/\pW fails facts boxes part r (pV l i ax t) bb:=by
 have mg:=h.pos hr ti.lt
 cases h with
 | bad _ _ _ h _=>exact absurd h hb
 | y8 N _ _ hs hw hv=>exact zlZ hr ti hs hw hv hb
 | out N _ _ hh hm =>
  cases iG:loose l with
  | some s =>
   obtain ⟨i,k⟩:=s;obtain ⟨hi,hk,aT,ht,f,hf,qd⟩:=ti.some l i k hh.sub.1 hh.wf iG;have hw:=hh.wf _ (List.getElem_mem aT);have J9:=zsb aT hk ht hw;obtain ⟨hp,ba,bb,h1,h2,h3⟩:=zfZ hk aT ht hw (Q:=pW fails facts boxes part (some N)) (b:=b - 1) (.bad _ _ _ ⟨f,hf,qd⟩ (Nat.le_refl _)) (.out N _ _ (hh.cut ha aT hk hf qd ht) (by omega));exact ⟨i,k / 2,_,by simp only [C8,iG],hp,ba,bb,by omega,h2,h3⟩
  | none =>
   have bu:=ti.none l hh.sub.1 hh.wf iG hb;have e:=bM.unique (r:=some l) (s:=some N) ⟨hh,bu⟩ hr;simp only [Option.some.injEq] at e;subst e;exact zlZ hr ti (aR.refl _) hh.wf (by omega) hb
 | none _ _ hh hm =>
  cases iG:loose l with
  | some s =>
   obtain ⟨i,k⟩:=s;obtain ⟨hi,hk,aT,ht,f,hf,qd⟩:=ti.some l i k hh.sub.1 hh.wf iG;have hw:=hh.wf _ (List.getElem_mem aT);have J9:=zsb aT hk ht hw;obtain ⟨hp,ba,bb,h1,h2,h3⟩:=zfZ hk aT ht hw (Q:=pW fails facts boxes part none) (b:=b - 1) (.bad _ _ _ ⟨f,hf,qd⟩ (Nat.le_refl _)) (.none _ _ (hh.cut ha aT hk hf qd ht) (by omega));exact ⟨i,k / 2,_,by simp only [C8,iG],hp,ba,bb,by omega,h2,h3⟩
  | none=>exact absurd (ti.none l hh.sub.1 hh.wf iG hb) (hr l hh.wf hh.sub)
def Gf (r:Option (List Box)) (part:List Nat):Nat:=match r with
 | some N=>ig N part
 | none=>1
theorem zrP {oI:List Box->Int} {U7:Int->List Box->Prop} (U8:∀ l,0<=oI l->U7 (oI l) l) (U9:∀ l,oI l < 0->¬ DZ fails facts l) (ha:yZ fails facts boxes.length) (hw:Wf boxes) (hr:bM fails facts boxes r) (ti:y9 fails facts boxes part loose wide) (n:Nat) (hn:iU boxes < n) :
  rC U7 boxes (LD oI (C8 loose wide) n boxes)/\(LD oI (C8 loose wide) n boxes).length+1<=2*(iU boxes+Gf r part):=by
 refine zkN (SA:=pW fails facts boxes part r) U8 (fun l b h=>h.pos hr ti.lt) (fun l b h hb=>zsa ha hr ti h (U9 l hb)) n boxes _ ?_ hn
 cases r with
 | some N=>exact .out N _ _ (.init hw) (by simp only [Gf];omega)
 | none=>exact .none _ _ (.init hw) (by simp only [Gf];omega)
end
end Go.Proofs.YtmmhnfghklppiaaGreat.Vm
