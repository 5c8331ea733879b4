/- The library's sort of numbers, as the machine of values runs it, by its contract. Contracts of functions of Go's library for the machine of values: slices.Sort, Clone, Delete, Compact, IndexFunc. Appending in a chain: onto an empty literal, and rows of more than one. Maps: what single operations come to; sets of numbers, and tables from numbers. Problems, as data. -/
import Derived.Test.YtleggocccaeemaaOk7
import Derived.Sort.Grow
import Derived.Sort.Row
import Derived.CallsIn
import Derived.Test.YtleggocccaeemaaOk8
namespace Go.Proofs.Ytleggocccaeemaa.Vm
open Go Go.RowKit
set_option linter.unusedVariables false
def ins (a:Int):List Int->List Int
 | []=>[a]
 | b::l=>if a<=b then a::b::l else b::ins a l
def zbT:List Int->List Int
 | []=>[]
 | a::l=>ins a (zbT l)
theorem zgH (a:Int):∀ l:List Int,(ins a l).Perm (a::l)
 | []=>List.Perm.refl _
 | b::l=>by
  unfold ins
  split
  ·exact List.Perm.refl _
  ·exact ((zgH a l).cons b).trans (List.Perm.swap a b l)
theorem zeI:∀ l:List Int,(zbT l).Perm l
 | []=>List.Perm.refl _
 | a::l=>(zgH a (zbT l)).trans ((zeI l).cons a)
theorem zha (a:Int):∀ {l:List Int},l.Pairwise (·<=·)->(ins a l).Pairwise (·<=·)
 | [],_=>by simp [ins]
 | b::l,h=>by
  have h1:=List.pairwise_cons.1 h;unfold ins
  split
  ·rename_i hab
   refine List.pairwise_cons.2 ⟨fun x hx=>?_,h⟩
   rcases List.mem_cons.1 hx with rfl|hx
   ·exact hab
   ·exact Int.le_trans hab (h1.1 x hx)
  ·rename_i hab
   refine List.pairwise_cons.2 ⟨fun x hx=>?_,zha a h1.2⟩
   rcases List.mem_cons.1 ((zgH a l).mem_iff.1 hx) with rfl|hx
   ·omega
   ·exact h1.1 x hx
theorem zfd:∀ l:List Int,(zbT l).Pairwise (·<=·)
 | []=>List.Pairwise.nil
 | a::l=>zha a (zfd l)
theorem zeW (l:List Int):(zbT l).length=l.length:=(zeI l).length_eq
theorem zf4 (l:List Int):(l.mergeSort fun x y=>decide (x<=y))=zbT l:=by
 have h1:(l.mergeSort fun x y=>decide (x<=y)).Pairwise (fun a b=>decide (a<=b)=true):=List.pairwise_mergeSort (fun a b c h h'=>by simp at *;omega) (fun a b=>by simp;omega) l
 refine List.Perm.eq_of_pairwise (le:=fun a b=>a<=b) (fun a b _ _ h h'=>Int.le_antisymm h h') (h1.imp fun h=>by simpa using h) (zfd l) ((List.mergeSort_perm l _).trans (zeI l).symm)
def zg5:List AV->Option (List Int)
 | []=>some []
 | .pure (.int .i64 z)::l=>(zg5 l).map (z :: ·)
 | _=>none
theorem zib:∀ {l:List AV} {zs:List Int},zg5 l=some zs->l=zs.map fun z=>.pure (.int .i64 z)
 | [],zs,h=>by simp [zg5] at h;subst h;rfl
 | c::l,zs,h=>by
  unfold zg5 at h
  split at h
  ·rename_i h0;cases h0
  ·rename_i z l' h0;simp only [List.cons.injEq] at h0;obtain ⟨rfl,rfl⟩:=h0;rw [Option.map_eq_some_iff] at h;obtain ⟨ys,hy,rfl⟩:=h;rw [zib hy];rfl
  ·simp at h
def ziO (args:List AV) (H:Heap):Option (AV×Heap) :=
 match args with
 | [.row id 1 off n]=>match H.get id with
  | .cells true cs=>if off+n<=cs.length/\n<=zn then match zg5 ((cs.drop off).take n) with
    | some zs=>some (.tup [],H.set id (.cells true (cs.take off++(zbT zs).map (fun z=>AV.pure (.int .i64 z))++cs.drop (off+n))))
    | none=>none else none
  | _=>none
 | _=>none
theorem zkn {C:Comp} {P:Program} {f:Nat} (hf:FnOk P f)
  (hc:∀ (blk off cap:Nat) (zs:List Int) (w:World),Sort.Holds (Value.int .i64) w blk off zs.toArray->blk < w.heap.size->zs.length < 4611686018427387904 ->
   Calls P f #[.slice (some ⟨blk,off,none⟩) zs.length cap] w fun e w'=>e=.returned (.tuple #[])/\∃ n os,w'=Sort.grow (Sort.putRow (Value.int .i64) (Sort.ahead w n) blk off (zs.mergeSort fun x y=>decide (x<=y)).toArray) os)
  {args:List AV} {H H':Heap} {r:AV} (h:ziO args H=some (r,H')):zjZ C P f args H r H':=by
 refine ⟨hf,fun k S base φ w vals hH hv=>?_⟩
 unfold ziO at h
 split at h
 ·rename_i id off n
  split at h
  ·rename_i cs hg
   split at h
   ·rename_i hcond
    split at h
    ·rename_i zs hz;simp only [Option.some.injEq,Prod.mk.injEq] at h;obtain ⟨rfl,rfl⟩:=h;obtain ⟨v,vs',rfl,h1,h2⟩:=hv.cons_inv;have:=h2.nil_inv;subst this;obtain ⟨b,m,cap,hid,rfl,hcap,hfull⟩:=h1.row_inv;have ho:=hH.obj _ _ _ hid;rw [hg] at ho;obtain ⟨c,e,fz,q1,q2,q3,q4,q5⟩:=ho;have hzs:=zib hz;have hzl:zs.length=n:=by
      have:((cs.drop off).take n).length=n:=by simp;omega
      rw [hzs] at this
      simpa using this
     have hcell:∀ j,j < zs.length->c[off+j]?=some (.int .i64 zs[j]!):=fun j hj=>by
      have ha:cs[off+j]?=some (.pure (.int .i64 zs[j]!)):=by
       have h3:((cs.drop off).take n)[j]?=some (.pure (.int .i64 zs[j]!)):=by
        rw [hzs,List.getElem?_map,List.getElem?_eq_getElem hj];simp [hj]
       rw [List.getElem?_take_of_lt (by omega),List.getElem?_drop] at h3;exact h3
      have hjs:off+j < c.size:=by omega
      have hcv:c[off+j]?=some c[off+j]:=Array.getElem?_eq_getElem hjs;have:=(q5 _ _ _ ha hcv).int_inv;rw [hcv,this]
     have hholds:Sort.Holds (Value.int .i64) w b off zs.toArray:=fun j hj=>by
      have hj':j < zs.length:=by simpa using hj
      refine ⟨?_,?_⟩
      ·simp only [World.cell?,q1];rw [hcell j hj'];simp
      ·have hjs:off+j < c.size:=by omega
       simp only [World.frozen?,q1];have:=q4 (off+j) (by omega)
       simpa using this
     have hbs:b < w.heap.size:=(hH.lt _ _ _ hid).2;have hrun:=hc b off cap zs w hholds hbs (by rw [hzl];have:=hcond.2;simp only [zn] at this;omega);rw [hzl] at hrun;rw [Nat.mul_one]
     refine (callsIn_wide.2 hrun).mono ?_
     rintro e' w' ⟨rfl,n',os,rfl⟩;rw [zf4];have hput:(Sort.putRow (Value.int .i64) (Sort.ahead w n') b off (zbT zs).toArray).heap[b]?=some (.cells (Sort.putCells (Value.int .i64) off (zbT zs).toArray c) e fz):=by
      simp [Sort.putRow,Sort.mapBlock,Sort.ahead,Array.getElem?_modify,q1,Sort.onCells]
     have hw2:=hH.write (o:=.cells true (cs.take off++(zbT zs).map (fun z=>AV.pure (.int .i64 z))++cs.drop (off+n))) (w':=Sort.putRow (Value.int .i64) (Sort.ahead w n') b off (zbT zs).toArray) hid (by rw [hg];rfl) rfl rfl rfl (by simp [Sort.ahead]) (fun c' hc'=>by
       simp [Sort.putRow,Sort.mapBlock,Sort.ahead,Array.getElem?_modify,hc'.symm]) ⟨_,e,fz,hput,by simp [Sort.putCells,q2],by
       have:=zeW zs;simp only [List.length_append,List.length_take,List.length_map,List.length_drop];omega,q4,fun j a v ha hv=>?_⟩
     ·have hgrow:Below (Sort.putRow (Value.int .i64) (Sort.ahead w n') b off (zbT zs).toArray).heap.size (Sort.putRow (Value.int .i64) (Sort.ahead w n') b off (zbT zs).toArray) (Sort.grow (Sort.putRow (Value.int .i64) (Sort.ahead w n') b off (zbT zs).toArray) os):=by
       refine ⟨rfl,rfl,rfl,by simp [Sort.grow],fun c' hc'=>?_⟩
       simp only [Sort.grow];rw [Array.getElem?_append_left hc']
      exact ⟨_,φ,rfl,hw2.1.trans (Evo.of_below hgrow),hw2.2.below hgrow,.tup [] #[] rfl fun i p v h=>by simp at h⟩
     ·-- each cell
      have hjl:=(List.getElem?_eq_some_iff.1 ha).1;have hil:=zeW zs;simp only [List.length_append,List.length_take,List.length_map,List.length_drop] at hjl;have hjs:j < c.size:=by omega
      have hcj:c[j]?=some c[j]:=Array.getElem?_eq_getElem hjs;have hsame:∀ k b',Imm S base φ H w k b'->Imm S base φ H w k b'/\(Sort.putRow (Value.int .i64) (Sort.ahead w n') b off (zbT zs).toArray).heap[b']?=w.heap[b']?:=fun k b' hb'=>⟨hb',by
       have hne:b≠b':=fun e=>hb'.2.2 ⟨id,m,by rw [<- e];exact hid,by rw [hg];rfl⟩;simp [Sort.putRow,Sort.mapBlock,Sort.ahead,Array.getElem?_modify,hne]⟩
      simp only [Sort.putCells,Array.getElem?_mapIdx,hcj,Option.map_some,Option.some.injEq] at hv
      by_cases hin:off<=j/\j < off+n
      ·rw [if_pos ⟨hin.1,by simp [hil,hzl];exact hin.2⟩] at hv;have hlo:¬ j < (cs.take off).length:=by simp;omega
       rw [List.append_assoc,List.getElem?_append_right (by simp;omega)] at ha;have e1:j - (cs.take off).length=j - off:=by simp;omega
       rw [e1,List.getElem?_append_left (by simp;omega),List.getElem?_map,List.getElem?_eq_getElem (by omega)] at ha;simp only [Option.map_some,Option.some.injEq] at ha;subst ha;subst hv;have hlt:j - off < (zbT zs).length:=by omega
       have:((zbT zs).toArray[j - off]! : Int)=(zbT zs)[j - off]:=by simp [hlt]
       rw [this];exact .pure _ _ (.int _ _)
      ·rw [if_neg (by simp [hil,hzl];omega)] at hv;subst hv;have haj:cs[j]?=some a:=by
        by_cases hlo:j < off
        ·rw [List.append_assoc,List.getElem?_append_left (by simp;omega),List.getElem?_take_of_lt hlo] at ha;exact ha
        ·rw [List.getElem?_append_right (by simp;omega)] at ha;rw [List.getElem?_drop] at ha;have e2:off+n+(j - (cs.take off++(zbT zs).map (fun z=>AV.pure (.int .i64 z))).length)=j:=by simp;omega
         rw [e2] at ha;exact ha
       exact (q5 j a c[j] haj hcj).mono hsame (fun _ _ h=>h)
    ·simp at h
   ·simp at h
  ·simp at h
 ·simp at h
open Go
set_option linter.unusedSimpArgs false
set_option maxHeartbeats 4000000
def wpS (rs:List VRes) (k:AV->Heap->Prop) (x:VExit) (env:Env) (H:Heap):Prop:=(∀ i,x≠.exit i)/\∃ v,results env H rs=some v/\k v H
@[simp] theorem zrK {rs:List VRes} {k:AV->Heap->Prop} {env:Env} {H:Heap}:wpS rs k .ret env H↔∃ v,results env H rs=some v/\k v H:=by simp [wpS]
@[simp] theorem zqg {rs:List VRes} {k:AV->Heap->Prop} {env:Env} {H:Heap}:wpS rs k .normal env H↔∃ v,results env H rs=some v/\k v H:=by simp [wpS]
section
variable {G:Prog} {n:Nat} {H:Heap}
theorem zbg {f:Nat} {fn:VFunc} {args:List AV} {k:AV->Heap->Prop} (hr:G.extRun f args H=none) (hf:G.func f=some fn) (hl:args.length=fn.nargs)
  (h:wp (zq G n) fn.body (zb args) H (wpS fn.results k) .mk):∃ v H',Vm.call G (n+1) (.fn f) args H=some (v,H')/\k v H':=by
 obtain ⟨x,e,h',h1,h2,v,h3,h4⟩:=h
 refine ⟨v,h',?_,h4⟩
 rw [ziR,hr,hf];simp only [hl,if_true,h1]
 cases x with
 | exit i=>exact absurd rfl (h2 i)
 | normal=>simp only [h3]
 | ret=>simp only [h3]
theorem zoF {f:Nat} {caps:List PV} {args:List AV} {k:AV->Heap->Prop} {u} (hs:G.shared f=true) (h:∃ v H',Vm.call G (n+1) (.fn f) (args++caps.map .pure) H=some (v,H')/\k v H') :
  wpE 0 (zM (zq G (n+1)) H (.pure (.func f caps)) args) H k u:=by
 obtain ⟨v,H',h1,h2⟩:=h
 refine ⟨.upd v H',?_,by simp,h2⟩
 have hs':(zq G (n+1)).shared f=true:=hs;have h1':(zq G (n+1)).run f (args++caps.map .pure) H=some (v,H'):=h1;simp only [zM,hs',if_true,h1']
theorem zbA {f:Nat} {caps:List PV} {args:List AV} {ps:List PV} {r:PV} {pre:Nat} {k:AV->Heap->Prop} {u} (hs:G.shared f=false) (ha:FrzL H true zab (args++caps.map .pure) ps) (h:zI G n f ps=some r) (hc:r.cold=true)
  (hk:k (.pure r) H):wpE pre (zM (zq G n) H (.pure (.func f caps)) args) H k u:=by
 obtain ⟨ids,ha⟩:=ha
 refine ⟨.val (.pure r),?_,by simp [za0],hk⟩
 have hs':(zq G n).shared f=false:=hs;have h':(zq G n).pure f ps=some r:=h;simp only [zM,hs',Bool.false_eq_true,if_false,ha,h',hc,Bool.or_true,if_true]
end
section
variable {α:Type} {f:α->List PV} {sz:Nat} {H:Heap} {v:AV} {l:List α}
theorem zfx:zm f ([]:List α)=[]:=rfl
theorem zbF (a:α) (l:List α):zm f (a::l)=(f a).map .pure++zm f l:=by simp [zm]
theorem zhp (hf:∀ a,(f a).length=sz):∀ (l:List α) (i:Nat),(zm f l).take (i*sz)=zm f (l.take i)
 | [],i=>by simp [zm]
 | a::l,0=>by simp [zm]
 | a::l,i+1=>by
  have h3:(List.map AV.pure (f a)).length=sz:=by rw [List.length_map,hf]
  rw [List.take_succ_cons,zbF,zbF,Nat.add_mul,Nat.one_mul,Nat.add_comm,<- h3,List.take_length_add_append,h3,zhp hf l i]
theorem zho (hf:∀ a,(f a).length=sz):∀ (l:List α) (i:Nat),(zm f l).drop (i*sz)=zm f (l.drop i)
 | [],i=>by simp [zm]
 | a::l,0=>by simp [zm]
 | a::l,i+1=>by
  have h3:(List.map AV.pure (f a)).length=sz:=by rw [List.length_map,hf]
  rw [List.drop_succ_cons,zbF,Nat.add_mul,Nat.one_mul,Nat.add_comm,<- h3,List.drop_length_add_append,h3,zho hf l i]
theorem zdu (hone:∀ a,(f a).all PV.one=true) (l:List α):(zm f l).all AV.one=true:=by
 induction l with
 | nil=>rfl
 | cons a l ih=>rw [zbF,List.all_append,ih,zb9 _ (hone a)];rfl
theorem zdD (l:List α):zm f l=((l.map f).flatten).map .pure:=by simp [zm,List.map_flatten,Function.comp_def]
theorem zbU (hf:∀ a,(f a).length=sz) (s:Sl α):zJ H sz (.pure (s.pv f sz))=some (zm f s.xs,s.xs.length):=by
 rw [zhy hf,zdD]
theorem OwnV.slice (hf:∀ a,(f a).length=sz) (h:OwnV f sz H v l):zJ H sz v=some (zm f l,l.length):=by
 rcases h with ⟨rfl,rfl⟩|⟨id,rfl,hg⟩
 ·rfl
 ·rw [zgL,hg];have:=zar hf l;simp only [zeU];rw [if_pos (by omega),Nat.zero_mul,List.drop_zero,<- this,List.take_length]
def HeadV {α:Type} (f:α->List PV) (sz:Nat) (H:Heap) (v:AV) (l:List α):Prop:=∃ id rest,v=.row id sz 0 l.length/\H.get id=.cells true (zm f l++rest)
theorem HeadV.frz {k:Bool} {n:Nat} (hf:∀ a,(f a).length=sz) (h:HeadV f sz H v l):FrzK H k (n+2) v (.slice k sz (l.map f)):=by
 obtain ⟨id,rest,rfl,hg⟩:=h;have hlen:=zar hf l;have hch:∀ l:List α,chunks sz l.length ((l.map f).flatten)=l.map f:=by
  intro l
  induction l with
  | nil=>rfl
  | cons a l ih =>
   simp only [List.length_cons,chunks,List.map_cons,List.flatten_cons];rw [List.take_left' (hf a),List.drop_left' (hf a),ih]
 have hlen2:((l.map f).flatten).length=l.length*sz:=by
  rw [<- hlen,zdD,List.length_map]
 refine ⟨[id],?_⟩
 have h1:((zm f l++rest).drop (0*sz)).take (l.length*sz)=((l.map f).flatten).map .pure:=by
  rw [Nat.zero_mul,List.drop_zero,<- hlen,List.take_left',zdD];rfl
 have hids0:zK (freeze H k (n+1)) (((l.map f).flatten).map .pure)=some ((l.map f).flatten,[]):=by
  generalize (l.map f).flatten=q
  induction q with
  | nil=>rfl
  | cons p ps ih=>rw [List.map_cons,zK,ih];rfl
 unfold freeze;simp only [hg,h1,hids0,hlen2,if_true,hch]
theorem OwnV.head (h:OwnV f sz H v l):(l=[]/\v=.pure .nils)\/HeadV f sz H v l:=by
 rcases h with h|⟨id,h1,h2⟩
 ·exact .inl h
 ·exact .inr ⟨id,[],h1,by rw [List.append_nil];exact h2⟩
end
theorem zeB {α:Type} {f:α->List PV} {sz n:Nat} {H:Heap} {id m:Nat} {l:List α} (hf:∀ a,(f a).length=sz) (hg:H.get id=.cells true (zm f l)) (hl:l.length=m):∃ s:Sl α,s.xs=l/\FrzK H true (n+2) (.row id sz 0 m) (s.pv f sz):=by
 subst hl;exact ⟨.mk true l,rfl,HeadV.frz hf ⟨id,[],rfl,by rw [List.append_nil];exact hg⟩⟩
theorem zbz {α:Type} {f:α->List PV} {sz n:Nat} {H:Heap} {id m:Nat} {l:List α} (hf:∀ a,(f a).length=sz) (hg:H.get id=.cells true (zm f l)) (hl:l.length=m):FrzK H false (n+2) (.row id sz 0 m) ((Sl.mk false l).pv f sz):=by
 subst hl;exact HeadV.frz hf ⟨id,[],rfl,by rw [List.append_nil];exact hg⟩
def zn6 (sz bytes:Nat):VFunc:=⟨1,8,[(.tmp 2)],(.seq (.region none [⟨(some 2),(.mov (.const .nils)),none⟩]) (.seq (.seq (.region none [⟨(some 3),(.mov (.tmp 0)),none⟩,⟨(some 4),(.bin .eql .slice (.tmp 3) (.const .nils)),none⟩]) (.cond (.tmp 4) (.seq (.region none [⟨(some 2),(.mov (.const .nils)),none⟩]) .ret) .skip)) (.seq (.region none [⟨(some 5),(.buildSlice sz [] []),none⟩,⟨(some 6),(.mov (.tmp 0)),none⟩,⟨(some 7),(.append sz bytes (.tmp 5) (.tmp 6)),none⟩,⟨(some 2),(.mov (.tmp 7)),none⟩]) .ret)))⟩
theorem zey {v:AV} {b:Bool} (h:isNil .slice v=some b):vbin .eql .slice v (.pure .nils)=some (.pure (.bool b)):=by
 have h1:eqB .slice v (.pure .nils)=some b:=by
  have h0:isNil .slice (.pure .nils)=some true:=rfl
  cases b<;>simp only [eqB,h,h0]
 cases v with
 | pure p=>cases p<;>simp only [vbin,h1,Option.map_some]<;>simp [isNil] at h
 | _=>simp only [vbin,h1,Option.map_some]
section
variable {α:Type} {f:α->List PV} {sz:Nat} {H:Heap} {v:AV} {l:List α} {G:Prog} {n:Nat}
theorem zkN {g bytes:Nat} {b:Bool} {k:AV->Heap->Prop} (hx:∀ H,G.extRun g [v] H=none) (hg:G.func g=some (zn6 sz bytes)) (hv:zJ H sz v=some (zm f l,l.length)) (hn:isNil .slice v=some b) (hnl:b=true->l=[])
  (hf:∀ a,(f a).length=sz) (h0:0 < sz) (hone:∀ a,(f a).all PV.one=true) (hm:l.length*sz<=zn/\l.length*bytes<=zn)
  (hk:∀ v' H',OwnV f sz H' v' l->isNil .slice v'=some b->H.nx<=H'.nx->(∀ id,id < H.nx->H'.get id=H.get id)->(∀ id,Names v' id->H.nx<=id)->k v' H') :
  ∃ v' H',Vm.call G (n+1) (.fn g) [v] H=some (v',H')/\k v' H':=by
 refine zbg (hx H) hg rfl ?_
 simp only [zn6];have h1:=zey hn
 cases b with
 | true =>
  have hl:=hnl rfl;subst hl;have:=hk (.pure .nils) H OwnV.nil rfl (Nat.le_refl _) (fun _ _=>rfl) (fun id ⟨_,_,_,h⟩=>by simp at h);simp [zb,h1,this]
 | false =>
  simp only [znJ,zin,zi8,zfO,zp0,zfh,Option.getD_none,zgB,zg7,zlC,zka,zh9,zb,zp8,zl3];simp [h1];have hsame:zJ (H.alloc (.cells true [])) sz v=some (zm f l,l.length):=by
   cases v with
   | row id s o m =>
    simp only [zJ] at hv ⊢
    split at hv
    ·rename_i hs;rw [if_pos hs]
     split at hv
     ·rename_i cs hc;rw [zf (zC hc),hc];exact hv
     ·simp at hv
    ·simp at hv
   | pure p=>cases p<;>exact hv
   | _=>exact hv
  have ho:=zdu hone l;have hz:(if sz=0 then 0 else 0 / sz)=0:=by split<;>simp
  try rw [hz]
  have hi0:zb [v] 0=v:=rfl;rw [hi0];have hlen:=zar hf l
  cases l with
  | nil =>
   have hap:zi (H.alloc (.cells true [])) sz bytes (.row H.nx sz 0 0) v=some (.upd (.row H.nx sz 0 0) ((H.alloc (.cells true [])).set H.nx (.cells true []))):=by
    simp only [zi,hsame,ho,zaf];simp [zm]
   rw [hap];simp
   refine hk _ _ (.inr ⟨H.nx,rfl,?_⟩) rfl (by simp) (fun id hid=>?_) (fun id ⟨_,_,_,h⟩=>?_)
   ·rw [zP (by simp)];rfl
   ·rw [zg (by omega),zf hid]
   ·simp at h;omega
  | cons a l =>
   have hap:zi (H.alloc (.cells true [])) sz bytes (.row H.nx sz 0 0) v=some (.upd (.row (H.nx+1) sz 0 (a::l).length) (((H.alloc (.cells true [])).set H.nx .dead).alloc (.cells true (zm f (a::l))))):=by
    simp only [zi,hsame,ho,zaf];have hp:0 < (a::l).length*sz:=Nat.mul_pos (by simp) h0;simp only [Bool.not_true,Bool.false_eq_true,if_false,if_true,Nat.zero_mul,Nat.zero_add,List.length_nil];rw [if_neg (by omega)];simp only [true_and,zaj,List.nil_append];rw [if_pos hm]
   rw [hap];simp
   refine hk _ _ (.inr ⟨H.nx+1,by simp,?_⟩) rfl (by simp;omega) (fun id hid=>?_) (fun id ⟨_,_,_,h⟩=>?_)
   ·exact zf3 (by simp)
   ·rw [zf (by simp;omega),zg (by omega),zf hid]
   ·simp at h;omega
end
section
variable {H:Heap} {v:AV} {l:List Int} {G:Prog} {n:Nat}
end
section
variable {α:Type} {f:α->List PV} {sz:Nat} {G:Prog} {n:Nat}
end
section
variable {H:Heap} {v:AV} {l:List Int} {G:Prog} {n:Nat}
@[simp] theorem zgT {l:List Int} {i:Nat} {x:Int} (h:i < l.length):zbK (.cells true (zm intF l)) 1 i [.pure (.int .i64 x)]=some (.cells true (zm intF (l.set i x))):=by
 have hlen:∀ l:List Int,(zm intF l).length=l.length:=fun l=>by rw [zar (sz:=1) (fun _=>rfl)];omega
 simp only [zbK];rw [if_pos ⟨rfl,by simp,rfl,by rw [hlen];omega⟩];have h1:=zhp (f:=intF) (sz:=1) (fun _=>rfl) l i;have h2:=zho (f:=intF) (sz:=1) (fun _=>rfl) l (i+1);rw [Nat.mul_one] at h1 h2;rw [h1,h2,List.set_eq_take_append_cons_drop,if_pos h,zax,zbF,List.append_assoc];rfl
end
section
variable {G:Prog} {n:Nat} {H:Heap} {env:Env}
theorem zlx {id:Nat} {r:LoopR} {args:List AV} {k:AV->Heap->Prop} {u} (hg:H.get id=.loop r) (hs:r.state=.ready) (hl:args.length=r.params.length)
  (h:wp (zq G n) r.assign ((r.params.zip args).foldl (fun e x=>upd e x.1 x.2) r.env) H (fun x env2 H2=>x=.normal/\H2.get id=.loop r /\
   wp (zq G n) r.body env2 (H2.set id (.loop { r with state:=.busy })) (fun x _ H3=>x=.normal/\H3.get id=.loop { r with state:=.busy }/\k (.pure (.bool true)) (H3.set id (.loop { r with state:=.ready,pending:=.normal }))) .mk) .mk) :
  wpE 0 (zM (zq G (n+1)) H (.yield id) args) H k u:=by
 obtain ⟨x,env2,H2,h1,rfl,hg2,x3,e3,H3,h3,rfl,h4,h5⟩:=h
 refine ⟨.upd (.pure (.bool true)) (H3.set id (.loop { r with state:=.ready,pending:=.normal })),?_,by simp,h5⟩
 have hy:(zq G (n+1)).yield id args H=some (.pure (.bool true),H3.set id (.loop { r with state:=.ready,pending:=.normal })):=by
  show Vm.call G (n+1) (.yield id) args H=_;have e0:Vm.call G (n+1) (.yield id) args H=(match H.get id with
   | .loop r =>
    if args.length=r.params.length then
     match exec (zq G n) r.assign ((r.params.zip args).foldl (fun e x=>upd e x.1 x.2) r.env) H with
     | some (.normal,env2,H2)=>match H2.get id with
      | .loop r2=>match r2.state with
       | .ready=>match exec (zq G n) r.body env2 (H2.set id (.loop { r2 with state:=.busy })) with
        | some (x,_,H3)=>match H3.get id with
         | .loop r3=>match x with
          | .normal=>some (.pure (.bool true),H3.set id (.loop { r3 with state:=.ready,pending:=.normal }))
          | x=>some (.pure (.bool false),H3.set id (.loop { r3 with state:=.done,pending:=x }))
         | _=>none
        | none=>none
       | _=>none
      | _=>none
     | _=>none
    else none
   | _=>none):=rfl
  rw [e0,hg];simp only [hl,if_true,h1,hg,hg2,hs,h3,h4]
 simp only [zM,hy]
theorem ziC {f:Opnd} {params:List Nat} {assign body:VCode} {Q:VExit->Env->Heap->Prop} {g:Nat} {caps:List PV} {u} (hf:f.eval env=.pure (.func g caps))
  (h:∃ v H2,Vm.call G (n+1) (.fn g) (.yield H.nx::caps.map .pure) (H.alloc (.loop { env,params,assign,body,state:=.ready,pending:=.normal }))=some (v,H2) /\
   H2.get H.nx=.loop { env,params,assign,body,state:=.ready,pending:=.normal }/\Q .normal env (H2.set H.nx .dead)) :
  wp (zq G (n+1)) (.rangeFunc f params assign body) env H Q u:=by
 obtain ⟨v,H2,h1,h2,h3⟩:=h
 refine ⟨.normal,env,H2.set H.nx .dead,?_,h3⟩
 have h1':(zq G (n+1)).run g (.yield H.nx::caps.map .pure) (H.alloc (.loop { env,params,assign,body,state:=.ready,pending:=.normal }))=some (v,H2):=h1;simp only [exec,hf,h1',h2]
end
def zcA (H:Heap) (sz bytes:Nat) (a b:AV):Option Eff:=match zJ H sz b with
  | none=>none
  | some (new,m)=>if !new.all AV.one then none else match a with
   | .void id s=>if s=sz then (if m=0 then some (.val (.row id sz 0 0)) else
     if m*sz<=zn/\m*bytes<=zn then some (.new (.cells true new) fun id=>.row id sz 0 m) else none) else none
   | _=>none
@[simp] theorem zpz {cl:Callee} {env:Env} {H:Heap} (sz bytes:Nat) (a b:Opnd):step cl env H (.appendE sz bytes a b)=zcA H sz bytes (a.eval env) (b.eval env):=by simp only [step,zcA];rfl
section
variable {α:Type} {f:α->List PV} {sz:Nat} {H:Heap} {v:AV} {l:List α}
theorem zpB {bytes pre id:Nat} {b:AV} {k:AV->Heap->Prop} {u} (hb:zJ H sz b=some (zm f l,l.length)) (hid:H.get id=.cells true []) (hone:∀ a,(f a).all PV.one=true)
  (hm:l.length*sz<=zn/\l.length*bytes<=zn)
  (hk:∀ v' H',OwnV f sz H' v' l->H.nx<=H'.nx->(∀ i,i < H.nx->H'.get i=H.get i)->(∀ i,Names v' i->i=id\/H.nx<=i)->k v' H'):wpE pre (zcA H sz bytes (.void id sz) b) H k u:=by
 have ho:=zdu hone l;simp only [zcA,hb,ho];simp only [Bool.not_true,Bool.false_eq_true,if_false,if_true]
 by_cases h0:l.length=0
 ·have hl:l=[]:=List.eq_nil_of_length_eq_zero h0;subst hl;rw [if_pos (show ([]:List α).length=0 from rfl),zfh];exact hk _ _ (.inr ⟨id,rfl,by rw [hid];rfl⟩) (Nat.le_refl _) (fun _ _=>rfl) fun i ⟨_,_,_,h⟩=>by simp at h;exact .inl h.1.symm
 ·rw [if_neg h0,if_pos hm,zei]
  refine hk _ _ (.inr ⟨H.nx,rfl,zaf _⟩) (Nat.le_succ _) (fun i hi=>zf hi) fun i ⟨_,_,_,h⟩=>?_
  simp at h;exact .inr (by omega)
theorem zjY {bytes:Nat} {b:AV} {m:List α} {k:AV->Heap->Prop} {u} (hv:OwnV f sz H v l) (hf:∀ a,(f a).length=sz) (h0:0 < sz) (hone:∀ a,(f a).all PV.one=true)
  (hb:zJ H sz b=some (zm f m,m.length)) (hm:(l.length+m.length)*sz<=zn/\(l.length+m.length)*bytes<=zn)
  (hk:∀ v' H',OwnV f sz H' v' (l++m)->H.nx<=H'.nx->(∀ i,i < H.nx->¬ Names v i->H'.get i=H.get i)->(∀ i,Names v' i->Names v i\/H.nx<=i)->k v' H'):wpE 0 (zi H sz bytes v b) H k u:=by
 have ho:=zdu hone m;rcases hv with ⟨rfl,rfl⟩|⟨id,rfl,hid⟩
 ·simp only [List.length_nil,Nat.zero_add] at hm
  by_cases hm0:m.length=0
  ·have hl:m=[]:=List.eq_nil_of_length_eq_zero hm0;subst hl;have:zi H sz bytes (.pure .nils) b=some (.val (.pure .nils)):=by
    simp only [zi,hb,ho];simp
   rw [this,zfh];exact hk _ _ (.inl ⟨rfl,rfl⟩) (Nat.le_refl _) (fun _ _ _=>rfl) fun i h=>.inl h
  ·have:zi H sz bytes (.pure .nils) b=some (.new (.cells true (zm f m)) fun id=>.row id sz 0 m.length):=by
    simp only [zi,hb,ho];simp only [Bool.not_true,Bool.false_eq_true,if_false];rw [if_neg hm0,if_pos hm]
   rw [this,zei]
   refine hk _ _ (.inr ⟨H.nx,by simp,by rw [List.nil_append];exact zaf _⟩) (Nat.le_succ _) (fun i hi _=>zf hi) fun i ⟨_,_,_,h⟩=>.inr ?_
   simp at h;omega
 ·have hlen:=zar hf l
  by_cases hm0:m.length=0
  ·have hl:m=[]:=List.eq_nil_of_length_eq_zero hm0;subst hl;have:zi H sz bytes (.row id sz 0 l.length) b=some (.upd (.row id sz 0 l.length) (H.set id (.cells true (zm f l)))):=by
    simp only [zi,hb,ho,hid,zfx];simp only [Bool.not_true,Bool.false_eq_true,if_false,if_true,List.all_nil,List.length_nil,Nat.add_zero,Nat.zero_mul,Nat.zero_add,List.append_nil];rw [if_pos (by rw [hlen];exact Nat.le_refl _),List.take_of_length_le (by rw [hlen];exact Nat.le_refl _),List.drop_eq_nil_of_le (by rw [hlen];exact Nat.le_refl _),List.append_nil]
   rw [this,zeZ]
   refine hk _ _ (.inr ⟨id,by simp,?_⟩) (Nat.le_refl _) (fun i hi hn=>zg fun e=>hn (by subst e;exact ⟨_,_,_,rfl⟩)) fun i h=>?_
   ·rw [zaS (zC hid),List.append_nil]
   ·obtain ⟨_,_,_,h⟩:=h;simp at h;exact .inl ⟨_,_,_,by rw [h.1]⟩
  ·have hnot:¬ (0*sz+(l.length+m.length)*sz<=(zm f l).length):=by
    rw [hlen,Nat.add_mul];have:=Nat.mul_pos (Nat.pos_of_ne_zero hm0) h0;omega
   have:zi H sz bytes (.row id sz 0 l.length) b=some (.upd (.row H.nx sz 0 (l.length+m.length)) ((H.set id .dead).alloc (.cells true (zm f l++zm f m)))):=by
    simp only [zi,hb,ho,hid];simp only [Bool.not_true,Bool.false_eq_true,if_false,if_true];rw [if_neg hnot];simp only [true_and];rw [if_pos ⟨hlen.symm,hm⟩]
   rw [this,zeZ]
   refine hk _ _ (.inr ⟨H.nx,by simp,?_⟩) (Nat.le_succ _) (fun i hi hn=>?_) fun i ⟨_,_,_,h⟩=>.inr ?_
   ·have:(H.set id .dead).nx=H.nx:=rfl;rw [<- this,zaf,zax]
   ·rw [zf (by exact hi),zg];intro e;subst e;exact hn ⟨_,_,_,rfl⟩
   ·simp at h;omega
end
section
variable {cl:Callee} {env:Env} {H:Heap}
@[simp] theorem zpY:step cl env H .makeMap=some (.new (.mapo []) fun id=>.mapv id):=rfl
@[simp] theorem zp2 (id:Nat):AV.cells (.mapv id)=[.mapv id]:=rfl
@[simp] theorem zq1 (id:Nat):AV.one (.mapv id)=true:=rfl
end
structure Span where
 lo:Int
 hi:Int
 deriving Inhabited
@[simp] def Span.cells (s:Span):List PV:=[.int .i64 s.lo,.int .i64 s.hi]
@[simp] theorem Span.eta (s:Span):(⟨s.lo,s.hi⟩:Span)=s:=rfl
structure Box where
 x:Span
 y:Span
 deriving Inhabited
@[simp] def Box.cells (s:Box):List PV:=[.int .i64 s.x.lo,.int .i64 s.x.hi,.int .i64 s.y.lo,.int .i64 s.y.hi]
@[simp] theorem Box.eta (s:Box):(⟨s.x,s.y⟩:Box)=s:=rfl
@[simp] theorem zrM (x0:Int) (x1:Int) (x2:Int) (x3:Int) (P:Box->Prop) {u}:asF Box.cells [.pure (.int .i64 x0),.pure (.int .i64 x1),.pure (.int .i64 x2),.pure (.int .i64 x3)] P u↔P ⟨⟨x0,x1⟩,⟨x2,x3⟩⟩:=by
 constructor
 ·rintro ⟨a,h,hp⟩;simp [Box.cells] at h;obtain ⟨rfl,rfl,rfl,rfl⟩:=h;exact hp
 ·intro h;exact ⟨_,rfl,h⟩
structure Pt where
 x:Int
 y:Int
 deriving Inhabited
@[simp] def Pt.cells (s:Pt):List PV:=[.int .i64 s.x,.int .i64 s.y]
@[simp] theorem Pt.eta (s:Pt):(⟨s.x,s.y⟩:Pt)=s:=rfl
structure Fact where
 id:Int
 kind:Int
 nt:Bool
 a:Int
 b:Int
 c:Int
 span:Span
 quarter:Int
 deriving Inhabited
@[simp] def Fact.cells (s:Fact):List PV:=[.int .i64 s.id,.int .i64 s.kind,.bool s.nt,.int .i64 s.a,.int .i64 s.b,.int .i64 s.c,.int .i64 s.span.lo,.int .i64 s.span.hi,.int .i64 s.quarter]
@[simp] theorem Fact.eta (s:Fact):(⟨s.id,s.kind,s.nt,s.a,s.b,s.c,s.span,s.quarter⟩:Fact)=s:=rfl
structure Problem where
 boxes:Sl Box
 facts:Sl Fact
 deriving Inhabited
@[simp] def Problem.cells (s:Problem):List PV:=[(s.boxes).pv Box.cells 4,(s.facts).pv Fact.cells 9]
@[simp] theorem Problem.eta (s:Problem):(⟨s.boxes,s.facts⟩:Problem)=s:=rfl
end Go.Proofs.Ytleggocccaeemaa.Vm
