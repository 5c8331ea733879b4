/- The library's sort of numbers, as the machine of values runs it, by its contract. Contracts of functions of Go's library for the machine of values: slices.Sort, Clone, Delete, Compact, IndexFunc. Appending in a chain: onto an empty literal, and rows of more than one. Maps: what single operations come to; sets of numbers, and tables from numbers. Problems, as data. Narrowing: the greatest boxes no strip of which fails, whichever way they are found. Plain Lean. Trees of cuts: one that grows fits, and how large it is. Plain Lean. How large a refutation's tree is: strips outside of what narrowing leaves, then a division of what is left. Plain Lean. -/
import Derived.Test.YtmmhnfghklppiaaGreatQk7
import Derived.Sort.Grow
import Derived.Sort.Row
import Derived.CallsIn
import Derived.Test.YtmmhnfghklppiaaGreatQk8
namespace Go.Proofs.YtmmhnfghklppiaaGreat.Vm
open Go Go.RowKit
set_option linter.unusedVariables false
def ins (a:Int):List Int->List Int
 | []=>[a]
 | b::l=>if a<=b then a::b::l else b::ins a l
def zca:List Int->List Int
 | []=>[]
 | a::l=>ins a (zca l)
theorem zh5 (a:Int):∀ l:List Int,(ins a l).Perm (a::l)
 | []=>List.Perm.refl _
 | b::l=>by
  unfold ins
  split
  ·exact List.Perm.refl _
  ·exact ((zh5 a l).cons b).trans (List.Perm.swap a b l)
theorem zfw:∀ l:List Int,(zca l).Perm l
 | []=>List.Perm.refl _
 | a::l=>(zh5 a (zca l)).trans ((zfw l).cons a)
theorem ziD (a:Int):∀ {l:List Int},l.Pairwise (·<=·)->(ins a l).Pairwise (·<=·)
 | [],_=>by simp [ins]
 | b::l,h=>by
  have h1:=List.pairwise_cons.1 h;unfold ins
  split
  ·rename_i hab
   refine List.pairwise_cons.2 ⟨fun x hx=>?_,h⟩
   rcases List.mem_cons.1 hx with rfl|hx
   ·exact hab
   ·exact Int.le_trans hab (h1.1 x hx)
  ·rename_i hab
   refine List.pairwise_cons.2 ⟨fun x hx=>?_,ziD a h1.2⟩
   rcases List.mem_cons.1 ((zh5 a l).mem_iff.1 hx) with rfl|hx
   ·omega
   ·exact h1.1 x hx
theorem zfR:∀ l:List Int,(zca l).Pairwise (·<=·)
 | []=>List.Pairwise.nil
 | a::l=>ziD a (zfR l)
theorem zf4 (l:List Int):(zca l).length=l.length:=(zfw l).length_eq
theorem zhd (l:List Int):(l.mergeSort fun x y=>decide (x<=y))=zca l:=by
 have h1:(l.mergeSort fun x y=>decide (x<=y)).Pairwise (fun a b=>decide (a<=b)=true):=List.pairwise_mergeSort (fun a b c h h'=>by simp at *;omega) (fun a b=>by simp;omega) l
 refine List.Perm.eq_of_pairwise (le:=fun a b=>a<=b) (fun a b _ _ h h'=>Int.le_antisymm h h') (h1.imp fun h=>by simpa using h) (zfR l) ((List.mergeSort_perm l _).trans (zfw l).symm)
def zhE:List AV->Option (List Int)
 | []=>some []
 | .pure (.int .i64 z)::l=>(zhE l).map (z :: ·)
 | _=>none
theorem zj2:∀ {l:List AV} {zs:List Int},zhE l=some zs->l=zs.map fun z=>.pure (.int .i64 z)
 | [],zs,h=>by simp [zhE] at h;subst h;rfl
 | c::l,zs,h=>by
  unfold zhE at h
  split at h
  ·rename_i h0;cases h0
  ·rename_i z l' h0;simp only [List.cons.injEq] at h0;obtain ⟨rfl,rfl⟩:=h0;rw [Option.map_eq_some_iff] at h;obtain ⟨ys,hy,rfl⟩:=h;rw [zj2 hy];rfl
  ·simp at h
def zkL (args:List AV) (H:Heap):Option (AV×Heap) :=
 match args with
 | [.row id 1 off n]=>match H.get id with
  | .cells true cs=>if off+n<=cs.length/\n<=zn then match zhE ((cs.drop off).take n) with
    | some zs=>some (.tup [],H.set id (.cells true (cs.take off++(zca zs).map (fun z=>AV.pure (.int .i64 z))++cs.drop (off+n))))
    | none=>none else none
  | _=>none
 | _=>none
theorem zmO {C:Comp} {P:Program} {f:Nat} (hf:FnOk P f)
  (hc:∀ (blk off cap:Nat) (zs:List Int) (w:World),Sort.Holds (Value.int .i64) w blk off zs.toArray->blk < w.heap.size->zs.length < 4611686018427387904 ->
   Calls P f #[.slice (some ⟨blk,off,none⟩) zs.length cap] w fun e w'=>e=.returned (.tuple #[])/\∃ n os,w'=Sort.grow (Sort.putRow (Value.int .i64) (Sort.ahead w n) blk off (zs.mergeSort fun x y=>decide (x<=y)).toArray) os)
  {args:List AV} {H H':Heap} {r:AV} (h:zkL args H=some (r,H')):zlu C P f args H r H':=by
 refine ⟨hf,fun k S base φ w vals hH hv=>?_⟩
 unfold zkL at h
 split at h
 ·rename_i id off n
  split at h
  ·rename_i cs hg
   split at h
   ·rename_i hcond
    split at h
    ·rename_i zs hz;simp only [Option.some.injEq,Prod.mk.injEq] at h;obtain ⟨rfl,rfl⟩:=h;obtain ⟨v,vs',rfl,h1,h2⟩:=hv.cons_inv;have:=h2.nil_inv;subst this;obtain ⟨b,m,cap,hid,rfl,hcap,hfull⟩:=h1.row_inv;have ho:=hH.obj _ _ _ hid;rw [hg] at ho;obtain ⟨c,e,fz,q1,q2,q3,q4,q5⟩:=ho;have hzs:=zj2 hz;have hzl:zs.length=n:=by
      have:((cs.drop off).take n).length=n:=by simp;omega
      rw [hzs] at this
      simpa using this
     have hcell:∀ j,j < zs.length->c[off+j]?=some (.int .i64 zs[j]!):=fun j hj=>by
      have ha:cs[off+j]?=some (.pure (.int .i64 zs[j]!)):=by
       have h3:((cs.drop off).take n)[j]?=some (.pure (.int .i64 zs[j]!)):=by
        rw [hzs,List.getElem?_map,List.getElem?_eq_getElem hj];simp [hj]
       rw [List.getElem?_take_of_lt (by omega),List.getElem?_drop] at h3;exact h3
      have hjs:off+j < c.size:=by omega
      have hcv:c[off+j]?=some c[off+j]:=Array.getElem?_eq_getElem hjs;have:=(q5 _ _ _ ha hcv).int_inv;rw [hcv,this]
     have hholds:Sort.Holds (Value.int .i64) w b off zs.toArray:=fun j hj=>by
      have hj':j < zs.length:=by simpa using hj
      refine ⟨?_,?_⟩
      ·simp only [World.cell?,q1];rw [hcell j hj'];simp
      ·have hjs:off+j < c.size:=by omega
       simp only [World.frozen?,q1];have:=q4 (off+j) (by omega)
       simpa using this
     have hbs:b < w.heap.size:=(hH.lt _ _ _ hid).2;have hrun:=hc b off cap zs w hholds hbs (by rw [hzl];have:=hcond.2;simp only [zn] at this;omega);rw [hzl] at hrun;rw [Nat.mul_one]
     refine (callsIn_wide.2 hrun).mono ?_
     rintro e' w' ⟨rfl,n',os,rfl⟩;rw [zhd];have hput:(Sort.putRow (Value.int .i64) (Sort.ahead w n') b off (zca zs).toArray).heap[b]?=some (.cells (Sort.putCells (Value.int .i64) off (zca zs).toArray c) e fz):=by
      simp [Sort.putRow,Sort.mapBlock,Sort.ahead,Array.getElem?_modify,q1,Sort.onCells]
     have hw2:=hH.write (o:=.cells true (cs.take off++(zca zs).map (fun z=>AV.pure (.int .i64 z))++cs.drop (off+n))) (w':=Sort.putRow (Value.int .i64) (Sort.ahead w n') b off (zca zs).toArray) hid (by rw [hg];rfl) rfl rfl rfl (by simp [Sort.ahead]) (fun c' hc'=>by
       simp [Sort.putRow,Sort.mapBlock,Sort.ahead,Array.getElem?_modify,hc'.symm]) ⟨_,e,fz,hput,by simp [Sort.putCells,q2],by
       have:=zf4 zs;simp only [List.length_append,List.length_take,List.length_map,List.length_drop];omega,q4,fun j a v ha hv=>?_⟩
     ·have hgrow:Below (Sort.putRow (Value.int .i64) (Sort.ahead w n') b off (zca zs).toArray).heap.size (Sort.putRow (Value.int .i64) (Sort.ahead w n') b off (zca zs).toArray) (Sort.grow (Sort.putRow (Value.int .i64) (Sort.ahead w n') b off (zca zs).toArray) os):=by
       refine ⟨rfl,rfl,rfl,by simp [Sort.grow],fun c' hc'=>?_⟩
       simp only [Sort.grow];rw [Array.getElem?_append_left hc']
      exact ⟨_,φ,rfl,hw2.1.trans (Evo.of_below hgrow),hw2.2.below hgrow,.tup [] #[] rfl fun i p v h=>by simp at h⟩
     ·-- each cell
      have hjl:=(List.getElem?_eq_some_iff.1 ha).1;have hil:=zf4 zs;simp only [List.length_append,List.length_take,List.length_map,List.length_drop] at hjl;have hjs:j < c.size:=by omega
      have hcj:c[j]?=some c[j]:=Array.getElem?_eq_getElem hjs;have hsame:∀ k b',Imm S base φ H w k b'->Imm S base φ H w k b'/\(Sort.putRow (Value.int .i64) (Sort.ahead w n') b off (zca zs).toArray).heap[b']?=w.heap[b']?:=fun k b' hb'=>⟨hb',by
       have hne:b≠b':=fun e=>hb'.2.2 ⟨id,m,by rw [<- e];exact hid,by rw [hg];rfl⟩;simp [Sort.putRow,Sort.mapBlock,Sort.ahead,Array.getElem?_modify,hne]⟩
      simp only [Sort.putCells,Array.getElem?_mapIdx,hcj,Option.map_some,Option.some.injEq] at hv
      by_cases hin:off<=j/\j < off+n
      ·rw [if_pos ⟨hin.1,by simp [hil,hzl];exact hin.2⟩] at hv;have hlo:¬ j < (cs.take off).length:=by simp;omega
       rw [List.append_assoc,List.getElem?_append_right (by simp;omega)] at ha;have e1:j - (cs.take off).length=j - off:=by simp;omega
       rw [e1,List.getElem?_append_left (by simp;omega),List.getElem?_map,List.getElem?_eq_getElem (by omega)] at ha;simp only [Option.map_some,Option.some.injEq] at ha;subst ha;subst hv;have hlt:j - off < (zca zs).length:=by omega
       have:((zca zs).toArray[j - off]! : Int)=(zca zs)[j - off]:=by simp [hlt]
       rw [this];exact .pure _ _ (.int _ _)
      ·rw [if_neg (by simp [hil,hzl];omega)] at hv;subst hv;have haj:cs[j]?=some a:=by
        by_cases hlo:j < off
        ·rw [List.append_assoc,List.getElem?_append_left (by simp;omega),List.getElem?_take_of_lt hlo] at ha;exact ha
        ·rw [List.getElem?_append_right (by simp;omega)] at ha;rw [List.getElem?_drop] at ha;have e2:off+n+(j - (cs.take off++(zca zs).map (fun z=>AV.pure (.int .i64 z))).length)=j:=by simp;omega
         rw [e2] at ha;exact ha
       exact (q5 j a c[j] haj hcj).mono hsame (fun _ _ h=>h)
    ·simp at h
   ·simp at h
  ·simp at h
 ·simp at h
open Go
set_option linter.unusedSimpArgs false
set_option maxHeartbeats 4000000
def wpS (rs:List VRes) (k:AV->Heap->Prop) (x:VExit) (env:Env) (H:Heap):Prop:=(∀ i,x≠.exit i)/\∃ v,results env H rs=some v/\k v H
@[simp] theorem zvD {rs:List VRes} {k:AV->Heap->Prop} {env:Env} {H:Heap}:wpS rs k .ret env H↔∃ v,results env H rs=some v/\k v H:=by simp [wpS]
@[simp] theorem ztM {rs:List VRes} {k:AV->Heap->Prop} {env:Env} {H:Heap}:wpS rs k .normal env H↔∃ v,results env H rs=some v/\k v H:=by simp [wpS]
section
variable {G:Prog} {n:Nat} {H:Heap}
theorem zc4 {f:Nat} {fn:VFunc} {args:List AV} {k:AV->Heap->Prop} (hr:G.extRun f args H=none) (hf:G.func f=some fn) (hl:args.length=fn.nargs)
  (h:wp (zm G n) fn.body (za args) H (wpS fn.results k) .mk):∃ v H',Vm.call G (n+1) (.fn f) args H=some (v,H')/\k v H':=by
 obtain ⟨x,e,h',h1,h2,v,h3,h4⟩:=h
 refine ⟨v,h',?_,h4⟩
 rw [zkF,hr,hf];simp only [hl,if_true,h1]
 cases x with
 | exit i=>exact absurd rfl (h2 i)
 | normal=>simp only [h3]
 | ret=>simp only [h3]
theorem zrR {f:Nat} {caps:List PV} {args:List AV} {k:AV->Heap->Prop} {u} (hs:G.shared f=true) (h:∃ v H',Vm.call G (n+1) (.fn f) (args++caps.map .pure) H=some (v,H')/\k v H') :
  wpE 0 (zG (zm G (n+1)) H (.pure (.func f caps)) args) H k u:=by
 obtain ⟨v,H',h1,h2⟩:=h
 refine ⟨.upd v H',?_,by simp,h2⟩
 have hs':(zm G (n+1)).shared f=true:=hs;have h1':(zm G (n+1)).run f (args++caps.map .pure) H=some (v,H'):=h1;simp only [zG,hs',if_true,h1']
theorem zek {f:Nat} {caps:List PV} {args:List AV} {ps:List PV} {r:PV} {pre:Nat} {k:AV->Heap->Prop} {u} (hs:G.shared f=false) (ha:FrzL H true zaF (args++caps.map .pure) ps) (h:zH G n f ps=some r) (hc:r.cold=true)
  (hk:k (.pure r) H):wpE pre (zG (zm G n) H (.pure (.func f caps)) args) H k u:=by
 obtain ⟨ids,ha⟩:=ha
 refine ⟨.val (.pure r),?_,by simp [zbs],hk⟩
 have hs':(zm G n).shared f=false:=hs;have h':(zm G n).pure f ps=some r:=h;simp only [zG,hs',Bool.false_eq_true,if_false,ha,h',hc,Bool.or_true,if_true]
end
section
variable {α:Type} {f:α->List PV} {sz:Nat} {H:Heap} {v:AV} {l:List α}
theorem zgo:zq f ([]:List α)=[]:=rfl
theorem zbX (a:α) (l:List α):zq f (a::l)=(f a).map .pure++zq f l:=by simp [zq]
theorem zhw (hf:∀ a,(f a).length=sz):∀ (l:List α) (i:Nat),(zq f l).take (i*sz)=zq f (l.take i)
 | [],i=>by simp [zq]
 | a::l,0=>by simp [zq]
 | a::l,i+1=>by
  have h3:(List.map AV.pure (f a)).length=sz:=by rw [List.length_map,hf]
  rw [List.take_succ_cons,zbX,zbX,Nat.add_mul,Nat.one_mul,Nat.add_comm,<- h3,List.take_length_add_append,h3,zhw hf l i]
theorem ziB (hf:∀ a,(f a).length=sz):∀ (l:List α) (i:Nat),(zq f l).drop (i*sz)=zq f (l.drop i)
 | [],i=>by simp [zq]
 | a::l,0=>by simp [zq]
 | a::l,i+1=>by
  have h3:(List.map AV.pure (f a)).length=sz:=by rw [List.length_map,hf]
  rw [List.drop_succ_cons,zbX,Nat.add_mul,Nat.one_mul,Nat.add_comm,<- h3,List.drop_length_add_append,h3,ziB hf l i]
theorem zfB (hone:∀ a,(f a).all PV.one=true) (l:List α):(zq f l).all AV.one=true:=by
 induction l with
 | nil=>rfl
 | cons a l ih=>rw [zbX,List.all_append,ih,zbU _ (hone a)];rfl
theorem zeu (l:List α):zq f l=((l.map f).flatten).map .pure:=by simp [zq,List.map_flatten,Function.comp_def]
theorem zcl (hf:∀ a,(f a).length=sz) (s:Sl α):zN H sz (.pure (s.pv f sz))=some (zq f s.xs,s.xs.length):=by
 rw [zi1 hf,zeu]
theorem OwnV.slice (hf:∀ a,(f a).length=sz) (h:OwnV f sz H v l):zN H sz v=some (zq f l,l.length):=by
 rcases h with ⟨rfl,rfl⟩|⟨id,rfl,hg⟩
 ·rfl
 ·rw [zik,hg];have:=zaA hf l;simp only [zgc];rw [if_pos (by omega),Nat.zero_mul,List.drop_zero,<- this,List.take_length]
def HeadV {α:Type} (f:α->List PV) (sz:Nat) (H:Heap) (v:AV) (l:List α):Prop:=∃ id rest,v=.row id sz 0 l.length/\H.get id=.cells true (zq f l++rest)
theorem HeadV.frz {k:Bool} {n:Nat} (hf:∀ a,(f a).length=sz) (h:HeadV f sz H v l):FrzK H k (n+2) v (.slice k sz (l.map f)):=by
 obtain ⟨id,rest,rfl,hg⟩:=h;have hlen:=zaA hf l;have hch:∀ l:List α,chunks sz l.length ((l.map f).flatten)=l.map f:=by
  intro l
  induction l with
  | nil=>rfl
  | cons a l ih =>
   simp only [List.length_cons,chunks,List.map_cons,List.flatten_cons];rw [List.take_left' (hf a),List.drop_left' (hf a),ih]
 have hlen2:((l.map f).flatten).length=l.length*sz:=by
  rw [<- hlen,zeu,List.length_map]
 refine ⟨[id],?_⟩
 have h1:((zq f l++rest).drop (0*sz)).take (l.length*sz)=((l.map f).flatten).map .pure:=by
  rw [Nat.zero_mul,List.drop_zero,<- hlen,List.take_left',zeu];rfl
 have hids0:zQ (freeze H k (n+1)) (((l.map f).flatten).map .pure)=some ((l.map f).flatten,[]):=by
  generalize (l.map f).flatten=q
  induction q with
  | nil=>rfl
  | cons p ps ih=>rw [List.map_cons,zQ,ih];rfl
 unfold freeze;simp only [hg,h1,hids0,hlen2,if_true,hch]
theorem OwnV.head (h:OwnV f sz H v l):(l=[]/\v=.pure .nils)\/HeadV f sz H v l:=by
 rcases h with h|⟨id,h1,h2⟩
 ·exact .inl h
 ·exact .inr ⟨id,[],h1,by rw [List.append_nil];exact h2⟩
end
theorem zer {α:Type} {f:α->List PV} {sz n:Nat} {H:Heap} {id m:Nat} {l:List α} (hf:∀ a,(f a).length=sz) (hg:H.get id=.cells true (zq f l)) (hl:l.length=m):∃ s:Sl α,s.xs=l/\FrzK H true (n+2) (.row id sz 0 m) (s.pv f sz):=by
 subst hl;exact ⟨.mk true l,rfl,HeadV.frz hf ⟨id,[],rfl,by rw [List.append_nil];exact hg⟩⟩
theorem za6 {α:Type} {f:α->List PV} {sz n:Nat} {H:Heap} {id m:Nat} {l:List α} (hf:∀ a,(f a).length=sz) (hg:H.get id=.cells true (zq f l)) (hl:l.length=m):FrzK H false (n+2) (.row id sz 0 m) ((Sl.mk false l).pv f sz):=by
 subst hl;exact HeadV.frz hf ⟨id,[],rfl,by rw [List.append_nil];exact hg⟩
def zrk (sz bytes:Nat):VFunc:=⟨1,8,[(.tmp 2)],(.seq (.region none [⟨(some 2),(.mov (.const .nils)),none⟩]) (.seq (.seq (.region none [⟨(some 3),(.mov (.tmp 0)),none⟩,⟨(some 4),(.bin .eql .slice (.tmp 3) (.const .nils)),none⟩]) (.cond (.tmp 4) (.seq (.region none [⟨(some 2),(.mov (.const .nils)),none⟩]) .ret) .skip)) (.seq (.region none [⟨(some 5),(.buildSlice sz [] []),none⟩,⟨(some 6),(.mov (.tmp 0)),none⟩,⟨(some 7),(.append sz bytes (.tmp 5) (.tmp 6)),none⟩,⟨(some 2),(.mov (.tmp 7)),none⟩]) .ret)))⟩
theorem zfr {v:AV} {b:Bool} (h:isNil .slice v=some b):vbin .eql .slice v (.pure .nils)=some (.pure (.bool b)):=by
 have h1:eqB .slice v (.pure .nils)=some b:=by
  have h0:isNil .slice (.pure .nils)=some true:=rfl
  cases b<;>simp only [eqB,h,h0]
 cases v with
 | pure p=>cases p<;>simp only [vbin,h1,Option.map_some]<;>simp [isNil] at h
 | _=>simp only [vbin,h1,Option.map_some]
section
variable {α:Type} {f:α->List PV} {sz:Nat} {H:Heap} {v:AV} {l:List α} {G:Prog} {n:Nat}
theorem zfD {g bytes:Nat} {b:Bool} {k:AV->Heap->Prop} (hx:∀ H,G.extRun g [v] H=none) (hg:G.func g=some (zrk sz bytes)) (hv:zN H sz v=some (zq f l,l.length)) (hn:isNil .slice v=some b) (hnl:b=true->l=[])
  (hf:∀ a,(f a).length=sz) (h0:0 < sz) (hone:∀ a,(f a).all PV.one=true) (hm:l.length*sz<=zn/\l.length*bytes<=zn)
  (hk:∀ v' H',OwnV f sz H' v' l->isNil .slice v'=some b->H.nx<=H'.nx->(∀ id,id < H.nx->H'.get id=H.get id)->(∀ id,Names v' id->H.nx<=id)->k v' H') :
  ∃ v' H',Vm.call G (n+1) (.fn g) [v] H=some (v',H')/\k v' H':=by
 refine zc4 (hx H) hg rfl ?_
 simp only [zrk];have h1:=zfr hn
 cases b with
 | true =>
  have hl:=hnl rfl;subst hl;have:=hk (.pure .nils) H OwnV.nil rfl (Nat.le_refl _) (fun _ _=>rfl) (fun id ⟨_,_,_,h⟩=>by simp at h);simp [za,h1,this]
 | false =>
  simp only [zqF,zjK,zk7,zg3,ztn,zhm,Option.getD_none,zh0,zhQ,zof,zlx,zjn,za,ztL,zos];simp [h1];have hsame:zN (H.alloc (.cells true [])) sz v=some (zq f l,l.length):=by
   cases v with
   | row id s o m =>
    simp only [zN] at hv ⊢
    split at hv
    ·rename_i hs;rw [if_pos hs]
     split at hv
     ·rename_i cs hc;rw [zf (zt hc),hc];exact hv
     ·simp at hv
    ·simp at hv
   | pure p=>cases p<;>exact hv
   | _=>exact hv
  have ho:=zfB hone l;have hz:(if sz=0 then 0 else 0 / sz)=0:=by split<;>simp
  try rw [hz]
  have hi0:za [v] 0=v:=rfl;rw [hi0];have hlen:=zaA hf l
  cases l with
  | nil =>
   have hap:zk (H.alloc (.cells true [])) sz bytes (.row H.nx sz 0 0) v=some (.upd (.row H.nx sz 0 0) ((H.alloc (.cells true [])).set H.nx (.cells true []))):=by
    simp only [zk,hsame,ho,zaz];simp [zq]
   rw [hap];simp
   refine hk _ _ (.inr ⟨H.nx,rfl,?_⟩) rfl (by simp) (fun id hid=>?_) (fun id ⟨_,_,_,h⟩=>?_)
   ·rw [zu (by simp)];rfl
   ·rw [zh (by omega),zf hid]
   ·simp at h;omega
  | cons a l =>
   have hap:zk (H.alloc (.cells true [])) sz bytes (.row H.nx sz 0 0) v=some (.upd (.row (H.nx+1) sz 0 (a::l).length) (((H.alloc (.cells true [])).set H.nx .dead).alloc (.cells true (zq f (a::l))))):=by
    simp only [zk,hsame,ho,zaz];have hp:0 < (a::l).length*sz:=Nat.mul_pos (by simp) h0;simp only [Bool.not_true,Bool.false_eq_true,if_false,if_true,Nat.zero_mul,Nat.zero_add,List.length_nil];rw [if_neg (by omega)];simp only [true_and,zan,List.nil_append];rw [if_pos hm]
   rw [hap];simp
   refine hk _ _ (.inr ⟨H.nx+1,by simp,?_⟩) rfl (by simp;omega) (fun id hid=>?_) (fun id ⟨_,_,_,h⟩=>?_)
   ·exact zhc (by simp)
   ·rw [zf (by simp;omega),zh (by omega),zf hid]
   ·simp at h;omega
end
section
variable {H:Heap} {v:AV} {l:List Int} {G:Prog} {n:Nat}
end
section
variable {α:Type} {f:α->List PV} {sz:Nat} {G:Prog} {n:Nat}
end
section
variable {H:Heap} {v:AV} {l:List Int} {G:Prog} {n:Nat}
@[simp] theorem ziN {l:List Int} {i:Nat} {x:Int} (h:i < l.length):zcp (.cells true (zq intF l)) 1 i [.pure (.int .i64 x)]=some (.cells true (zq intF (l.set i x))):=by
 have hlen:∀ l:List Int,(zq intF l).length=l.length:=fun l=>by rw [zaA (sz:=1) (fun _=>rfl)];omega
 simp only [zcp];rw [if_pos ⟨rfl,by simp,rfl,by rw [hlen];omega⟩];have h1:=zhw (f:=intF) (sz:=1) (fun _=>rfl) l i;have h2:=ziB (f:=intF) (sz:=1) (fun _=>rfl) l (i+1);rw [Nat.mul_one] at h1 h2;rw [h1,h2,List.set_eq_take_append_cons_drop,if_pos h,zaJ,zbX,List.append_assoc];rfl
end
section
variable {G:Prog} {n:Nat} {H:Heap} {env:Env}
theorem zm2 {id:Nat} {r:LoopR} {args:List AV} {k:AV->Heap->Prop} {u} (hg:H.get id=.loop r) (hs:r.state=.ready) (hl:args.length=r.params.length)
  (h:wp (zm G n) r.assign ((r.params.zip args).foldl (fun e x=>upd e x.1 x.2) r.env) H (fun x env2 H2=>x=.normal/\H2.get id=.loop r /\
   wp (zm G n) r.body env2 (H2.set id (.loop { r with state:=.busy })) (fun x _ H3=>x=.normal/\H3.get id=.loop { r with state:=.busy }/\k (.pure (.bool true)) (H3.set id (.loop { r with state:=.ready,pending:=.normal }))) .mk) .mk) :
  wpE 0 (zG (zm G (n+1)) H (.yield id) args) H k u:=by
 obtain ⟨x,env2,H2,h1,rfl,hg2,x3,e3,H3,h3,rfl,h4,h5⟩:=h
 refine ⟨.upd (.pure (.bool true)) (H3.set id (.loop { r with state:=.ready,pending:=.normal })),?_,by simp,h5⟩
 have hy:(zm G (n+1)).yield id args H=some (.pure (.bool true),H3.set id (.loop { r with state:=.ready,pending:=.normal })):=by
  show Vm.call G (n+1) (.yield id) args H=_;have e0:Vm.call G (n+1) (.yield id) args H=(match H.get id with
   | .loop r =>
    if args.length=r.params.length then
     match exec (zm G n) r.assign ((r.params.zip args).foldl (fun e x=>upd e x.1 x.2) r.env) H with
     | some (.normal,env2,H2)=>match H2.get id with
      | .loop r2=>match r2.state with
       | .ready=>match exec (zm G n) r.body env2 (H2.set id (.loop { r2 with state:=.busy })) with
        | some (x,_,H3)=>match H3.get id with
         | .loop r3=>match x with
          | .normal=>some (.pure (.bool true),H3.set id (.loop { r3 with state:=.ready,pending:=.normal }))
          | x=>some (.pure (.bool false),H3.set id (.loop { r3 with state:=.done,pending:=x }))
         | _=>none
        | none=>none
       | _=>none
      | _=>none
     | _=>none
    else none
   | _=>none):=rfl
  rw [e0,hg];simp only [hl,if_true,h1,hg,hg2,hs,h3,h4]
 simp only [zG,hy]
theorem zkb {f:Opnd} {params:List Nat} {assign body:VCode} {Q:VExit->Env->Heap->Prop} {g:Nat} {caps:List PV} {u} (hf:f.eval env=.pure (.func g caps))
  (h:∃ v H2,Vm.call G (n+1) (.fn g) (.yield H.nx::caps.map .pure) (H.alloc (.loop { env,params,assign,body,state:=.ready,pending:=.normal }))=some (v,H2) /\
   H2.get H.nx=.loop { env,params,assign,body,state:=.ready,pending:=.normal }/\Q .normal env (H2.set H.nx .dead)) :
  wp (zm G (n+1)) (.rangeFunc f params assign body) env H Q u:=by
 obtain ⟨v,H2,h1,h2,h3⟩:=h
 refine ⟨.normal,env,H2.set H.nx .dead,?_,h3⟩
 have h1':(zm G (n+1)).run g (.yield H.nx::caps.map .pure) (H.alloc (.loop { env,params,assign,body,state:=.ready,pending:=.normal }))=some (v,H2):=h1;simp only [exec,hf,h1',h2]
end
def zjW (H:Heap) (sz bytes:Nat) (a b:AV):Option Eff:=match zN H sz b with
  | none=>none
  | some (new,m)=>if !new.all AV.one then none else match a with
   | .void id s=>if s=sz then (if m=0 then some (.val (.row id sz 0 0)) else
     if m*sz<=zn/\m*bytes<=zn then some (.new (.cells true new) fun id=>.row id sz 0 m) else none) else none
   | _=>none
section
variable {α:Type} {f:α->List PV} {sz:Nat} {H:Heap} {v:AV} {l:List α}
theorem zs2 {bytes pre id:Nat} {b:AV} {k:AV->Heap->Prop} {u} (hb:zN H sz b=some (zq f l,l.length)) (hid:H.get id=.cells true []) (hone:∀ a,(f a).all PV.one=true)
  (hm:l.length*sz<=zn/\l.length*bytes<=zn)
  (hk:∀ v' H',OwnV f sz H' v' l->H.nx<=H'.nx->(∀ i,i < H.nx->H'.get i=H.get i)->(∀ i,Names v' i->i=id\/H.nx<=i)->k v' H'):wpE pre (zjW H sz bytes (.void id sz) b) H k u:=by
 have ho:=zfB hone l;simp only [zjW,hb,ho];simp only [Bool.not_true,Bool.false_eq_true,if_false,if_true]
 by_cases h0:l.length=0
 ·have hl:l=[]:=List.eq_nil_of_length_eq_zero h0;subst hl;rw [if_pos (show ([]:List α).length=0 from rfl),zhm];exact hk _ _ (.inr ⟨id,rfl,by rw [hid];rfl⟩) (Nat.le_refl _) (fun _ _=>rfl) fun i ⟨_,_,_,h⟩=>by simp at h;exact .inl h.1.symm
 ·rw [if_neg h0,if_pos hm,zfQ]
  refine hk _ _ (.inr ⟨H.nx,rfl,zaz _⟩) (Nat.le_succ _) (fun i hi=>zf hi) fun i ⟨_,_,_,h⟩=>?_
  simp at h;exact .inr (by omega)
theorem zgS {bytes:Nat} {b:AV} {m:List α} {k:AV->Heap->Prop} {u} (hv:OwnV f sz H v l) (hf:∀ a,(f a).length=sz) (h0:0 < sz) (hone:∀ a,(f a).all PV.one=true)
  (hb:zN H sz b=some (zq f m,m.length)) (hm:(l.length+m.length)*sz<=zn/\(l.length+m.length)*bytes<=zn)
  (hk:∀ v' H',OwnV f sz H' v' (l++m)->H.nx<=H'.nx->(∀ i,i < H.nx->¬ Names v i->H'.get i=H.get i)->(∀ i,Names v' i->Names v i\/H.nx<=i)->k v' H'):wpE 0 (zk H sz bytes v b) H k u:=by
 have ho:=zfB hone m;rcases hv with ⟨rfl,rfl⟩|⟨id,rfl,hid⟩
 ·simp only [List.length_nil,Nat.zero_add] at hm
  by_cases hm0:m.length=0
  ·have hl:m=[]:=List.eq_nil_of_length_eq_zero hm0;subst hl;have:zk H sz bytes (.pure .nils) b=some (.val (.pure .nils)):=by
    simp only [zk,hb,ho];simp
   rw [this,zhm];exact hk _ _ (.inl ⟨rfl,rfl⟩) (Nat.le_refl _) (fun _ _ _=>rfl) fun i h=>.inl h
  ·have:zk H sz bytes (.pure .nils) b=some (.new (.cells true (zq f m)) fun id=>.row id sz 0 m.length):=by
    simp only [zk,hb,ho];simp only [Bool.not_true,Bool.false_eq_true,if_false];rw [if_neg hm0,if_pos hm]
   rw [this,zfQ]
   refine hk _ _ (.inr ⟨H.nx,by simp,by rw [List.nil_append];exact zaz _⟩) (Nat.le_succ _) (fun i hi _=>zf hi) fun i ⟨_,_,_,h⟩=>.inr ?_
   simp at h;omega
 ·have hlen:=zaA hf l
  by_cases hm0:m.length=0
  ·have hl:m=[]:=List.eq_nil_of_length_eq_zero hm0;subst hl;have:zk H sz bytes (.row id sz 0 l.length) b=some (.upd (.row id sz 0 l.length) (H.set id (.cells true (zq f l)))):=by
    simp only [zk,hb,ho,hid,zgo];simp only [Bool.not_true,Bool.false_eq_true,if_false,if_true,List.all_nil,List.length_nil,Nat.add_zero,Nat.zero_mul,Nat.zero_add,List.append_nil];rw [if_pos (by rw [hlen];exact Nat.le_refl _),List.take_of_length_le (by rw [hlen];exact Nat.le_refl _),List.drop_eq_nil_of_le (by rw [hlen];exact Nat.le_refl _),List.append_nil]
   rw [this,zex]
   refine hk _ _ (.inr ⟨id,by simp,?_⟩) (Nat.le_refl _) (fun i hi hn=>zh fun e=>hn (by subst e;exact ⟨_,_,_,rfl⟩)) fun i h=>?_
   ·rw [zbp (zt hid),List.append_nil]
   ·obtain ⟨_,_,_,h⟩:=h;simp at h;exact .inl ⟨_,_,_,by rw [h.1]⟩
  ·have hnot:¬ (0*sz+(l.length+m.length)*sz<=(zq f l).length):=by
    rw [hlen,Nat.add_mul];have:=Nat.mul_pos (Nat.pos_of_ne_zero hm0) h0;omega
   have:zk H sz bytes (.row id sz 0 l.length) b=some (.upd (.row H.nx sz 0 (l.length+m.length)) ((H.set id .dead).alloc (.cells true (zq f l++zq f m)))):=by
    simp only [zk,hb,ho,hid];simp only [Bool.not_true,Bool.false_eq_true,if_false,if_true];rw [if_neg hnot];simp only [true_and];rw [if_pos ⟨hlen.symm,hm⟩]
   rw [this,zex]
   refine hk _ _ (.inr ⟨H.nx,by simp,?_⟩) (Nat.le_succ _) (fun i hi hn=>?_) fun i ⟨_,_,_,h⟩=>.inr ?_
   ·have:(H.set id .dead).nx=H.nx:=rfl;rw [<- this,zaz,zaJ]
   ·rw [zf (by exact hi),zh];intro e;subst e;exact hn ⟨_,_,_,rfl⟩
   ·simp at h;omega
theorem OwnV.mkRes {n:Nat} (h:OwnV f sz H v l) (hf:∀ a,(f a).length=sz) (hl:l≠[]):FrzK H false (n+2) v ((Sl.mk false l).pv f sz):=by
 rcases h.frz (k:=false) (n:=n) hf with h1|⟨h1,_⟩
 ·cases l with
  | nil=>exact absurd rfl hl
  | cons a l=>exact h1
 ·exact absurd h1 hl
end
section
variable {cl:Callee} {env:Env} {H:Heap}
@[simp] theorem ztI:step cl env H .makeMap=some (.new (.mapo []) fun id=>.mapv id):=rfl
@[simp] theorem zts (id:Nat):AV.cells (.mapv id)=[.mapv id]:=rfl
@[simp] theorem zuL (id:Nat):AV.one (.mapv id)=true:=rfl
end
structure Span where
 lo:Int
 hi:Int
 deriving Inhabited
@[simp] def Span.cells (s:Span):List PV:=[.int .i64 s.lo,.int .i64 s.hi]
@[simp] theorem Span.eta (s:Span):(⟨s.lo,s.hi⟩:Span)=s:=rfl
structure Box where
 x:Span
 y:Span
 deriving Inhabited
@[simp] def Box.cells (s:Box):List PV:=[.int .i64 s.x.lo,.int .i64 s.x.hi,.int .i64 s.y.lo,.int .i64 s.y.hi]
@[simp] theorem Box.eta (s:Box):(⟨s.x,s.y⟩:Box)=s:=rfl
@[simp] theorem zvl (x0:Int) (x1:Int) (x2:Int) (x3:Int) (P:Box->Prop) {u}:asF Box.cells [.pure (.int .i64 x0),.pure (.int .i64 x1),.pure (.int .i64 x2),.pure (.int .i64 x3)] P u↔P ⟨⟨x0,x1⟩,⟨x2,x3⟩⟩:=by
 constructor
 ·rintro ⟨a,h,hp⟩;simp [Box.cells] at h;obtain ⟨rfl,rfl,rfl,rfl⟩:=h;exact hp
 ·intro h;exact ⟨_,rfl,h⟩
structure Pt where
 x:Int
 y:Int
 deriving Inhabited
@[simp] def Pt.cells (s:Pt):List PV:=[.int .i64 s.x,.int .i64 s.y]
@[simp] theorem Pt.eta (s:Pt):(⟨s.x,s.y⟩:Pt)=s:=rfl
structure Fact where
 id:Int
 kind:Int
 nt:Bool
 a:Int
 b:Int
 c:Int
 span:Span
 quarter:Int
 deriving Inhabited
@[simp] def Fact.cells (s:Fact):List PV:=[.int .i64 s.id,.int .i64 s.kind,.bool s.nt,.int .i64 s.a,.int .i64 s.b,.int .i64 s.c,.int .i64 s.span.lo,.int .i64 s.span.hi,.int .i64 s.quarter]
@[simp] theorem Fact.eta (s:Fact):(⟨s.id,s.kind,s.nt,s.a,s.b,s.c,s.span,s.quarter⟩:Fact)=s:=rfl
structure Problem where
 boxes:Sl Box
 facts:Sl Fact
 deriving Inhabited
@[simp] def Problem.cells (s:Problem):List PV:=[(s.boxes).pv Box.cells 4,(s.facts).pv Fact.cells 9]
@[simp] theorem Problem.eta (s:Problem):(⟨s.boxes,s.facts⟩:Problem)=s:=rfl
def subS (s t:Span):Prop:=t.lo<=s.lo/\s.hi<=t.hi
def subB (a b:Box):Prop:=subS a.x b.x/\subS a.y b.y
def wfB (b:Box):Prop:=b.x.lo<=b.x.hi/\b.y.lo<=b.y.hi
def SubL (l m:List Box):Prop:=l.length=m.length/\∀ i (h:i < l.length) (h':i < m.length),subB l[i] m[i]
def Wf (l:List Box):Prop:=∀ b∈l,wfB b
theorem zjL (b:Box):subB b b:=⟨⟨Int.le_refl _,Int.le_refl _⟩,⟨Int.le_refl _,Int.le_refl _⟩⟩
theorem zhy {a b c:Box} (h:subB a b) (h':subB b c):subB a c:=by unfold subB subS at *;omega
theorem ziX {a b:Box} (h:subB a b) (h':subB b a):a=b:=by
 obtain ⟨⟨a1,a2⟩,a3,a4⟩:=a;obtain ⟨⟨b1,b2⟩,b3,b4⟩:=b;unfold subB subS at *;simp only [Box.mk.injEq,Span.mk.injEq] at *;omega
theorem SubL.refl (l:List Box):SubL l l:=⟨rfl,fun i h h'=>zjL _⟩
theorem SubL.trans {l m k:List Box} (h:SubL l m) (h':SubL m k):SubL l k:=⟨h.1.trans h'.1,fun i a b=>zhy (h.2 i a (by rw [<- h.1];exact a)) (h'.2 i _ b)⟩
theorem SubL.antisymm {l m:List Box} (h:SubL l m) (h':SubL m l):l=m :=
 List.ext_getElem h.1 fun i a b=>ziX (h.2 i a b) (h'.2 i b a)
theorem SubL.set {l m:List Box} (h:SubL l m) {i:Nat} {a b:Box} (hab:subB a b):SubL (l.set i a) (m.set i b) :=
 ⟨by simp [h.1],fun j h1 h2=>by
  rw [List.getElem_set,List.getElem_set]
  split
  ·exact hab
  ·exact h.2 j (by simpa using h1) (by simpa using h2)⟩
theorem Wf.set {l:List Box} (h:Wf l) {i:Nat} {a:Box} (ha:wfB a):Wf (l.set i a):=fun b hb=>by
 rcases List.mem_or_eq_of_mem_set hb with h1|rfl
 ·exact h b h1
 ·exact ha
def zba (b:Box) (k:Nat):Box:=match k with
 | 0=>⟨⟨b.x.lo,b.x.lo⟩,b.y⟩
 | 1=>⟨⟨b.x.hi,b.x.hi⟩,b.y⟩
 | 2=>⟨b.x,⟨b.y.lo,b.y.lo⟩⟩
 | _=>⟨b.x,⟨b.y.hi,b.y.hi⟩⟩
def cutB (b:Box) (k:Nat):Box:=match k with
 | 0=>⟨⟨b.x.lo+1,b.x.hi⟩,b.y⟩
 | 1=>⟨⟨b.x.lo,b.x.hi - 1⟩,b.y⟩
 | 2=>⟨b.x,⟨b.y.lo+1,b.y.hi⟩⟩
 | _=>⟨b.x,⟨b.y.lo,b.y.hi - 1⟩⟩
def zaM (b:Box) (k:Nat):Prop:=if k < 2 then b.x.lo=b.x.hi else b.y.lo=b.y.hi
instance (b:Box) (k:Nat):Decidable (zaM b k):=by unfold zaM;infer_instance
theorem zdW {b:Box} (h:wfB b) (k:Nat):wfB (zba b k):=by
 unfold wfB zba at *
 split<;>(simp only;omega)
theorem zjo {b:Box} (h:wfB b) (k:Nat):subB (zba b k) b:=by
 unfold wfB zba subB subS at *
 split<;>(simp only;omega)
theorem ztQ {b:Box} (h:wfB b) {k:Nat} (hk:k < 4) (ht:¬ zaM b k):wfB (cutB b k):=by
 unfold wfB cutB zaM at *;have:k=0\/k=1\/k=2\/k=3:=by omega
 rcases this with rfl|rfl|rfl|rfl<;>simp at *<;>omega
theorem zsx (b:Box) (k:Nat):subB (cutB b k) b:=by
 unfold cutB subB subS
 split<;>(simp only;omega)
theorem zkl {a b:Box} (h:subB a b) (ha:wfB a) {k:Nat} (hk:k < 4):subB a (cutB b k)\/subB (zba a k) (zba b k):=by
 unfold subB subS cutB zba wfB at *;have:k=0\/k=1\/k=2\/k=3:=by omega
 rcases this with rfl|rfl|rfl|rfl<;>simp only<;>omega
theorem zmV {a b:Box} (h:subB a b) (ha:wfB a) {k:Nat} (hk:k < 4) (ht:zaM b k):subB (zba a k) (zba b k):=by
 unfold subB subS zba wfB zaM at *;have:k=0\/k=1\/k=2\/k=3:=by omega
 rcases this with rfl|rfl|rfl|rfl<;>simp at *<;>omega
section
variable {F:Type} {fails:F->List Box->Prop} {facts:List F} {boxes:List Box}
def Anti (fails:F->List Box->Prop) (facts:List F) (n:Nat):Prop:=∀ f∈facts,∀ l m,m.length=n->Wf m->SubL l m->Wf l->fails f m->fails f l
def zZ (l:List Box) (i k:Nat):List Box:=match l[i]? with
 | some b=>l.set i (zba b k)
 | none=>l
def cutL (l:List Box) (i k:Nat):List Box:=match l[i]? with
 | some b=>l.set i (cutB b k)
 | none=>l
theorem zaQ {l:List Box} {i:Nat} (h:i < l.length) (k:Nat):zZ l i k=l.set i (zba l[i] k):=by simp [zZ,h]
theorem zcE {l:List Box} {i:Nat} (h:i < l.length) (k:Nat):cutL l i k=l.set i (cutB l[i] k):=by simp [cutL,h]
def Stable (fails:F->List Box->Prop) (facts:List F) (l:List Box):Prop:=∀ i,i < l.length->∀ k,k < 4->∀ f∈facts,¬ fails f (zZ l i k)
structure Holds' (fails:F->List Box->Prop) (facts:List F) (boxes l:List Box):Prop where
 wf:Wf l
 sub:SubL l boxes
 all:∀ m,Wf m->SubL m boxes->Stable fails facts m->SubL m l
def IsNar (fails:F->List Box->Prop) (facts:List F) (boxes:List Box):Option (List Box)->Prop
 | some l=>Holds' fails facts boxes l/\Stable fails facts l
 | none=>∀ m,Wf m->SubL m boxes->¬ Stable fails facts m
theorem IsNar.unique {r s:Option (List Box)} (h:IsNar fails facts boxes r) (h':IsNar fails facts boxes s):r=s:=by
 cases r with
 | none=>cases s with
  | none=>rfl
  | some m=>exact absurd h'.2 (h m h'.1.wf h'.1.sub)
 | some l=>cases s with
  | none=>exact absurd h.2 (h' l h.1.wf h.1.sub)
  | some m=>rw [(h'.1.all l h.1.wf h.1.sub h.2).antisymm (h.1.all m h'.1.wf h'.1.sub h'.2)]
theorem Holds'.init (h:Wf boxes):Holds' fails facts boxes boxes:=⟨h,SubL.refl _,fun m _ hs _=>hs⟩
theorem Holds'.cut {l:List Box} (ha:Anti fails facts boxes.length) (h:Holds' fails facts boxes l) {i k:Nat} (hi:i < l.length) (hk:k < 4) {f:F} (hf:f∈facts) (hb:fails f (zZ l i k)) (ht:¬ zaM l[i] k) :
  Holds' fails facts boxes (cutL l i k):=by
 have hw:=h.wf _ (List.getElem_mem hi);rw [zcE hi]
 refine ⟨h.wf.set (ztQ hw hk ht),⟨by simp [h.sub.1],fun j h1 h2=>?_⟩,fun m hm hs hst=>?_⟩
 ·rw [List.getElem_set]
  split
  ·rename_i e;subst e;exact zhy (zsx _ _) (h.sub.2 i hi h2)
  ·exact h.sub.2 j (by simpa using h1) h2
 ·have hml:=h.all m hm hs hst;have him:i < m.length:=by rw [hml.1];exact hi
  refine ⟨by simp [hml.1],fun j h1 h2=>?_⟩
  rw [List.getElem_set]
  split
  ·rename_i e;subst e;rcases zkl (hml.2 i him hi) (hm _ (List.getElem_mem him)) hk with h3|h3
   ·exact h3
   ·exfalso;have h4:=hst i him k hk f hf;rw [zaQ him] at h4;rw [zaQ hi] at hb;exact h4 (ha f hf _ _ (by simp [h.sub.1]) (h.wf.set (zdW hw k)) (hml.set h3) (hm.set (zdW (hm _ (List.getElem_mem him)) k)) hb)
  ·exact hml.2 j h1 (by simpa using h2)
theorem Holds'.empty {l:List Box} (ha:Anti fails facts boxes.length) (h:Holds' fails facts boxes l) {i k:Nat} (hi:i < l.length) (hk:k < 4) {f:F} (hf:f∈facts) (hb:fails f (zZ l i k)) (ht:zaM l[i] k) :
  IsNar fails facts boxes none:=by
 intro m hm hs hst;have hw:=h.wf _ (List.getElem_mem hi);have hml:=h.all m hm hs hst;have him:i < m.length:=by rw [hml.1];exact hi
 have h4:=hst i him k hk f hf;rw [zaQ him] at h4;rw [zaQ hi] at hb;exact h4 (ha f hf _ _ (by simp [h.sub.1]) (h.wf.set (zdW hw k)) (hml.set (zmV (hml.2 i him hi) (hm _ (List.getElem_mem him)) hk ht)) (hm.set (zdW (hm _ (List.getElem_mem him)) k)) hb)
theorem Holds'.fail {l:List Box} (ha:Anti fails facts boxes.length) (h:Holds' fails facts boxes l) (h0:0 < l.length) {f:F} (hf:f∈facts) (hb:fails f l):IsNar fails facts boxes none:=by
 intro m hm hs hst;have hml:=h.all m hm hs hst;have him:0 < m.length:=by rw [hml.1];exact h0
 refine hst 0 him 0 (by decide) f hf ?_
 rw [zaQ him];have hs0:SubL (m.set 0 (zba m[0] 0)) l:=by
  refine SubL.trans ⟨by simp,fun j h1 h2=>?_⟩ hml
  rw [List.getElem_set]
  split
  ·rename_i e;subst e;exact zjo (hm _ (List.getElem_mem him)) 0
  ·exact zjL _
 exact ha f hf _ _ h.sub.1 h.wf hs0 (hm.set (zdW (hm _ (List.getElem_mem him)) 0)) hb
def zjg (b:Box):Nat:=(b.x.hi - b.x.lo).toNat+(b.y.hi - b.y.lo).toNat
def zbI (l:List Box):Nat:=(l.map zjg).sum
theorem zrp {b:Box} (h:wfB b) {k:Nat} (hk:k < 4) (ht:¬ zaM b k):zjg (cutB b k) < zjg b:=by
 unfold wfB cutB zaM zjg at *;have:k=0\/k=1\/k=2\/k=3:=by omega
 rcases this with rfl|rfl|rfl|rfl<;>simp at *<;>omega
theorem zoz:∀ (l:List Nat) (i a:Nat) (h:i < l.length),a < l[i]->(l.set i a).sum < l.sum
 | b::l,0,a,_,ha=>by simp at ha ⊢;omega
 | b::l,i+1,a,h,ha=>by
  have:=zoz l i a (by simpa using h) (by simpa using ha);simp;omega
theorem zfa {l:List Box} (hw:Wf l) {i k:Nat} (hi:i < l.length) (hk:k < 4) (ht:¬ zaM l[i] k):zbI (cutL l i k) < zbI l:=by
 rw [zcE hi];unfold zbI;rw [List.map_set];exact zoz _ i _ (by simpa using hi) (by simpa using zrp (hw _ (List.getElem_mem hi)) hk ht)
theorem zrY (ha:Anti fails facts boxes.length):∀ (N:Nat) (l:List Box),zbI l<=N->Holds' fails facts boxes l->∃ r,IsNar fails facts boxes r:=by
 intro N
 induction N with
 | zero =>
  intro l hN h
  by_cases hs:Stable fails facts l
  ·exact ⟨some l,h,hs⟩
  ·have:∃ i,∃ hi:i < l.length,∃ k,k < 4/\∃ f∈facts,fails f (zZ l i k):=by
    refine Classical.byContradiction fun hc=>hs fun i hi k hk f hf hb=>hc ⟨i,hi,k,hk,f,hf,hb⟩
   obtain ⟨i,hi,k,hk,f,hf,hb⟩:=this
   by_cases ht:zaM l[i] k
   ·exact ⟨none,h.empty ha hi hk hf hb ht⟩
   ·have:=zfa h.wf hi hk ht;omega
 | succ N ih =>
  intro l hN h
  by_cases hs:Stable fails facts l
  ·exact ⟨some l,h,hs⟩
  ·have:∃ i,∃ hi:i < l.length,∃ k,k < 4/\∃ f∈facts,fails f (zZ l i k):=by
    refine Classical.byContradiction fun hc=>hs fun i hi k hk f hf hb=>hc ⟨i,hi,k,hk,f,hf,hb⟩
   obtain ⟨i,hi,k,hk,f,hf,hb⟩:=this
   by_cases ht:zaM l[i] k
   ·exact ⟨none,h.empty ha hi hk hf hb ht⟩
   ·have:=zfa h.wf hi hk ht;exact ih _ (by omega) (h.cut ha hi hk hf hb ht)
theorem zkv (ha:Anti fails facts boxes.length) (hw:Wf boxes):∃ r,IsNar fails facts boxes r:=zrY ha _ boxes (Nat.le_refl _) (Holds'.init hw)
theorem Holds'.stop {l:List Box} (h:Holds' fails facts boxes l) (hs:Stable fails facts l) {r:Option (List Box)} (hr:IsNar fails facts boxes r):r=some l:=hr.unique (s:=some l) ⟨h,hs⟩
end
structure Node where
 fact:Int
 point:Int
 axis:Int
 at_:Int
 deriving Inhabited
@[simp] def Node.cells (s:Node):List PV:=[.int .i64 s.fact,.int .i64 s.point,.int .i64 s.axis,.int .i64 s.at_]
@[simp] theorem Node.eta (s:Node):(⟨s.fact,s.point,s.axis,s.at_⟩:Node)=s:=rfl
def axS (b:Box) (ax:Nat):Span:=if ax=0 then b.x else b.y
def putS (b:Box) (ax:Nat) (s:Span):Box:=if ax=0 then ⟨s,b.y⟩ else ⟨b.x,s⟩
def lowS (b:Box) (ax:Nat) (t:Int):Box:=putS b ax ⟨(axS b ax).lo,t⟩
def zdA (b:Box) (ax:Nat) (t:Int):Box:=putS b ax ⟨t+1,(axS b ax).hi⟩
def lowL (l:List Box) (i ax:Nat) (t:Int):List Box:=match l[i]? with
 | some b=>l.set i (lowS b ax t)
 | none=>l
def za2 (l:List Box) (i ax:Nat) (t:Int):List Box:=match l[i]? with
 | some b=>l.set i (zdA b ax t)
 | none=>l
theorem zcH {l:List Box} {i:Nat} (h:i < l.length) (ax:Nat) (t:Int):lowL l i ax t=l.set i (lowS l[i] ax t):=by simp [lowL,h]
theorem zbS {l:List Box} {i:Nat} (h:i < l.length) (ax:Nat) (t:Int):za2 l i ax t=l.set i (zdA l[i] ax t):=by simp [za2,h]
structure Proper (l:List Box) (i ax:Nat) (t:Int):Prop where
 il:i < l.length
 al:ax < 2
 lo:(axS (l[i]'il) ax).lo<=t
 hi:t < (axS (l[i]'il) ax).hi
def muB (b:Box):Nat:=(b.x.hi - b.x.lo).toNat+(b.y.hi - b.y.lo).toNat
def muL (l:List Box):Nat:=(l.map muB).sum
theorem zk4:∀ {l:List Nat} {i a:Nat} (h:i < l.length),(l.set i a).sum+l[i]=l.sum+a
 | [],i,a,h=>by simp at h
 | x::l,0,a,h=>by simp;omega
 | x::l,i+1,a,h=>by
  have:=zk4 (l:=l) (i:=i) (a:=a) (by simpa using h);simp only [List.set_cons_succ,List.sum_cons,List.getElem_cons_succ];omega
theorem znx {l:List Box} {i:Nat} (h:i < l.length) (b:Box):muL (l.set i b)+muB l[i]=muL l+muB b:=by
 unfold muL;have:=zk4 (l:=l.map muB) (i:=i) (a:=muB b) (by simpa using h);rw [List.map_set]
 simpa using this
theorem zkT {l:List Box} {i ax:Nat} {t:Int} (h:Proper l i ax t):muL (lowL l i ax t) < muL l:=by
 have hil:=h.il;rw [zcH hil];have h1:=znx hil (lowS l[i] ax t);have h2:=h.lo;have h3:=h.hi;have h4:=h.al;unfold muB lowS putS axS at *
 by_cases e:ax=0
 ·simp only [e,if_true] at *;omega
 ·simp only [e,if_false] at *;omega
theorem zhj {l:List Box} {i ax:Nat} {t:Int} (h:Proper l i ax t):muL (za2 l i ax t) < muL l:=by
 have hil:=h.il;rw [zbS hil];have h1:=znx hil (zdA l[i] ax t);have h2:=h.lo;have h3:=h.hi;have h4:=h.al;unfold muB zdA putS axS at *
 by_cases e:ax=0
 ·simp only [e,if_true] at *;omega
 ·simp only [e,if_false] at *;omega
inductive FitsT (bad:Int->List Box->Prop):List Box->List Node->Prop
 | leaf (l:List Box) (f:Int) (h:bad f l):FitsT bad l [⟨f,0,0,0⟩]
 | node (l:List Box) (i ax:Nat) (t:Int) (ta tb:List Node) (h:Proper l i ax t) (ha:FitsT bad (lowL l i ax t) ta) (hb:FitsT bad (za2 l i ax t) tb):FitsT bad l (⟨-1,i,ax,t⟩::(ta++tb))
def zfT (badF:List Box->Int) (ch:List Box->Option (Nat×Nat×Int)):Nat->List Box->List Node
 | 0,_=>[]
 | n+1,l=>if 0<=badF l then [⟨badF l,0,0,0⟩] else match ch l with
  | none=>[]
  | some c=>⟨-1,c.1,c.2.1,c.2.2⟩::(zfT badF ch n (lowL l c.1 c.2.1 c.2.2)++zfT badF ch n (za2 l c.1 c.2.1 c.2.2))
theorem zkO {badF:List Box->Int} {ch:List Box->Option (Nat×Nat×Int)} {bad:Int->List Box->Prop} (hbad:∀ l,0<=badF l->bad (badF l) l) {Pot:List Box->Nat->Prop} (h1:∀ l b,Pot l b->1<=b)
  (hs:∀ l b,Pot l b->badF l < 0->∃ i ax t,ch l=some (i,ax,t)/\Proper l i ax t/\∃ ba bb,ba+bb<=b/\Pot (lowL l i ax t) ba/\Pot (za2 l i ax t) bb) :
  ∀ n l b,Pot l b->muL l < n->FitsT bad l (zfT badF ch n l)/\(zfT badF ch n l).length+1<=2*b
 | 0,l,b,_,h=>by omega
 | n+1,l,b,hp,hm=>by
  unfold zfT
  by_cases h0:0<=badF l
  ·rw [if_pos h0];exact ⟨.leaf l _ (hbad l h0),by have:=h1 l b hp;simp only [List.length_cons,List.length_nil];omega⟩
  ·rw [if_neg h0];obtain ⟨i,ax,t,hc,hpr,ba,bb,hb,hpa,hpb⟩:=hs l b hp (by omega);rw [hc];have ma:=zkT hpr;have mb:=zhj hpr;obtain ⟨fa,la⟩:=zkO hbad h1 hs n (lowL l i ax t) ba hpa (by omega);obtain ⟨fb,lb⟩:=zkO hbad h1 hs n (za2 l i ax t) bb hpb (by omega)
   refine ⟨.node l i ax t _ _ hpr fa fb,?_⟩
   simp only [List.length_cons,List.length_append];omega
def zbQ (b:Box):Nat:=(b.x.hi - b.x.lo+1).toNat*(b.y.hi - b.y.lo+1).toNat
def volN (l:List Box):List Nat->Nat
 | []=>1
 | i::r=>zbQ l[i]! * volN l r
theorem zgv {b:Box} (h:wfB b):1<=zbQ b:=by
 unfold zbQ;unfold wfB at h;exact Nat.mul_pos (by omega) (by omega)
theorem zhR {l:List Box} (hw:Wf l):∀ {part:List Nat},(∀ i∈part,i < l.length)->1<=volN l part
 | [],_=>Nat.le_refl _
 | i::r,h=>by
  have hi:=h i List.mem_cons_self;have h1:=zgv (hw _ (List.getElem_mem hi));have h2:=zhR hw (part:=r) fun j hj=>h j (List.mem_cons_of_mem _ hj);simp only [volN,getElem!_pos l i hi];exact Nat.mul_pos h1 h2
theorem zmm {l:List Box} {i:Nat} {b:Box}:∀ {part:List Nat},i ∉ part->volN (l.set i b) part=volN l part
 | [],_=>rfl
 | j::r,h=>by
  have hj:i≠j:=fun e=>h (e ▸ List.mem_cons_self);simp only [volN,List.getElem!_eq_getElem?_getD,List.getElem?_set_ne hj];rw [zmm fun hm=>h (List.mem_cons_of_mem _ hm)]
theorem zh7 {l:List Box} {i:Nat} (hi:i < l.length) {b1 b2:Box} (ha:zbQ b1+zbQ b2=zbQ l[i]):∀ {part:List Nat},part.Nodup->i∈part->volN (l.set i b1) part+volN (l.set i b2) part=volN l part
 | [],_,h=>by simp at h
 | j::r,hn,h=>by
  have hn':=List.nodup_cons.1 hn
  by_cases e:i=j
  ·subst e;simp only [volN,zmm hn'.1];rw [getElem!_pos (l.set i b1) i (by simpa using hi),getElem!_pos (l.set i b2) i (by simpa using hi),getElem!_pos l i hi,List.getElem_set_self,List.getElem_set_self,<- Nat.add_mul,ha]
  ·have hir:i∈r:=by
    rcases List.mem_cons.1 h with h|h
    ·exact absurd h e
    ·exact h
   have ih:=zh7 hi ha hn'.2 hir;simp only [volN,List.getElem!_eq_getElem?_getD,List.getElem?_set_ne e];rw [<- Nat.mul_add,ih]
theorem zno {b:Box} {ax:Nat} {t:Int} (h1:(axS b ax).lo<=t) (h2:t < (axS b ax).hi):zbQ (lowS b ax t)+zbQ (zdA b ax t)=zbQ b:=by
 unfold zbQ lowS zdA putS axS at *
 by_cases e:ax=0
 ·simp only [e,if_true] at *;rw [<- Nat.add_mul]
  congr 1
  omega
 ·simp only [e,if_false] at *;rw [<- Nat.mul_add]
  congr 1
  omega
theorem zkn {b:Box} {ax:Nat} {t:Int} (hw:wfB b) (h1:(axS b ax).lo<=t) (h2:t < (axS b ax).hi):wfB (lowS b ax t)/\wfB (zdA b ax t)/\subB (lowS b ax t) b/\subB (zdA b ax t) b:=by
 unfold wfB lowS zdA putS axS subB subS at *
 by_cases e:ax=0
 ·simp only [e,if_true] at *;omega
 ·simp only [e,if_false] at *;omega
theorem zqU {l:List Box} {i ax:Nat} (hi:i < l.length) (ha:ax < 2):lowL l i ax (axS l[i] ax).lo=zZ l i (2*ax)/\za2 l i ax (axS l[i] ax).lo=cutL l i (2*ax):=by
 rw [zcH hi,zbS hi,zaQ hi,zcE hi];have:ax=0\/ax=1:=by omega
 rcases this with rfl|rfl<;>simp [lowS,zdA,putS,axS,zba,cutB]
theorem zpB {l:List Box} {i ax:Nat} (hi:i < l.length) (ha:ax < 2):lowL l i ax ((axS l[i] ax).hi - 1)=cutL l i (2*ax+1)/\za2 l i ax ((axS l[i] ax).hi - 1)=zZ l i (2*ax+1):=by
 rw [zcH hi,zbS hi,zaQ hi,zcE hi];have:ax=0\/ax=1:=by omega
 rcases this with rfl|rfl<;>simp [lowS,zdA,putS,axS,zba,cutB]
section
variable {F:Type} {fails:F->List Box->Prop} {facts:List F} {boxes:List Box}
def BadL (fails:F->List Box->Prop) (facts:List F) (l:List Box):Prop:=∃ f∈facts,fails f l
inductive PotT (fails:F->List Box->Prop) (facts:List F) (boxes:List Box) (part:List Nat):Option (List Box)->List Box->Nat->Prop
 | bad (r:Option (List Box)) (l:List Box) (b:Nat) (h:BadL fails facts l) (hb:1<=b):PotT fails facts boxes part r l b
 | out (N l:List Box) (b:Nat) (h:Holds' fails facts boxes l) (hb:muL l+volN N part<=b+muL N):PotT fails facts boxes part (some N) l b
 | inn (N l:List Box) (b:Nat) (h:SubL l N) (hw:Wf l) (hb:volN l part<=b):PotT fails facts boxes part (some N) l b
 | none (l:List Box) (b:Nat) (h:Holds' fails facts boxes l) (hb:muL l+1<=b):PotT fails facts boxes part none l b
theorem zth:∀ {l m:List Box},SubL l m->muL l<=muL m:=by
 intro l
 induction l with
 | nil=>intro m h;simp [muL]
 | cons a l ih =>
  intro m h
  cases m with
  | nil=>have:=h.1;simp at this
  | cons b m =>
   have h0:=h.2 0 (by simp) (by simp);have hs:SubL l m:=⟨by simpa using h.1,fun i h1 h2=>h.2 (i+1) (by simpa using h1) (by simpa using h2)⟩
   have:=ih hs;unfold subB subS at h0;simp only [List.getElem_cons_zero] at h0;have hm:muB a<=muB b:=by unfold muB;omega
   unfold muL at *;simp only [List.map_cons,List.sum_cons];omega
theorem zqs {l:List Box} {i k:Nat} (hi:i < l.length) (hk:k < 4) (ht:¬ zaM l[i] k) (hw:wfB l[i]):muL (cutL l i k)+1=muL l:=by
 rw [zcE hi];have h1:=znx hi (cutB l[i] k);have hk4:k=0\/k=1\/k=2\/k=3:=by omega
 unfold muB cutB zaM wfB at *;rcases hk4 with rfl|rfl|rfl|rfl<;>simp at *<;>omega
def zbi (loose:List Box->Option (Nat×Nat)) (wide:List Box->Nat×Nat) (l:List Box):Option (Nat×Nat×Int):=match loose l with
 | some s=>some (s.1,s.2 / 2,if s.2 % 2=0 then (axS l[s.1]! (s.2 / 2)).lo else (axS l[s.1]! (s.2 / 2)).hi - 1)
 | none=>if (axS l[(wide l).1]! (wide l).2).lo=(axS l[(wide l).1]! (wide l).2).hi then none else
   some ((wide l).1,(wide l).2,(axS l[(wide l).1]! (wide l).2).lo+((axS l[(wide l).1]! (wide l).2).hi - (axS l[(wide l).1]! (wide l).2).lo) / 2)
structure TreeIn (fails:F->List Box->Prop) (facts:List F) (boxes:List Box) (part:List Nat) (loose:List Box->Option (Nat×Nat)) (wide:List Box->Nat×Nat):Prop where
 nodup:part.Nodup
 lt:∀ i∈part,i < boxes.length
 some:∀ l i k,l.length=boxes.length->Wf l->loose l=some (i,k)->i∈part/\k < 4/\∃ h:i < l.length,¬ zaM l[i] k/\∃ f∈facts,fails f (zZ l i k)
 none:∀ l,l.length=boxes.length->Wf l->loose l=none->¬ BadL fails facts l->Stable fails facts l
 wide:∀ l,l.length=boxes.length->Wf l->SubL l boxes->¬ BadL fails facts l->(wide l).1∈part/\(wide l).2 < 2/\∃ h:(wide l).1 < l.length,(axS l[(wide l).1] (wide l).2).lo < (axS l[(wide l).1] (wide l).2).hi
variable {part:List Nat} {loose:List Box->Option (Nat×Nat)} {wide:List Box->Nat×Nat} {r:Option (List Box)}
theorem PotT.pos {l:List Box} {b:Nat} (hr:IsNar fails facts boxes r) (hlt:∀ i∈part,i < boxes.length) (h:PotT fails facts boxes part r l b):1<=b:=by
 cases h with
 | bad _ _ _ _ hb=>exact hb
 | out N _ _ h hb =>
  have hs:SubL N l:=h.all N hr.1.wf hr.1.sub hr.2;have h1:=zth hs;have h2:=zhR hr.1.wf (part:=part) fun i hi=>by rw [hr.1.sub.1];exact hlt i hi
  omega
 | inn N _ _ h hw hb =>
  have h2:=zhR hw (part:=part) fun i hi=>by rw [h.1,hr.1.sub.1];exact hlt i hi
  omega
 | none _ _ h hb=>omega
theorem zfp {l:List Box} {i k:Nat} (hk:k < 4) (hi:i < l.length) (ht:¬ zaM l[i] k) (hw:wfB l[i]) {Q:List Box->Nat->Prop} {b:Nat} (h1:Q (zZ l i k) 1) (h2:Q (cutL l i k) b) :
  Proper l i (k / 2) (if k % 2=0 then (axS l[i]! (k / 2)).lo else (axS l[i]! (k / 2)).hi - 1)/\∃ ba bb,ba+bb<=b+1/\Q (lowL l i (k / 2) (if k % 2=0 then (axS l[i]! (k / 2)).lo else (axS l[i]! (k / 2)).hi - 1)) ba/\Q (za2 l i (k / 2) (if k % 2=0 then (axS l[i]! (k / 2)).lo else (axS l[i]! (k / 2)).hi - 1)) bb:=by
 rw [getElem!_pos l i hi];have hlo:(axS l[i] (k / 2)).lo < (axS l[i] (k / 2)).hi:=by
  unfold zaM at ht;unfold wfB at hw;unfold axS;have hk4:k=0\/k=1\/k=2\/k=3:=by omega
  rcases hk4 with rfl|rfl|rfl|rfl<;>simp at *<;>omega
 by_cases e:k % 2=0
 ·rw [if_pos e];obtain ⟨s1,s2⟩:=zqU (l:=l) (i:=i) (ax:=k / 2) hi (by omega);rw [show 2*(k / 2)=k by omega] at s1 s2;exact ⟨⟨hi,by omega,Int.le_refl _,hlo⟩,1,b,by omega,by rw [s1];exact h1,by rw [s2];exact h2⟩
 ·rw [if_neg e];obtain ⟨s1,s2⟩:=zpB (l:=l) (i:=i) (ax:=k / 2) hi (by omega);rw [show 2*(k / 2)+1=k by omega] at s1 s2;exact ⟨⟨hi,by omega,by omega,by omega⟩,b,1,by omega,by rw [s1];exact h2,by rw [s2];exact h1⟩
theorem zsi {N l:List Box} {i ax:Nat} {t:Int} (hn:part.Nodup) (hs:SubL l N) (hw:Wf l) (hp:Proper l i ax t) (hi:i∈part):volN (lowL l i ax t) part+volN (za2 l i ax t) part=volN l part/\SubL (lowL l i ax t) N/\SubL (za2 l i ax t) N/\Wf (lowL l i ax t)/\Wf (za2 l i ax t):=by
 have hil:=hp.il;obtain ⟨w1,w2,s1,s2⟩:=zkn (hw _ (List.getElem_mem hil)) hp.lo hp.hi;rw [zcH hil,zbS hil];have g1:=(SubL.refl l).set (i:=i) s1;have g2:=(SubL.refl l).set (i:=i) s2;rw [List.set_getElem_self] at g1 g2;exact ⟨zh7 hil (zno hp.lo hp.hi) hn hi,g1.trans hs,g2.trans hs,hw.set w1,hw.set w2⟩
theorem zmj {N l:List Box} {b:Nat} (hr:IsNar fails facts boxes (some N)) (ti:TreeIn fails facts boxes part loose wide) (hs:SubL l N) (hw:Wf l) (hv:volN l part<=b) (hb:¬ BadL fails facts l) :
  ∃ i ax t,zbi loose wide l=some (i,ax,t)/\Proper l i ax t/\∃ ba bb,ba+bb<=b/\PotT fails facts boxes part (some N) (lowL l i ax t) ba/\PotT fails facts boxes part (some N) (za2 l i ax t) bb:=by
 have hl:l.length=boxes.length:=hs.1.trans hr.1.sub.1;have fin:∀ i ax t,Proper l i ax t->i∈part->∃ ba bb,ba+bb<=b/\PotT fails facts boxes part (some N) (lowL l i ax t) ba/\PotT fails facts boxes part (some N) (za2 l i ax t) bb:=fun i ax t hp hi=>by
  obtain ⟨h1,h2,h3,h4,h5⟩:=zsi ti.nodup hs hw hp hi;exact ⟨_,_,by omega,.inn N _ _ h2 h4 (Nat.le_refl _),.inn N _ _ h3 h5 (Nat.le_refl _)⟩
 cases hlo:loose l with
 | some s =>
  obtain ⟨i,k⟩:=s;obtain ⟨hi,hk,hil,ht,_⟩:=ti.some l i k hl hw hlo;have hp:=(zfp hk hil ht (hw _ (List.getElem_mem hil)) (Q:=fun _ _=>True) (b:=0) trivial trivial).1;exact ⟨i,k / 2,_,by simp only [zbi,hlo],hp,fin _ _ _ hp hi⟩
 | none =>
  obtain ⟨hi,hax,hil,hlt⟩:=ti.wide l hl hw (hs.trans hr.1.sub) hb;have hp:Proper l (wide l).1 (wide l).2 ((axS l[(wide l).1]! (wide l).2).lo+((axS l[(wide l).1]! (wide l).2).hi - (axS l[(wide l).1]! (wide l).2).lo) / 2):=by
   rw [getElem!_pos l _ hil];exact ⟨hil,hax,by omega,by omega⟩
  refine ⟨(wide l).1,(wide l).2,_,?_,hp,fin _ _ _ hp hi⟩
  simp only [zbi,hlo];rw [if_neg];rw [getElem!_pos l _ hil];omega
theorem zrm {l:List Box} {b:Nat} (ha:Anti fails facts boxes.length) (hr:IsNar fails facts boxes r) (ti:TreeIn fails facts boxes part loose wide) (h:PotT fails facts boxes part r l b) (hb:¬ BadL fails facts l) :
  ∃ i ax t,zbi loose wide l=some (i,ax,t)/\Proper l i ax t/\∃ ba bb,ba+bb<=b/\PotT fails facts boxes part r (lowL l i ax t) ba/\PotT fails facts boxes part r (za2 l i ax t) bb:=by
 have hpos:=h.pos hr ti.lt
 cases h with
 | bad _ _ _ h _=>exact absurd h hb
 | inn N _ _ hs hw hv=>exact zmj hr ti hs hw hv hb
 | out N _ _ hh hm =>
  cases hlo:loose l with
  | some s =>
   obtain ⟨i,k⟩:=s;obtain ⟨hi,hk,hil,ht,f,hf,hfl⟩:=ti.some l i k hh.sub.1 hh.wf hlo;have hw:=hh.wf _ (List.getElem_mem hil);have hmu:=zqs hil hk ht hw;obtain ⟨hp,ba,bb,h1,h2,h3⟩:=zfp hk hil ht hw (Q:=PotT fails facts boxes part (some N)) (b:=b - 1) (.bad _ _ _ ⟨f,hf,hfl⟩ (Nat.le_refl _)) (.out N _ _ (hh.cut ha hil hk hf hfl ht) (by omega));exact ⟨i,k / 2,_,by simp only [zbi,hlo],hp,ba,bb,by omega,h2,h3⟩
  | none =>
   have hst:=ti.none l hh.sub.1 hh.wf hlo hb;have e:=IsNar.unique (r:=some l) (s:=some N) ⟨hh,hst⟩ hr;simp only [Option.some.injEq] at e;subst e;exact zmj hr ti (SubL.refl _) hh.wf (by omega) hb
 | none _ _ hh hm =>
  cases hlo:loose l with
  | some s =>
   obtain ⟨i,k⟩:=s;obtain ⟨hi,hk,hil,ht,f,hf,hfl⟩:=ti.some l i k hh.sub.1 hh.wf hlo;have hw:=hh.wf _ (List.getElem_mem hil);have hmu:=zqs hil hk ht hw;obtain ⟨hp,ba,bb,h1,h2,h3⟩:=zfp hk hil ht hw (Q:=PotT fails facts boxes part none) (b:=b - 1) (.bad _ _ _ ⟨f,hf,hfl⟩ (Nat.le_refl _)) (.none _ _ (hh.cut ha hil hk hf hfl ht) (by omega));exact ⟨i,k / 2,_,by simp only [zbi,hlo],hp,ba,bb,by omega,h2,h3⟩
  | none=>exact absurd (ti.none l hh.sub.1 hh.wf hlo hb) (hr l hh.wf hh.sub)
def topV (r:Option (List Box)) (part:List Nat):Nat:=match r with
 | some N=>volN N part
 | none=>1
theorem zqD {badF:List Box->Int} {badN:Int->List Box->Prop} (hbadN:∀ l,0<=badF l->badN (badF l) l) (hbadF:∀ l,badF l < 0->¬ BadL fails facts l) (ha:Anti fails facts boxes.length) (hw:Wf boxes) (hr:IsNar fails facts boxes r) (ti:TreeIn fails facts boxes part loose wide) (n:Nat) (hn:muL boxes < n) :
  FitsT badN boxes (zfT badF (zbi loose wide) n boxes)/\(zfT badF (zbi loose wide) n boxes).length+1<=2*(muL boxes+topV r part):=by
 refine zkO (Pot:=PotT fails facts boxes part r) hbadN (fun l b h=>h.pos hr ti.lt) (fun l b h hb=>zrm ha hr ti h (hbadF l hb)) n boxes _ ?_ hn
 cases r with
 | some N=>exact .out N _ _ (.init hw) (by simp only [topV];omega)
 | none=>exact .none _ _ (.init hw) (by simp only [topV];omega)
end
end Go.Proofs.YtmmhnfghklppiaaGreat.Vm
