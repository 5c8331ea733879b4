/- The library's sort of numbers, as the machine of values runs it, by its contract. Contracts of functions of Go's library for the machine of values: slices.Sort, Clone, Delete, Compact, IndexFunc. Appending in a chain: onto an empty literal, and rows of more than one. Maps: what single operations come to; sets of numbers, and tables from numbers. Problems, as data. -/
import Derived.Test.YtmmhnfghklppiaaPk7
import Derived.Sort.Grow
import Derived.Sort.Row
import Derived.CallsIn
import Derived.Test.YtmmhnfghklppiaaPk8
namespace Go.Proofs.Ytmmhnfghklppiaa.Vm
open Go Go.RowKit
set_option linter.unusedVariables false
def ins (a:Int):List Int→List Int
 | []=>[a]
 | b::l=>if a≤b then a::b::l else b::ins a l
def isort:List Int→List Int
 | []=>[]
 | a::l=>ins a (isort l)
theorem ins_perm (a:Int):∀ l:List Int,(ins a l).Perm (a::l)
 | []=>List.Perm.refl _
 | b::l=>by
  unfold ins
  split
  ·exact List.Perm.refl _
  ·exact ((ins_perm a l).cons b).trans (List.Perm.swap a b l)
theorem isort_perm:∀ l:List Int,(isort l).Perm l
 | []=>List.Perm.refl _
 | a::l=>(ins_perm a (isort l)).trans ((isort_perm l).cons a)
theorem ins_sorted (a:Int):∀ {l:List Int},l.Pairwise (·≤·)→(ins a l).Pairwise (·≤·)
 | [],_=>by simp [ins]
 | b::l,h=>by
  have h1:=List.pairwise_cons.1 h;unfold ins
  split
  ·rename_i hab
   refine List.pairwise_cons.2 ⟨fun x hx=>?_,h⟩
   rcases List.mem_cons.1 hx with rfl|hx
   ·exact hab
   ·exact Int.le_trans hab (h1.1 x hx)
  ·rename_i hab
   refine List.pairwise_cons.2 ⟨fun x hx=>?_,ins_sorted a h1.2⟩
   rcases List.mem_cons.1 ((ins_perm a l).mem_iff.1 hx) with rfl|hx
   ·omega
   ·exact h1.1 x hx
theorem isort_sorted:∀ l:List Int,(isort l).Pairwise (·≤·)
 | []=>List.Pairwise.nil
 | a::l=>ins_sorted a (isort_sorted l)
theorem isort_length (l:List Int):(isort l).length=l.length:=(isort_perm l).length_eq
theorem mergeSort_isort (l:List Int):(l.mergeSort fun x y=>decide (x≤y))=isort l:=by
 have h1:(l.mergeSort fun x y=>decide (x≤y)).Pairwise (fun a b=>decide (a≤b)=true):=List.pairwise_mergeSort (fun a b c h h'=>by simp at *;omega) (fun a b=>by simp;omega) l
 refine List.Perm.eq_of_pairwise (le:=fun a b=>a≤b) (fun a b _ _ h h'=>Int.le_antisymm h h') (h1.imp fun h=>by simpa using h) (isort_sorted l) ((List.mergeSort_perm l _).trans (isort_perm l).symm)
def intsOf:List AV→Option (List Int)
 | []=>some []
 | .pure (.int .i64 z)::l=>(intsOf l).map (z :: ·)
 | _=>none
theorem intsOf_eq:∀ {l:List AV} {zs:List Int},intsOf l=some zs→l=zs.map fun z=>.pure (.int .i64 z)
 | [],zs,h=>by simp [intsOf] at h;subst h;rfl
 | c::l,zs,h=>by
  unfold intsOf at h
  split at h
  ·rename_i h0;cases h0
  ·rename_i z l' h0;simp only [List.cons.injEq] at h0;obtain ⟨rfl,rfl⟩:=h0;rw [Option.map_eq_some_iff] at h;obtain ⟨ys,hy,rfl⟩:=h;rw [intsOf_eq hy];rfl
  ·simp at h
def sortRun (args:List AV) (H:Heap):Option (AV×Heap) :=
 match args with
 | [.row id 1 off n]=>match H.get id with
  | .cells true cs=>if off+n≤cs.length∧n≤maxCells then match intsOf ((cs.drop off).take n) with
    | some zs=>some (.tup [],H.set id (.cells true (cs.take off++(isort zs).map (fun z=>AV.pure (.int .i64 z))++cs.drop (off+n))))
    | none=>none else none
  | _=>none
 | _=>none
theorem sort_runOk {C:Comp} {P:Program} {f:Nat} (hf:FnOk P f)
  (hc:∀ (blk off cap:Nat) (zs:List Int) (w:World),Sort.Holds (Value.int .i64) w blk off zs.toArray→blk < w.heap.size→zs.length < 4611686018427387904 →
   Calls P f #[.slice (some ⟨blk,off,none⟩) zs.length cap] w fun e w'=>e=.returned (.tuple #[])∧∃ n os,w'=Sort.grow (Sort.putRow (Value.int .i64) (Sort.ahead w n) blk off (zs.mergeSort fun x y=>decide (x≤y)).toArray) os)
  {args:List AV} {H H':Heap} {r:AV} (h:sortRun args H=some (r,H')):RunOk C P f args H r H':=by
 refine ⟨hf,fun k S base φ w vals hH hv=>?_⟩
 unfold sortRun at h
 split at h
 ·rename_i id off n
  split at h
  ·rename_i cs hg
   split at h
   ·rename_i hcond
    split at h
    ·rename_i zs hz;simp only [Option.some.injEq,Prod.mk.injEq] at h;obtain ⟨rfl,rfl⟩:=h;obtain ⟨v,vs',rfl,h1,h2⟩:=hv.cons_inv;have:=h2.nil_inv;subst this;obtain ⟨b,m,cap,hid,rfl,hcap,hfull⟩:=h1.row_inv;have ho:=hH.obj _ _ _ hid;rw [hg] at ho;obtain ⟨c,e,fz,q1,q2,q3,q4,q5⟩:=ho;have hzs:=intsOf_eq hz;have hzl:zs.length=n:=by
      have:((cs.drop off).take n).length=n:=by simp;omega
      rw [hzs] at this
      simpa using this
     have hcell:∀ j,j < zs.length→c[off+j]?=some (.int .i64 zs[j]!):=fun j hj=>by
      have ha:cs[off+j]?=some (.pure (.int .i64 zs[j]!)):=by
       have h3:((cs.drop off).take n)[j]?=some (.pure (.int .i64 zs[j]!)):=by
        rw [hzs,List.getElem?_map,List.getElem?_eq_getElem hj];simp [hj]
       rw [List.getElem?_take_of_lt (by omega),List.getElem?_drop] at h3;exact h3
      have hjs:off+j < c.size:=by omega
      have hcv:c[off+j]?=some c[off+j]:=Array.getElem?_eq_getElem hjs;have:=(q5 _ _ _ ha hcv).int_inv;rw [hcv,this]
     have hholds:Sort.Holds (Value.int .i64) w b off zs.toArray:=fun j hj=>by
      have hj':j < zs.length:=by simpa using hj
      refine ⟨?_,?_⟩
      ·simp only [World.cell?,q1];rw [hcell j hj'];simp
      ·have hjs:off+j < c.size:=by omega
       simp only [World.frozen?,q1];have:=q4 (off+j) (by omega)
       simpa using this
     have hbs:b < w.heap.size:=(hH.lt _ _ _ hid).2;have hrun:=hc b off cap zs w hholds hbs (by rw [hzl];have:=hcond.2;simp only [maxCells] at this;omega);rw [hzl] at hrun;rw [Nat.mul_one]
     refine (callsIn_wide.2 hrun).mono ?_
     rintro e' w' ⟨rfl,n',os,rfl⟩;rw [mergeSort_isort];have hput:(Sort.putRow (Value.int .i64) (Sort.ahead w n') b off (isort zs).toArray).heap[b]?=some (.cells (Sort.putCells (Value.int .i64) off (isort zs).toArray c) e fz):=by
      simp [Sort.putRow,Sort.mapBlock,Sort.ahead,Array.getElem?_modify,q1,Sort.onCells]
     have hw2:=hH.write (o:=.cells true (cs.take off++(isort zs).map (fun z=>AV.pure (.int .i64 z))++cs.drop (off+n))) (w':=Sort.putRow (Value.int .i64) (Sort.ahead w n') b off (isort zs).toArray) hid (by rw [hg];rfl) rfl rfl rfl (by simp [Sort.ahead]) (fun c' hc'=>by
       simp [Sort.putRow,Sort.mapBlock,Sort.ahead,Array.getElem?_modify,hc'.symm]) ⟨_,e,fz,hput,by simp [Sort.putCells,q2],by
       have:=isort_length zs;simp only [List.length_append,List.length_take,List.length_map,List.length_drop];omega,q4,fun j a v ha hv=>?_⟩
     ·have hgrow:Below (Sort.putRow (Value.int .i64) (Sort.ahead w n') b off (isort zs).toArray).heap.size (Sort.putRow (Value.int .i64) (Sort.ahead w n') b off (isort zs).toArray) (Sort.grow (Sort.putRow (Value.int .i64) (Sort.ahead w n') b off (isort zs).toArray) os):=by
       refine ⟨rfl,rfl,rfl,by simp [Sort.grow],fun c' hc'=>?_⟩
       simp only [Sort.grow];rw [Array.getElem?_append_left hc']
      exact ⟨_,φ,rfl,hw2.1.trans (Evo.of_below hgrow),hw2.2.below hgrow,.tup [] #[] rfl fun i p v h=>by simp at h⟩
     ·-- each cell
      have hjl:=(List.getElem?_eq_some_iff.1 ha).1;have hil:=isort_length zs;simp only [List.length_append,List.length_take,List.length_map,List.length_drop] at hjl;have hjs:j < c.size:=by omega
      have hcj:c[j]?=some c[j]:=Array.getElem?_eq_getElem hjs;have hsame:∀ k b',Imm S base φ H w k b'→Imm S base φ H w k b'∧(Sort.putRow (Value.int .i64) (Sort.ahead w n') b off (isort zs).toArray).heap[b']?=w.heap[b']?:=fun k b' hb'=>⟨hb',by
       have hne:b≠b':=fun e=>hb'.2.2 ⟨id,m,by rw [← e];exact hid,by rw [hg];rfl⟩;simp [Sort.putRow,Sort.mapBlock,Sort.ahead,Array.getElem?_modify,hne]⟩
      simp only [Sort.putCells,Array.getElem?_mapIdx,hcj,Option.map_some,Option.some.injEq] at hv
      by_cases hin:off≤j∧j < off+n
      ·rw [if_pos ⟨hin.1,by simp [hil,hzl];exact hin.2⟩] at hv;have hlo:¬ j < (cs.take off).length:=by simp;omega
       rw [List.append_assoc,List.getElem?_append_right (by simp;omega)] at ha;have e1:j - (cs.take off).length=j - off:=by simp;omega
       rw [e1,List.getElem?_append_left (by simp;omega),List.getElem?_map,List.getElem?_eq_getElem (by omega)] at ha;simp only [Option.map_some,Option.some.injEq] at ha;subst ha;subst hv;have hlt:j - off < (isort zs).length:=by omega
       have:((isort zs).toArray[j - off]! : Int)=(isort zs)[j - off]:=by simp [hlt]
       rw [this];exact .pure _ _ (.int _ _)
      ·rw [if_neg (by simp [hil,hzl];omega)] at hv;subst hv;have haj:cs[j]?=some a:=by
        by_cases hlo:j < off
        ·rw [List.append_assoc,List.getElem?_append_left (by simp;omega),List.getElem?_take_of_lt hlo] at ha;exact ha
        ·rw [List.getElem?_append_right (by simp;omega)] at ha;rw [List.getElem?_drop] at ha;have e2:off+n+(j - (cs.take off++(isort zs).map (fun z=>AV.pure (.int .i64 z))).length)=j:=by simp;omega
         rw [e2] at ha;exact ha
       exact (q5 j a c[j] haj hcj).mono hsame (fun _ _ h=>h)
    ·simp at h
   ·simp at h
  ·simp at h
 ·simp at h
open Go
set_option linter.unusedSimpArgs false
set_option maxHeartbeats 4000000
def wpS (rs:List VRes) (k:AV→Heap→Prop) (x:VExit) (env:Env) (H:Heap):Prop:=(∀ i,x≠.exit i)∧∃ v,results env H rs=some v∧k v H
@[simp] theorem wpS_ret {rs:List VRes} {k:AV→Heap→Prop} {env:Env} {H:Heap}:wpS rs k .ret env H↔∃ v,results env H rs=some v∧k v H:=by simp [wpS]
@[simp] theorem wpS_normal {rs:List VRes} {k:AV→Heap→Prop} {env:Env} {H:Heap}:wpS rs k .normal env H↔∃ v,results env H rs=some v∧k v H:=by simp [wpS]
section
variable {G:Prog} {n:Nat} {H:Heap}
theorem call_of {f:Nat} {fn:VFunc} {args:List AV} {k:AV→Heap→Prop} (hr:G.extRun f args H=none) (hf:G.func f=some fn) (hl:args.length=fn.nargs)
  (h:wp (calleeOf G n) fn.body (initEnv args) H (wpS fn.results k) .mk):∃ v H',Vm.call G (n+1) (.fn f) args H=some (v,H')∧k v H':=by
 obtain ⟨x,e,h',h1,h2,v,h3,h4⟩:=h
 refine ⟨v,h',?_,h4⟩
 rw [call_fn,hr,hf];simp only [hl,if_true,h1]
 cases x with
 | exit i=>exact absurd rfl (h2 i)
 | normal=>simp only [h3]
 | ret=>simp only [h3]
theorem wpE_run {f:Nat} {caps:List PV} {args:List AV} {k:AV→Heap→Prop} {u} (hs:G.shared f=true) (h:∃ v H',Vm.call G (n+1) (.fn f) (args++caps.map .pure) H=some (v,H')∧k v H') :
  wpE 0 (doCall (calleeOf G (n+1)) H (.pure (.func f caps)) args) H k u:=by
 obtain ⟨v,H',h1,h2⟩:=h
 refine ⟨.upd v H',?_,by simp,h2⟩
 have hs':(calleeOf G (n+1)).shared f=true:=hs;have h1':(calleeOf G (n+1)).run f (args++caps.map .pure) H=some (v,H'):=h1;simp only [doCall,hs',if_true,h1']
theorem wpE_own {f:Nat} {caps:List PV} {args:List AV} {ps:List PV} {r:PV} {pre:Nat} {k:AV→Heap→Prop} {u} (hs:G.shared f=false) (ha:FrzL H true depthF (args++caps.map .pure) ps) (h:callP G n f ps=some r) (hc:r.cold=true)
  (hk:k (.pure r) H):wpE pre (doCall (calleeOf G n) H (.pure (.func f caps)) args) H k u:=by
 obtain ⟨ids,ha⟩:=ha
 refine ⟨.val (.pure r),?_,by simp [isUpd],hk⟩
 have hs':(calleeOf G n).shared f=false:=hs;have h':(calleeOf G n).pure f ps=some r:=h;simp only [doCall,hs',Bool.false_eq_true,if_false,ha,h',hc,Bool.or_true,if_true]
end
section
variable {α:Type} {f:α→List PV} {sz:Nat} {H:Heap} {v:AV} {l:List α}
theorem rowOf_nil:rowOf f ([]:List α)=[]:=rfl
theorem rowOf_cons (a:α) (l:List α):rowOf f (a::l)=(f a).map .pure++rowOf f l:=by simp [rowOf]
theorem rowOf_take (hf:∀ a,(f a).length=sz):∀ (l:List α) (i:Nat),(rowOf f l).take (i*sz)=rowOf f (l.take i)
 | [],i=>by simp [rowOf]
 | a::l,0=>by simp [rowOf]
 | a::l,i+1=>by
  have h3:(List.map AV.pure (f a)).length=sz:=by rw [List.length_map,hf]
  rw [List.take_succ_cons,rowOf_cons,rowOf_cons,Nat.add_mul,Nat.one_mul,Nat.add_comm,← h3,List.take_length_add_append,h3,rowOf_take hf l i]
theorem rowOf_drop (hf:∀ a,(f a).length=sz):∀ (l:List α) (i:Nat),(rowOf f l).drop (i*sz)=rowOf f (l.drop i)
 | [],i=>by simp [rowOf]
 | a::l,0=>by simp [rowOf]
 | a::l,i+1=>by
  have h3:(List.map AV.pure (f a)).length=sz:=by rw [List.length_map,hf]
  rw [List.drop_succ_cons,rowOf_cons,Nat.add_mul,Nat.one_mul,Nat.add_comm,← h3,List.drop_length_add_append,h3,rowOf_drop hf l i]
theorem rowOf_one' (hone:∀ a,(f a).all PV.one=true) (l:List α):(rowOf f l).all AV.one=true:=by
 induction l with
 | nil=>rfl
 | cons a l ih=>rw [rowOf_cons,List.all_append,ih,all_one_pures _ (hone a)];rfl
theorem rowOf_puresL (l:List α):rowOf f l=((l.map f).flatten).map .pure:=by simp [rowOf,List.map_flatten,Function.comp_def]
theorem sliceCells_sl' (hf:∀ a,(f a).length=sz) (s:Sl α):sliceCells H sz (.pure (s.pv f sz))=some (rowOf f s.xs,s.xs.length):=by
 rw [sliceCells_sl hf,rowOf_puresL]
theorem OwnV.slice (hf:∀ a,(f a).length=sz) (h:OwnV f sz H v l):sliceCells H sz v=some (rowOf f l,l.length):=by
 rcases h with ⟨rfl,rfl⟩|⟨id,rfl,hg⟩
 ·rfl
 ·rw [sliceCells_row,hg];have:=rowOf_length hf l;simp only [rowCells];rw [if_pos (by omega),Nat.zero_mul,List.drop_zero,← this,List.take_length]
def HeadV {α:Type} (f:α→List PV) (sz:Nat) (H:Heap) (v:AV) (l:List α):Prop:=∃ id rest,v=.row id sz 0 l.length∧H.get id=.cells true (rowOf f l++rest)
theorem HeadV.frz {k:Bool} {n:Nat} (hf:∀ a,(f a).length=sz) (h:HeadV f sz H v l):FrzK H k (n+2) v (.slice k sz (l.map f)):=by
 obtain ⟨id,rest,rfl,hg⟩:=h;have hlen:=rowOf_length hf l;have hch:∀ l:List α,chunks sz l.length ((l.map f).flatten)=l.map f:=by
  intro l
  induction l with
  | nil=>rfl
  | cons a l ih =>
   simp only [List.length_cons,chunks,List.map_cons,List.flatten_cons];rw [List.take_left' (hf a),List.drop_left' (hf a),ih]
 have hlen2:((l.map f).flatten).length=l.length*sz:=by
  rw [← hlen,rowOf_puresL,List.length_map]
 refine ⟨[id],?_⟩
 have h1:((rowOf f l++rest).drop (0*sz)).take (l.length*sz)=((l.map f).flatten).map .pure:=by
  rw [Nat.zero_mul,List.drop_zero,← hlen,List.take_left',rowOf_puresL];rfl
 have hids0:freezeL (freeze H k (n+1)) (((l.map f).flatten).map .pure)=some ((l.map f).flatten,[]):=by
  generalize (l.map f).flatten=q
  induction q with
  | nil=>rfl
  | cons p ps ih=>rw [List.map_cons,freezeL,ih];rfl
 unfold freeze;simp only [hg,h1,hids0,hlen2,if_true,hch]
theorem OwnV.head (h:OwnV f sz H v l):(l=[]∧v=.pure .nils)∨HeadV f sz H v l:=by
 rcases h with h|⟨id,h1,h2⟩
 ·exact .inl h
 ·exact .inr ⟨id,[],h1,by rw [List.append_nil];exact h2⟩
end
theorem row_sl {α:Type} {f:α→List PV} {sz n:Nat} {H:Heap} {id m:Nat} {l:List α} (hf:∀ a,(f a).length=sz) (hg:H.get id=.cells true (rowOf f l)) (hl:l.length=m):∃ s:Sl α,s.xs=l∧FrzK H true (n+2) (.row id sz 0 m) (s.pv f sz):=by
 subst hl;exact ⟨.mk true l,rfl,HeadV.frz hf ⟨id,[],rfl,by rw [List.append_nil];exact hg⟩⟩
theorem row_res {α:Type} {f:α→List PV} {sz n:Nat} {H:Heap} {id m:Nat} {l:List α} (hf:∀ a,(f a).length=sz) (hg:H.get id=.cells true (rowOf f l)) (hl:l.length=m):FrzK H false (n+2) (.row id sz 0 m) ((Sl.mk false l).pv f sz):=by
 subst hl;exact HeadV.frz hf ⟨id,[],rfl,by rw [List.append_nil];exact hg⟩
def cloneC (sz bytes:Nat):VFunc:=⟨1,8,[(.tmp 2)],(.seq (.region none [⟨(some 2),(.mov (.const .nils)),none⟩]) (.seq (.seq (.region none [⟨(some 3),(.mov (.tmp 0)),none⟩,⟨(some 4),(.bin .eql .slice (.tmp 3) (.const .nils)),none⟩]) (.cond (.tmp 4) (.seq (.region none [⟨(some 2),(.mov (.const .nils)),none⟩]) .ret) .skip)) (.seq (.region none [⟨(some 5),(.buildSlice sz [] []),none⟩,⟨(some 6),(.mov (.tmp 0)),none⟩,⟨(some 7),(.append sz bytes (.tmp 5) (.tmp 6)),none⟩,⟨(some 2),(.mov (.tmp 7)),none⟩]) .ret)))⟩
theorem vbin_slNil {v:AV} {b:Bool} (h:isNil .slice v=some b):vbin .eql .slice v (.pure .nils)=some (.pure (.bool b)):=by
 have h1:eqB .slice v (.pure .nils)=some b:=by
  have h0:isNil .slice (.pure .nils)=some true:=rfl
  cases b<;>simp only [eqB,h,h0]
 cases v with
 | pure p=>cases p<;>simp only [vbin,h1,Option.map_some]<;>simp [isNil] at h
 | _=>simp only [vbin,h1,Option.map_some]
section
variable {α:Type} {f:α→List PV} {sz:Nat} {H:Heap} {v:AV} {l:List α} {G:Prog} {n:Nat}
theorem clone_call {g bytes:Nat} {b:Bool} {k:AV→Heap→Prop} (hx:∀ H,G.extRun g [v] H=none) (hg:G.func g=some (cloneC sz bytes)) (hv:sliceCells H sz v=some (rowOf f l,l.length)) (hn:isNil .slice v=some b) (hnl:b=true→l=[])
  (hf:∀ a,(f a).length=sz) (h0:0 < sz) (hone:∀ a,(f a).all PV.one=true) (hm:l.length*sz≤maxCells∧l.length*bytes≤maxCells)
  (hk:∀ v' H',OwnV f sz H' v' l→isNil .slice v'=some b→H.nx≤H'.nx→(∀ id,id < H.nx→H'.get id=H.get id)→(∀ id,Names v' id→H.nx≤id)→k v' H') :
  ∃ v' H',Vm.call G (n+1) (.fn g) [v] H=some (v',H')∧k v' H':=by
 refine call_of (hx H) hg rfl ?_
 simp only [cloneC];have h1:=vbin_slNil hn
 cases b with
 | true =>
  have hl:=hnl rfl;subst hl;have:=hk (.pure .nils) H OwnV.nil rfl (Nat.le_refl _) (fun _ _=>rfl) (fun id ⟨_,_,_,h⟩=>by simp at h);simp [initEnv,h1,this]
 | false =>
  simp only [wp_seq,wp_region,wpO_cons,seqQ_normal,st_mov,wpE_val,Option.getD_none,putAt_some,eval_const,wpO_nil,eval_tmp,upd_apply,initEnv,st_bin,wp_cond];simp [h1];have hsame:sliceCells (H.alloc (.cells true [])) sz v=some (rowOf f l,l.length):=by
   cases v with
   | row id s o m =>
    simp only [sliceCells] at hv ⊢
    split at hv
    ·rename_i hs;rw [if_pos hs]
     split at hv
     ·rename_i cs hc;rw [get_alloc_lt (nx_of_get hc),hc];exact hv
     ·simp at hv
    ·simp at hv
   | pure p=>cases p<;>exact hv
   | _=>exact hv
  have ho:=rowOf_one' hone l;have hz:(if sz=0 then 0 else 0 / sz)=0:=by split<;>simp
  try rw [hz]
  have hi0:initEnv [v] 0=v:=rfl;rw [hi0];have hlen:=rowOf_length hf l
  cases l with
  | nil =>
   have hap:doAppend (H.alloc (.cells true [])) sz bytes (.row H.nx sz 0 0) v=some (.upd (.row H.nx sz 0 0) ((H.alloc (.cells true [])).set H.nx (.cells true []))):=by
    simp only [doAppend,hsame,ho,get_alloc_nx];simp [rowOf]
   rw [hap];simp
   refine hk _ _ (.inr ⟨H.nx,rfl,?_⟩) rfl (by simp) (fun id hid=>?_) (fun id ⟨_,_,_,h⟩=>?_)
   ·rw [get_set_own (by simp)];rfl
   ·rw [get_set_ne (by omega),get_alloc_lt hid]
   ·simp at h;omega
  | cons a l =>
   have hap:doAppend (H.alloc (.cells true [])) sz bytes (.row H.nx sz 0 0) v=some (.upd (.row (H.nx+1) sz 0 (a::l).length) (((H.alloc (.cells true [])).set H.nx .dead).alloc (.cells true (rowOf f (a::l))))):=by
    simp only [doAppend,hsame,ho,get_alloc_nx];have hp:0 < (a::l).length*sz:=Nat.mul_pos (by simp) h0;simp only [Bool.not_true,Bool.false_eq_true,if_false,if_true,Nat.zero_mul,Nat.zero_add,List.length_nil];rw [if_neg (by omega)];simp only [true_and,nx_alloc,List.nil_append];rw [if_pos hm]
   rw [hap];simp
   refine hk _ _ (.inr ⟨H.nx+1,by simp,?_⟩) rfl (by simp;omega) (fun id hid=>?_) (fun id ⟨_,_,_,h⟩=>?_)
   ·exact get_alloc_same' (by simp)
   ·rw [get_alloc_lt (by simp;omega),get_set_ne (by omega),get_alloc_lt hid]
   ·simp at h;omega
end
section
variable {H:Heap} {v:AV} {l:List Int} {G:Prog} {n:Nat}
theorem intsOf_map:∀ (l:List Int),intsOf (rowOf intF l)=some l
 | []=>rfl
 | a::l=>by
  have:=intsOf_map l;rw [rowOf_cons];simp only [intF,List.map_cons,List.map_nil,List.singleton_append,intsOf,this,Option.map_some]
theorem sortRun_own (h:HeadV intF 1 H v l) (hl:l.length≤maxCells):∃ H',sortRun [v] H=some (.tup [],H')∧HeadV intF 1 H' v (isort l)∧H'.nx=H.nx∧(∀ id,¬ Names v id→H'.get id=H.get id)∧(∀ id,v=.row id 1 0 l.length→H.get id=.cells true (rowOf intF l)→H'.get id=.cells true (rowOf intF (isort l))):=by
 obtain ⟨id,rest,rfl,hg⟩:=h;have hlen:(rowOf intF l).length=l.length:=by rw [rowOf_length (sz:=1) (fun _=>rfl)];omega
 have h1:((rowOf intF l++rest).drop 0).take l.length=rowOf intF l:=by rw [List.drop_zero,← hlen,List.take_left'];rfl
 have h2:∀ zs:List Int,zs.map (fun z=>AV.pure (.int .i64 z))=rowOf intF zs:=by
  intro zs
  induction zs with
  | nil=>rfl
  | cons a l ih=>rw [List.map_cons,rowOf_cons,ih];rfl
 have h3:(rowOf intF l++rest).drop (0+l.length)=rest:=by rw [Nat.zero_add,← hlen,List.drop_left'];rfl
 refine ⟨H.set id (.cells true (rowOf intF (isort l)++rest)),?_,⟨id,rest,by rw [isort_length],get_set_own (nx_of_get hg)⟩,rfl,fun i hi=>get_set_ne fun e=>hi ⟨1,0,l.length,e ▸ rfl⟩,fun i hi hgi=>?_⟩
 ·simp only [sortRun,hg,h1,intsOf_map,h2,h3];rw [if_pos ⟨by simp [hlen],hl⟩];simp
 ·simp at hi;subst hi;rw [hg] at hgi;simp at hgi;rw [get_set_own (nx_of_get hg),hgi,List.append_nil]
end
def indexFuncC (sz:Nat) (g:Bool):VFunc:=⟨2,19,[(.tmp 4)],(.seq (.region none [⟨(some 4),(.mov (.const (.int .i64 0))),none⟩]) (.seq (.seq (.region none [⟨(some 6),(.mov (.tmp 0)),none⟩,⟨(some 7),(.lenSl (.tmp 6)),none⟩,⟨(some 8),(.mov (.const (.int .i64 0))),none⟩]) (.block 0 (.loop (.seq (.region none [⟨(some 9),(.bin .lss .num (.tmp 8) (.tmp 7)),none⟩]) (.seq (.cond (.tmp 9) .skip (.exit 0)) (.seq (.block 1 (.seq (.region none [⟨(some 10),(.mov (.tmp 8)),none⟩,⟨(some 5),(.mov (.tmp 10)),none⟩]) (.seq (.region none [⟨(some 11),(.mov (.tmp 1)),none⟩,⟨(some 12),(.mov (.tmp 0)),none⟩,⟨(some 13),(.mov (.tmp 5)),none⟩,⟨(some 14),(.indexAddr sz none (.tmp 12) (.tmp 13)),none⟩,⟨(some 15),(.load g sz (.tmp 14)),none⟩,⟨(some 16),(.call (.tmp 11) [(.tmp 15)]),none⟩]) (.cond (.tmp 16) (.seq (.region none [⟨(some 17),(.mov (.tmp 5)),none⟩,⟨(some 4),(.mov (.tmp 17)),none⟩]) .ret) .skip)))) (.region none [⟨(some 18),(.bin .add .num (.tmp 8) (.const (.int .i64 1))),none⟩,⟨(some 8),(.mov (.tmp 18)),none⟩]))))))) (.seq (.region none [⟨(some 4),(.mov (.const (.int .i64 (-1)))),none⟩]) .ret)))⟩
def idxL {α:Type} (q:α→Bool):List α→Nat→Int
 | [],_=>-1
 | a::l,i=>if q a=true then i else idxL q l (i+1)
theorem idxL_drop {α:Type} {q:α→Bool} {l:List α} {i:Nat} (h:i < l.length):idxL q (l.drop i) i=if q l[i]=true then (i:Int) else idxL q (l.drop (i+1)) (i+1):=by
 rw [List.drop_eq_getElem_cons h,idxL]
section
variable {α:Type} {f:α→List PV} {sz:Nat} {G:Prog} {n:Nat}
theorem indexFunc_call {t:Nat} {g:Bool} {p:PV} {q:α→Bool} {s:Sl α} (hx:G.ext t=none) (hr:∀ a H,G.extRun t a H=none) (hg:G.func t=some (indexFuncC sz g)) (hf:∀ a,(f a).length=sz) (hlen:s.xs.length < 1152921504606846975)
  (hc:∀ H a,a∈s.xs→∃ v,ofCells g ((f a).map .pure)=some v∧doCall (calleeOf G n) H (.pure p) [v]=some (.val (.pure (.bool (q a))))):callP G (n+1) t [s.pv f sz,p]=some (.int .i64 (idxL q s.xs 0)):=by
 refine callP_of hx (hr _ _) hg rfl ?_
 simp only [indexFuncC];simp [initEnv]
 refine wp_loopF [(4,5),(8,18)] (fun (i:Nat) env H=>env 8=.pure (.int .i64 i)∧i≤s.xs.length∧Hide (idxL q s.xs 0=idxL q (s.xs.drop i) i)) (fun i=>s.xs.length - i) 0 ?_ ?_ ?_ ?_
 ·rfl
 ·simp [initEnv]
 ·simp only [loopFuel];omega
 rintro i env H ⟨h8,hi,hq⟩;have hfit:i < 9223372036854775807:=by omega
 simp [*,initEnv]
 refine wpIf_intro (fun h=>?_) (fun h=>?_)
 ·have hlt:i < s.xs.length:=by simpa using h
  obtain ⟨v,hv,hcall⟩:=hc H s.xs[i] (List.getElem_mem hlt);have hld:List.take sz (List.map AV.pure (f s.xs[i]))=(f s.xs[i]).map .pure:=List.take_of_length_le (by rw [List.length_map,hf];exact Nat.le_refl _);simp [*,initEnv]
  refine wpIf_intro (fun h2=>?_) (fun h2=>?_)
  ·have h9:idxL q s.xs 0=i:=by rw [hq.h,idxL_drop hlt,if_pos h2]
   simp [h9]
  ·simp [*]
   refine ⟨i+1,by omega,by simp,by omega,⟨?_⟩⟩
   rw [hq.h,idxL_drop hlt,if_neg (by simp [h2])]
 ·have hge:s.xs.length≤i:=by simpa using h
  have h9:idxL q s.xs 0=-1:=by rw [hq.h,List.drop_eq_nil_of_le hge];rfl
  simp [h9]
end
def goC (last:Option Int):List Int→List Int
 | []=>[]
 | a::r=>if last=some a then goC last r else a::goC (some a) r
def compactL (l:List Int):List Int:=goC none l
theorem goC_snoc (x:Int):∀ (l:List Int) (last:Option Int),goC last (l++[x])=goC last l++(if (l.getLast?.or last)=some x then [] else [x])
 | [],last=>by
  by_cases h:last=some x<;>simp [goC,h]
 | a::r,last=>by
  simp only [List.cons_append,goC];have hl:∀ o:Option Int,(r.getLast?.or (some a))=((a::r).getLast?.or o):=by
   intro o
   cases r with
   | nil=>rfl
   | cons b r=>rw [List.getLast?_cons_cons,List.getLast?_eq_some_getLast (by simp)];rfl
  split
  ·rename_i h;rw [goC_snoc x r last,h,hl (some a)]
  ·rw [goC_snoc x r (some a),hl last];rfl
theorem compactL_succ {l:List Int} {j:Nat} (h0:0 < j) (h:j < l.length):compactL (l.take (j+1))=compactL (l.take j)++(if l[j-1]'(by omega)=l[j] then [] else [l[j]]):=by
 rw [← take_succ' h,compactL,goC_snoc];have:(l.take j).getLast?=some (l[j-1]'(by omega)):=by
  rw [List.getLast?_eq_getElem?,List.length_take,Nat.min_eq_left (by omega),List.getElem?_take_of_lt (by omega),List.getElem?_eq_getElem]
 rw [this];simp only [Option.some_or,Option.some.injEq];rfl
theorem goC_le:∀ (l:List Int) (last:Option Int),(goC last l).length≤l.length
 | [],last=>Nat.le_refl _
 | a::r,last=>by
  simp only [goC]
  split
  ·have:=goC_le r last;simp;omega
  ·have:=goC_le r (some a);simp;omega
def compactC:VFunc:=⟨1,61,[(.tmp 2)],(.seq (.region none [⟨(some 2),(.mov (.const .nils)),none⟩]) (.seq (.seq (.region none [⟨(some 6),(.mov (.tmp 0)),none⟩,⟨(some 7),(.lenSl (.tmp 6)),none⟩,⟨(some 8),(.bin .lss .num (.tmp 7) (.const (.int .i64 2))),none⟩]) (.cond (.tmp 8) (.seq (.region none [⟨(some 9),(.mov (.tmp 0)),none⟩,⟨(some 2),(.mov (.tmp 9)),none⟩]) .ret) .skip)) (.seq (.seq (.region none [⟨(some 3),(.mov (.const (.int .i64 1))),none⟩]) (.block 0 (.loop (.seq (.seq (.region none [⟨(some 10),(.mov (.tmp 3)),none⟩,⟨(some 11),(.mov (.tmp 0)),none⟩,⟨(some 12),(.lenSl (.tmp 11)),none⟩,⟨(some 13),(.bin .lss .num (.tmp 10) (.tmp 12)),none⟩]) (.cond (.tmp 13) .skip (.exit 0))) (.seq (.block 1 (.seq (.region (some 9) [⟨(some 16),(.mov (.tmp 0)),none⟩,⟨(some 17),(.mov (.tmp 3)),none⟩,⟨(some 18),(.indexAddr 1 none (.tmp 16) (.tmp 17)),none⟩,⟨(some 19),(.load false 1 (.tmp 18)),none⟩,⟨(some 20),(.mov (.tmp 0)),none⟩,⟨(some 21),(.mov (.tmp 3)),none⟩,⟨(some 22),(.bin .sub .num (.tmp 21) (.const (.int .i64 1))),none⟩,⟨(some 23),(.indexAddr 1 none (.tmp 20) (.tmp 22)),none⟩,⟨(some 24),(.load false 1 (.tmp 23)),none⟩,⟨(some 25),(.bin .eql .num (.tmp 19) (.tmp 24)),none⟩]) (.cond (.tmp 25) (.seq (.region none [⟨(some 26),(.mov (.tmp 0)),none⟩,⟨(some 27),(.mov (.tmp 3)),none⟩,⟨(some 28),(.slice 1 (.tmp 26) (some (.tmp 27)) none),none⟩,⟨(some 4),(.mov (.tmp 28)),none⟩]) (.seq (.seq (.region none [⟨(some 5),(.mov (.const (.int .i64 1))),none⟩]) (.block 2 (.loop (.seq (.seq (.region none [⟨(some 29),(.mov (.tmp 5)),none⟩,⟨(some 30),(.mov (.tmp 4)),none⟩,⟨(some 31),(.lenSl (.tmp 30)),none⟩,⟨(some 32),(.bin .lss .num (.tmp 29) (.tmp 31)),none⟩]) (.cond (.tmp 32) .skip (.exit 2))) (.seq (.block 3 (.seq (.region (some 9) [⟨(some 35),(.mov (.tmp 4)),none⟩,⟨(some 36),(.mov (.tmp 5)),none⟩,⟨(some 37),(.indexAddr 1 none (.tmp 35) (.tmp 36)),none⟩,⟨(some 38),(.load false 1 (.tmp 37)),none⟩,⟨(some 39),(.mov (.tmp 4)),none⟩,⟨(some 40),(.mov (.tmp 5)),none⟩,⟨(some 41),(.bin .sub .num (.tmp 40) (.const (.int .i64 1))),none⟩,⟨(some 42),(.indexAddr 1 none (.tmp 39) (.tmp 41)),none⟩,⟨(some 43),(.load false 1 (.tmp 42)),none⟩,⟨(some 44),(.bin .neq .num (.tmp 38) (.tmp 43)),none⟩]) (.cond (.tmp 44) (.seq (.region none [⟨(some 45),(.mov (.tmp 0)),none⟩,⟨(some 46),(.mov (.tmp 3)),none⟩,⟨(some 47),(.mov (.tmp 4)),none⟩,⟨(some 48),(.mov (.tmp 5)),none⟩,⟨(some 49),(.indexAddr 1 none (.tmp 47) (.tmp 48)),none⟩,⟨(some 50),(.load false 1 (.tmp 49)),none⟩,⟨(some 51),(.indexAddr 1 none (.tmp 45) (.tmp 46)),none⟩,⟨none,(.store 1 (.tmp 51) (.tmp 50)),none⟩]) (.region none [⟨(some 52),(.mov (.tmp 3)),none⟩,⟨(some 53),(.bin .add .num (.tmp 52) (.const (.int .i64 1))),none⟩,⟨(some 3),(.mov (.tmp 53)),none⟩])) .skip))) (.region none [⟨(some 33),(.mov (.tmp 5)),none⟩,⟨(some 34),(.bin .add .num (.tmp 33) (.const (.int .i64 1))),none⟩,⟨(some 5),(.mov (.tmp 34)),none⟩])))))) (.seq (.region none [⟨(some 54),(.mov (.tmp 0)),none⟩,⟨(some 55),(.mov (.tmp 3)),none⟩,⟨(some 56),(.slice 1 (.tmp 54) (some (.tmp 55)) none),none⟩,⟨none,(.clear [(.int .i64 0)] (.tmp 56)),none⟩]) (.seq (.region none [⟨(some 57),(.mov (.tmp 0)),none⟩,⟨(some 58),(.mov (.tmp 3)),none⟩,⟨(some 59),(.slice 1 (.tmp 57) none (some (.tmp 58))),none⟩,⟨(some 2),(.mov (.tmp 59)),none⟩]) .ret)))) .skip))) (.region none [⟨(some 14),(.mov (.tmp 3)),none⟩,⟨(some 15),(.bin .add .num (.tmp 14) (.const (.int .i64 1))),none⟩,⟨(some 3),(.mov (.tmp 15)),none⟩])))))) (.seq (.region none [⟨(some 60),(.mov (.tmp 0)),none⟩,⟨(some 2),(.mov (.tmp 60)),none⟩]) .ret))))⟩
section
variable {H:Heap} {v:AV} {l:List Int} {G:Prog} {n:Nat}
@[simp] theorem putIn_rowI {l:List Int} {i:Nat} {x:Int} (h:i < l.length):putIn (.cells true (rowOf intF l)) 1 i [.pure (.int .i64 x)]=some (.cells true (rowOf intF (l.set i x))):=by
 have hlen:∀ l:List Int,(rowOf intF l).length=l.length:=fun l=>by rw [rowOf_length (sz:=1) (fun _=>rfl)];omega
 simp only [putIn];rw [if_pos ⟨rfl,by simp,rfl,by rw [hlen];omega⟩];have h1:=rowOf_take (f:=intF) (sz:=1) (fun _=>rfl) l i;have h2:=rowOf_drop (f:=intF) (sz:=1) (fun _=>rfl) l (i+1);rw [Nat.mul_one] at h1 h2;rw [h1,h2,List.set_eq_take_append_cons_drop,if_pos h,rowOf_append,rowOf_cons,List.append_assoc];rfl
theorem rowOf_zeros:∀ (m:Nat),rowOf intF (List.replicate m 0)=(List.replicate m [AV.pure (.int .i64 0)]).flatten
 | 0=>rfl
 | m+1=>by rw [List.replicate_succ,rowOf_cons,rowOf_zeros m,List.replicate_succ,List.flatten_cons];rfl
@[simp] theorem clearIn_rowI {l:List Int} {off len:Nat} (h:off+len=l.length):clearIn (.cells true (rowOf intF l)) [.int .i64 0] off len=some (.cells true (rowOf intF (l.take off)++rowOf intF (List.replicate len 0))):=by
 have hlen:(rowOf intF l).length=l.length:=by rw [rowOf_length (sz:=1) (fun _=>rfl)];omega
 have h1:=rowOf_take (f:=intF) (sz:=1) (fun _=>rfl) l off;rw [Nat.mul_one] at h1;simp only [clearIn,List.length_singleton,Nat.mul_one];rw [if_pos (by omega),h1,List.drop_eq_nil_of_le (by omega),List.append_nil,rowOf_zeros];rfl
theorem compact_call {g id m:Nat} {k:AV→Heap→Prop} (hx:∀ a H,G.extRun g a H=none) (hg:G.func g=some compactC) (hv:H.get id=.cells true (rowOf intF l)) (hlen:l.length < 1073741824) (hm:m=l.length)
  (hk:∀ v' H',HeadV intF 1 H' v' (compactL l)→H'.nx=H.nx→(∀ i,i≠id→H'.get i=H.get i)→Names v' id→k v' H') :
  ∃ v' H',Vm.call G (n+1) (.fn g) [.row id 1 0 m] H=some (v',H')∧k v' H':=by
 subst hm
 refine call_of (hx _ _) hg rfl ?_
 simp only [compactC];have hrl:∀ l:List Int,(rowOf intF l).length=l.length:=fun l=>by rw [rowOf_length (sz:=1) (fun _=>rfl)];omega
 (repeat' first|simp [*,initEnv]|(apply wpIf_two<;>intro _ h<;>try simp [-Nat.le_zero_eq] at h))
 ·have h1:compactL l=l:=by
   match l,(show l.length < 2 by omega) with
   | [],_=>rfl
   | [a],_=>rfl
  exact hk _ _ ⟨id,[],by rw [h1],by rw [h1,List.append_nil];exact hv⟩ rfl (fun _ _=>rfl) ⟨_,_,_,rfl⟩
 have h2:2≤l.length:=by omega
 refine wp_loopF [(2,5),(10,59)] (fun (i:Nat) env H'=>env 3=.pure (.int .i64 i)∧1≤i∧i≤l.length∧H'=H∧Hide (compactL (l.take i)=l.take i)) (fun i=>l.length - i) 1 ?_ ?_ ?_ ?_
 ·rfl
 ·simp
  refine ⟨by omega,⟨?_⟩⟩
  match l,h2 with
  | a::b::l,_=>rfl
 ·simp only [loopFuel];omega
 rintro i env H' ⟨h3,h1i,hi,rfl,hc⟩;have hfit:i < 9223372036854775807:=by omega
 have hp1:i - 1 < l.length:=by omega
 have hp0:0 < i:=by omega
 (repeat' first|simp [*,initEnv]|(apply wpIf_two<;>intro _ h<;>try simp [-Nat.le_zero_eq] at h))
 ·have hlt:i < l.length:=by assumption
  have heq:l[i]=l[i-1]:=by assumption
  have hi0:¬ (i=0):=by omega
  have hnl:¬ (l.length=i):=by omega
  refine wp_loopF [(3,3),(5,5),(29,53)] (fun (s:List Int×Nat×Nat) env H''=>env 3=.pure (.int .i64 s.2.1)∧env 5=.pure (.int .i64 s.2.2)∧H''.get id=.cells true (rowOf intF s.1)∧H''.nx=H'.nx∧(∀ j,j≠id→H''.get j=H'.get j) ∧
   Hide (s.1.length=l.length∧s.1.take s.2.1=compactL (l.take (i+s.2.2))∧s.1.drop (i+s.2.2 - 1)=l.drop (i+s.2.2 - 1)∧1≤s.2.1∧s.2.1≤i+s.2.2 - 1∧1≤s.2.2∧i+s.2.2≤l.length)) (fun s=>l.length - s.2.2) (l,i,1) ?_ ?_ ?_ ?_
  ·rfl
  ·refine ⟨by simp [*],by simp,hv,rfl,fun _ _=>rfl,⟨rfl,?_,rfl,by show 1≤i;omega,by show i≤i+1 - 1;omega,by show 1≤1;omega,by show i+1≤l.length;omega⟩⟩
   show l.take i=compactL (l.take (i+1));rw [compactL_succ hp0 hlt,if_pos heq.symm,hc.h,List.append_nil]
  ·simp only [loopFuel];omega
  rintro ⟨cur,kk,k2⟩ env2 H2 ⟨h3',h5',hg2,hnx,hoth,hh⟩;simp only at h3' h5' hg2 hnx hoth hh;have hfit2:k2 < 9223372036854775807:=by have:=hh.h;omega
  have hfit3:kk < 9223372036854775807:=by have:=hh.h;omega
  have hid2:=nx_of_get hg2;have hid3:id < H'.nx:=by omega
  have hp2:0 < k2:=by have:=hh.h;omega
  obtain ⟨⟨f1,f2,f3,f4,f5,f6,f7⟩⟩:=hh;have ea:∀ (h:k2 < l.length - i),i+k2 < l.length:=fun h=>by omega
  have eb:i+(k2 - 1) < l.length:=by omega
  have ec:∀ (h:k2 < l.length - i),k2 - 1 < l.length - i:=fun h=>by omega
  have ed:kk < l.length:=by omega
  have eg:kk+(l.length - kk)=l.length:=by omega
  have eh:¬ (kk=0):=by omega
  have ei:¬ (l.length=kk):=by omega
  have ej:kk≤l.length:=by omega
  have hE:Hide (i+(k2 - 1)=i+k2 - 1):=⟨by omega⟩
  have fa:∀ (h:i+k2 < cur.length),cur[i+k2]=l[i+k2]'(by omega):=fun h=>by
   have:=congrArg (fun x=>x[1]?) f3;simp only [List.getElem?_drop] at this;rw [List.getElem?_eq_getElem (by omega),List.getElem?_eq_getElem (by omega)] at this;have h9:i+k2 - 1+1=i+k2:=by omega
   simp only [h9] at this;exact Option.some.inj this
  have fb:cur[i+(k2 - 1)]'(by omega)=l[i+k2 - 1]'(by omega):=by
   have:=congrArg (fun x=>x[0]?) f3;simp only [List.getElem?_drop,Nat.add_zero] at this;rw [List.getElem?_eq_getElem (by omega),List.getElem?_eq_getElem (by omega)] at this;simp only [hE.h];exact Option.some.inj this
  have fc:∀ (h:k2 < l.length - i),compactL (l.take (i+k2+1))=compactL (l.take (i+k2))++(if l[i+k2 - 1]'(by omega)=l[i+k2]'(by omega) then [] else [l[i+k2]'(by omega)]):=fun h=>compactL_succ (by omega) (by omega);have fd:∀ x (_:k2 < l.length - i),cur.drop (i+k2)=l.drop (i+k2)∧(cur.set kk x).drop (i+k2)=l.drop (i+k2):=fun x h=>by
   have h9:i+k2=(i+k2 - 1)+1:=by omega
   have h8:cur.drop (i+k2)=l.drop (i+k2):=by rw [h9,← List.drop_drop,f3,List.drop_drop]
   exact ⟨h8,by rw [List.drop_set_of_lt (by omega)];exact h8⟩
  clear f3 hv hc
  rename cur.take kk=_=>f2
  have f2':Hide (cur.take kk=compactL (l.take (i+k2))):=⟨f2⟩
  have fa':Hide (∀ (h:i+k2 < cur.length),cur[i+k2]=l[i+k2]'(by omega)):=⟨fa⟩
  have fb':Hide (cur[i+(k2 - 1)]'(by omega)=l[i+k2 - 1]'(by omega)):=⟨fb⟩
  clear f2 fa fb;(repeat' first|simp [*,initEnv]|(apply wpIf_two<;>intro _ h<;>try simp [-Nat.le_zero_eq] at h))
  ·have hk2:k2 < l.length - i:=by assumption
   have he:cur[i+k2]'(by have:=ea hk2;omega)=cur[i+(k2 - 1)]'(by omega):=by assumption
   refine ⟨cur,kk,k2+1,?_⟩
   have key:compactL (l.take (i+k2))=compactL (l.take (i+(k2+1))):=by
    rw [← Nat.add_assoc,fc hk2,← fb'.h,← fa'.h (by have:=ea hk2;omega),if_pos he.symm,List.append_nil]
   and_intros
   all_goals first
    | omega
    | exact hoth
    | rfl
    | exact ⟨⟨f1,by rw [f2'.h,key],(fd 0 hk2).1,by omega,by omega,by omega,by omega⟩⟩
  ·have hk2:k2 < l.length - i:=by assumption
   have hne:¬ cur[i+k2]'(by have:=ea hk2;omega)=cur[i+(k2 - 1)]'(by omega):=by assumption
   refine ⟨cur.set kk (cur[i+k2]'(by have:=ea hk2;omega)),kk+1,k2+1,?_⟩
   have key:(cur.set kk (cur[i+k2]'(by have:=ea hk2;omega))).take (kk+1)=compactL (l.take (i+(k2+1))):=by
    rw [← Nat.add_assoc,fc hk2,← f2'.h,← fb'.h,← fa'.h (by have:=ea hk2;omega),if_neg (fun e=>hne e.symm)];rw [← take_succ' (xs:=cur.set kk _) (by simp;omega)];simp [List.take_set_of_le]
   have hfin:∀ (j:Nat),¬ j=id→(H2.set id (.cells true (rowOf intF (cur.set kk (cur[i+k2]'(by have:=ea hk2;omega)))))).get j=H'.get j:=fun j hj=>by rw [get_set_ne hj];exact hoth j hj
   and_intros
   all_goals first
    | omega
    | exact hfin
    | rfl
    | exact ⟨⟨by simp [f1],key,(fd _ hk2).2,by omega,by omega,by omega,by omega⟩⟩
    | exact ⟨⟨key,(fd _ hk2).2,by omega,by omega,by omega,by omega⟩⟩
  ·have hk2:i+k2=l.length:=by omega
   have f9:=f2'.h;rw [hk2,List.take_length] at f9;have f10:(compactL l).length=kk:=by rw [← f9,List.length_take];omega
   refine hk _ _ ⟨id,rowOf intF (List.replicate (l.length - kk) 0),by rw [f10],?_⟩ (by simpa using hnx) (fun j hj=>by rw [get_set_ne hj];exact hoth j hj) ⟨_,_,_,rfl⟩
   rw [get_set_own hid2,f9]
 ·have hlt:i < l.length:=by assumption
  have hne:¬ l[i]=l[i-1]:=by assumption
  refine ⟨i+1,by omega,by simp,by omega,by omega,⟨?_⟩⟩
  rw [compactL_succ hp0 hlt,if_neg (fun e=>hne e.symm),hc.h,take_succ' hlt]
 ·have he:i=l.length:=by omega
  have h1:=hc.h;rw [he,List.take_length] at h1;exact hk _ _ ⟨id,[],by rw [h1],by rw [h1,List.append_nil];exact hv⟩ rfl (fun _ _=>rfl) ⟨_,_,_,rfl⟩
end
section
variable {G:Prog} {n:Nat} {H:Heap} {env:Env}
theorem wpE_yieldA {id:Nat} {r:LoopR} {args:List AV} {k:AV→Heap→Prop} {u} (hg:H.get id=.loop r) (hs:r.state=.ready) (hl:args.length=r.params.length)
  (h:wp (calleeOf G n) r.assign ((r.params.zip args).foldl (fun e x=>upd e x.1 x.2) r.env) H (fun x env2 H2=>x=.normal∧H2.get id=.loop r ∧
   wp (calleeOf G n) r.body env2 (H2.set id (.loop { r with state:=.busy })) (fun x _ H3=>x=.normal∧H3.get id=.loop { r with state:=.busy }∧k (.pure (.bool true)) (H3.set id (.loop { r with state:=.ready,pending:=.normal }))) .mk) .mk) :
  wpE 0 (doCall (calleeOf G (n+1)) H (.yield id) args) H k u:=by
 obtain ⟨x,env2,H2,h1,rfl,hg2,x3,e3,H3,h3,rfl,h4,h5⟩:=h
 refine ⟨.upd (.pure (.bool true)) (H3.set id (.loop { r with state:=.ready,pending:=.normal })),?_,by simp,h5⟩
 have hy:(calleeOf G (n+1)).yield id args H=some (.pure (.bool true),H3.set id (.loop { r with state:=.ready,pending:=.normal })):=by
  show Vm.call G (n+1) (.yield id) args H=_;have e0:Vm.call G (n+1) (.yield id) args H=(match H.get id with
   | .loop r =>
    if args.length=r.params.length then
     match exec (calleeOf G n) r.assign ((r.params.zip args).foldl (fun e x=>upd e x.1 x.2) r.env) H with
     | some (.normal,env2,H2)=>match H2.get id with
      | .loop r2=>match r2.state with
       | .ready=>match exec (calleeOf G n) r.body env2 (H2.set id (.loop { r2 with state:=.busy })) with
        | some (x,_,H3)=>match H3.get id with
         | .loop r3=>match x with
          | .normal=>some (.pure (.bool true),H3.set id (.loop { r3 with state:=.ready,pending:=.normal }))
          | x=>some (.pure (.bool false),H3.set id (.loop { r3 with state:=.done,pending:=x }))
         | _=>none
        | none=>none
       | _=>none
      | _=>none
     | _=>none
    else none
   | _=>none):=rfl
  rw [e0,hg];simp only [hl,if_true,h1,hg,hg2,hs,h3,h4]
 simp only [doCall,hy]
theorem wp_rangeFunc {f:Opnd} {params:List Nat} {assign body:VCode} {Q:VExit→Env→Heap→Prop} {g:Nat} {caps:List PV} {u} (hf:f.eval env=.pure (.func g caps))
  (h:∃ v H2,Vm.call G (n+1) (.fn g) (.yield H.nx::caps.map .pure) (H.alloc (.loop { env,params,assign,body,state:=.ready,pending:=.normal }))=some (v,H2) ∧
   H2.get H.nx=.loop { env,params,assign,body,state:=.ready,pending:=.normal }∧Q .normal env (H2.set H.nx .dead)) :
  wp (calleeOf G (n+1)) (.rangeFunc f params assign body) env H Q u:=by
 obtain ⟨v,H2,h1,h2,h3⟩:=h
 refine ⟨.normal,env,H2.set H.nx .dead,?_,h3⟩
 have h1':(calleeOf G (n+1)).run g (.yield H.nx::caps.map .pure) (H.alloc (.loop { env,params,assign,body,state:=.ready,pending:=.normal }))=some (v,H2):=h1;simp only [exec,hf,h1',h2]
end
def doAppendE (H:Heap) (sz bytes:Nat) (a b:AV):Option Eff:=match sliceCells H sz b with
  | none=>none
  | some (new,m)=>if !new.all AV.one then none else match a with
   | .void id s=>if s=sz then (if m=0 then some (.val (.row id sz 0 0)) else
     if m*sz≤maxCells∧m*bytes≤maxCells then some (.new (.cells true new) fun id=>.row id sz 0 m) else none) else none
   | _=>none
section
variable {α:Type} {f:α→List PV} {sz:Nat} {H:Heap} {v:AV} {l:List α}
theorem wpE_appendE {bytes pre id:Nat} {b:AV} {k:AV→Heap→Prop} {u} (hb:sliceCells H sz b=some (rowOf f l,l.length)) (hid:H.get id=.cells true []) (hone:∀ a,(f a).all PV.one=true)
  (hm:l.length*sz≤maxCells∧l.length*bytes≤maxCells)
  (hk:∀ v' H',OwnV f sz H' v' l→H.nx≤H'.nx→(∀ i,i < H.nx→H'.get i=H.get i)→(∀ i,Names v' i→i=id∨H.nx≤i)→k v' H'):wpE pre (doAppendE H sz bytes (.void id sz) b) H k u:=by
 have ho:=rowOf_one' hone l;simp only [doAppendE,hb,ho];simp only [Bool.not_true,Bool.false_eq_true,if_false,if_true]
 by_cases h0:l.length=0
 ·have hl:l=[]:=List.eq_nil_of_length_eq_zero h0;subst hl;rw [if_pos (show ([]:List α).length=0 from rfl),wpE_val];exact hk _ _ (.inr ⟨id,rfl,by rw [hid];rfl⟩) (Nat.le_refl _) (fun _ _=>rfl) fun i ⟨_,_,_,h⟩=>by simp at h;exact .inl h.1.symm
 ·rw [if_neg h0,if_pos hm,wpE_new]
  refine hk _ _ (.inr ⟨H.nx,rfl,get_alloc_nx _⟩) (Nat.le_succ _) (fun i hi=>get_alloc_lt hi) fun i ⟨_,_,_,h⟩=>?_
  simp at h;exact .inr (by omega)
theorem wpE_appendL {bytes:Nat} {b:AV} {m:List α} {k:AV→Heap→Prop} {u} (hv:OwnV f sz H v l) (hf:∀ a,(f a).length=sz) (h0:0 < sz) (hone:∀ a,(f a).all PV.one=true)
  (hb:sliceCells H sz b=some (rowOf f m,m.length)) (hm:(l.length+m.length)*sz≤maxCells∧(l.length+m.length)*bytes≤maxCells)
  (hk:∀ v' H',OwnV f sz H' v' (l++m)→H.nx≤H'.nx→(∀ i,i < H.nx→¬ Names v i→H'.get i=H.get i)→(∀ i,Names v' i→Names v i∨H.nx≤i)→k v' H'):wpE 0 (doAppend H sz bytes v b) H k u:=by
 have ho:=rowOf_one' hone m;rcases hv with ⟨rfl,rfl⟩|⟨id,rfl,hid⟩
 ·simp only [List.length_nil,Nat.zero_add] at hm
  by_cases hm0:m.length=0
  ·have hl:m=[]:=List.eq_nil_of_length_eq_zero hm0;subst hl;have:doAppend H sz bytes (.pure .nils) b=some (.val (.pure .nils)):=by
    simp only [doAppend,hb,ho];simp
   rw [this,wpE_val];exact hk _ _ (.inl ⟨rfl,rfl⟩) (Nat.le_refl _) (fun _ _ _=>rfl) fun i h=>.inl h
  ·have:doAppend H sz bytes (.pure .nils) b=some (.new (.cells true (rowOf f m)) fun id=>.row id sz 0 m.length):=by
    simp only [doAppend,hb,ho];simp only [Bool.not_true,Bool.false_eq_true,if_false];rw [if_neg hm0,if_pos hm]
   rw [this,wpE_new]
   refine hk _ _ (.inr ⟨H.nx,by simp,by rw [List.nil_append];exact get_alloc_nx _⟩) (Nat.le_succ _) (fun i hi _=>get_alloc_lt hi) fun i ⟨_,_,_,h⟩=>.inr ?_
   simp at h;omega
 ·have hlen:=rowOf_length hf l
  by_cases hm0:m.length=0
  ·have hl:m=[]:=List.eq_nil_of_length_eq_zero hm0;subst hl;have:doAppend H sz bytes (.row id sz 0 l.length) b=some (.upd (.row id sz 0 l.length) (H.set id (.cells true (rowOf f l)))):=by
    simp only [doAppend,hb,ho,hid,rowOf_nil];simp only [Bool.not_true,Bool.false_eq_true,if_false,if_true,List.all_nil,List.length_nil,Nat.add_zero,Nat.zero_mul,Nat.zero_add,List.append_nil];rw [if_pos (by rw [hlen];exact Nat.le_refl _),List.take_of_length_le (by rw [hlen];exact Nat.le_refl _),List.drop_eq_nil_of_le (by rw [hlen];exact Nat.le_refl _),List.append_nil]
   rw [this,wpE_upd]
   refine hk _ _ (.inr ⟨id,by simp,?_⟩) (Nat.le_refl _) (fun i hi hn=>get_set_ne fun e=>hn (by subst e;exact ⟨_,_,_,rfl⟩)) fun i h=>?_
   ·rw [get_set_same (nx_of_get hid),List.append_nil]
   ·obtain ⟨_,_,_,h⟩:=h;simp at h;exact .inl ⟨_,_,_,by rw [h.1]⟩
  ·have hnot:¬ (0*sz+(l.length+m.length)*sz≤(rowOf f l).length):=by
    rw [hlen,Nat.add_mul];have:=Nat.mul_pos (Nat.pos_of_ne_zero hm0) h0;omega
   have:doAppend H sz bytes (.row id sz 0 l.length) b=some (.upd (.row H.nx sz 0 (l.length+m.length)) ((H.set id .dead).alloc (.cells true (rowOf f l++rowOf f m)))):=by
    simp only [doAppend,hb,ho,hid];simp only [Bool.not_true,Bool.false_eq_true,if_false,if_true];rw [if_neg hnot];simp only [true_and];rw [if_pos ⟨hlen.symm,hm⟩]
   rw [this,wpE_upd]
   refine hk _ _ (.inr ⟨H.nx,by simp,?_⟩) (Nat.le_succ _) (fun i hi hn=>?_) fun i ⟨_,_,_,h⟩=>.inr ?_
   ·have:(H.set id .dead).nx=H.nx:=rfl;rw [← this,get_alloc_nx,rowOf_append]
   ·rw [get_alloc_lt (by exact hi),get_set_ne];intro e;subst e;exact hn ⟨_,_,_,rfl⟩
   ·simp at h;omega
end
section
variable {cl:Callee} {env:Env} {H:Heap}
@[simp] theorem st_makeMap:step cl env H .makeMap=some (.new (.mapo []) fun id=>.mapv id):=rfl
@[simp] theorem cells_mapv (id:Nat):AV.cells (.mapv id)=[.mapv id]:=rfl
@[simp] theorem one_mapv (id:Nat):AV.one (.mapv id)=true:=rfl
end
structure Span where
 lo:Int
 hi:Int
 deriving Inhabited
@[simp] def Span.cells (s:Span):List PV:=[.int .i64 s.lo,.int .i64 s.hi]
@[simp] theorem Span.eta (s:Span):(⟨s.lo,s.hi⟩:Span)=s:=rfl
structure Box where
 x:Span
 y:Span
 deriving Inhabited
@[simp] def Box.cells (s:Box):List PV:=[.int .i64 s.x.lo,.int .i64 s.x.hi,.int .i64 s.y.lo,.int .i64 s.y.hi]
@[simp] theorem Box.eta (s:Box):(⟨s.x,s.y⟩:Box)=s:=rfl
structure Pt where
 x:Int
 y:Int
 deriving Inhabited
@[simp] def Pt.cells (s:Pt):List PV:=[.int .i64 s.x,.int .i64 s.y]
@[simp] theorem Pt.eta (s:Pt):(⟨s.x,s.y⟩:Pt)=s:=rfl
structure Fact where
 id:Int
 kind:Int
 nt:Bool
 a:Int
 b:Int
 c:Int
 span:Span
 quarter:Int
 deriving Inhabited
@[simp] def Fact.cells (s:Fact):List PV:=[.int .i64 s.id,.int .i64 s.kind,.bool s.nt,.int .i64 s.a,.int .i64 s.b,.int .i64 s.c,.int .i64 s.span.lo,.int .i64 s.span.hi,.int .i64 s.quarter]
@[simp] theorem Fact.eta (s:Fact):(⟨s.id,s.kind,s.nt,s.a,s.b,s.c,s.span,s.quarter⟩:Fact)=s:=rfl
structure Problem where
 boxes:Sl Box
 facts:Sl Fact
 deriving Inhabited
@[simp] def Problem.cells (s:Problem):List PV:=[(s.boxes).pv Box.cells 4,(s.facts).pv Fact.cells 9]
@[simp] theorem Problem.eta (s:Problem):(⟨s.boxes,s.facts⟩:Problem)=s:=rfl
end Go.Proofs.Ytmmhnfghklppiaa.Vm
