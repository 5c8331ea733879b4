/- The library's sort of numbers, as the machine of values runs it, by its contract. Contracts of functions of Go's library for the machine of values: slices.Sort, Clone, Delete, Compact, IndexFunc. Appending in a chain: onto an empty literal, and rows of more than one. Maps: what single operations come to; sets of numbers, and tables from numbers. Problems, as data. Narrowing: the greatest boxes no strip of which fails, whichever way they are found. Plain Lean. What facts say of boxes: plain Lean. Parts: which points are connected by facts. Plain Lean. Choices of points of a part, and those that are solutions. Plain Lean. How many solutions there are, whichever way they are gone through. Plain Lean. Going through all choices of points step by step: plain Lean. -/
import Derived.Test.YtmghcpdpilgplaaGreatQk7
import Derived.Sort.Grow
import Derived.Sort.Row
import Derived.CallsIn
namespace Go.Proofs.YtmghcpdpilgplaaGreat.Vm
open Go Go.RowKit
set_option linter.unusedVariables false
def ins (a:Int):List Int→List Int
 | []=>[a]
 | b::l=>if a≤b then a::b::l else b::ins a l
def isort:List Int→List Int
 | []=>[]
 | a::l=>ins a (isort l)
theorem ins_perm (a:Int):∀ l:List Int,(ins a l).Perm (a::l)
 | []=>List.Perm.refl _
 | b::l=>by
  unfold ins
  split
  ·exact List.Perm.refl _
  ·exact ((ins_perm a l).cons b).trans (List.Perm.swap a b l)
theorem isort_perm:∀ l:List Int,(isort l).Perm l
 | []=>List.Perm.refl _
 | a::l=>(ins_perm a (isort l)).trans ((isort_perm l).cons a)
theorem ins_sorted (a:Int):∀ {l:List Int},l.Pairwise (·≤·)→(ins a l).Pairwise (·≤·)
 | [],_=>by simp [ins]
 | b::l,h=>by
  have h1:=List.pairwise_cons.1 h;unfold ins
  split
  ·rename_i hab
   refine List.pairwise_cons.2 ⟨fun x hx=>?_,h⟩
   rcases List.mem_cons.1 hx with rfl|hx
   ·exact hab
   ·exact Int.le_trans hab (h1.1 x hx)
  ·rename_i hab
   refine List.pairwise_cons.2 ⟨fun x hx=>?_,ins_sorted a h1.2⟩
   rcases List.mem_cons.1 ((ins_perm a l).mem_iff.1 hx) with rfl|hx
   ·omega
   ·exact h1.1 x hx
theorem isort_sorted:∀ l:List Int,(isort l).Pairwise (·≤·)
 | []=>List.Pairwise.nil
 | a::l=>ins_sorted a (isort_sorted l)
theorem isort_length (l:List Int):(isort l).length=l.length:=(isort_perm l).length_eq
theorem mergeSort_isort (l:List Int):(l.mergeSort fun x y=>decide (x≤y))=isort l:=by
 have h1:(l.mergeSort fun x y=>decide (x≤y)).Pairwise (fun a b=>decide (a≤b)=true):=List.pairwise_mergeSort (fun a b c h h'=>by simp at *;omega) (fun a b=>by simp;omega) l
 refine List.Perm.eq_of_pairwise (le:=fun a b=>a≤b) (fun a b _ _ h h'=>Int.le_antisymm h h') (h1.imp fun h=>by simpa using h) (isort_sorted l) ((List.mergeSort_perm l _).trans (isort_perm l).symm)
def intsOf:List AV→Option (List Int)
 | []=>some []
 | .pure (.int .i64 z)::l=>(intsOf l).map (z :: ·)
 | _=>none
theorem intsOf_eq:∀ {l:List AV} {zs:List Int},intsOf l=some zs→l=zs.map fun z=>.pure (.int .i64 z)
 | [],zs,h=>by simp [intsOf] at h;subst h;rfl
 | c::l,zs,h=>by
  unfold intsOf at h
  split at h
  ·rename_i h0;cases h0
  ·rename_i z l' h0;simp only [List.cons.injEq] at h0;obtain ⟨rfl,rfl⟩:=h0;rw [Option.map_eq_some_iff] at h;obtain ⟨ys,hy,rfl⟩:=h;rw [intsOf_eq hy];rfl
  ·simp at h
def sortRun (args:List AV) (H:Heap):Option (AV×Heap) :=
 match args with
 | [.row id 1 off n]=>match H.get id with
  | .cells true cs=>if off+n≤cs.length∧n≤maxCells then match intsOf ((cs.drop off).take n) with
    | some zs=>some (.tup [],H.set id (.cells true (cs.take off++(isort zs).map (fun z=>AV.pure (.int .i64 z))++cs.drop (off+n))))
    | none=>none else none
  | _=>none
 | _=>none
theorem sort_runOk {C:Comp} {P:Program} {f:Nat} (hf:FnOk P f)
  (hc:∀ (blk off cap:Nat) (zs:List Int) (w:World),Sort.Holds (Value.int .i64) w blk off zs.toArray→blk < w.heap.size→zs.length < 4611686018427387904 →
   Calls P f #[.slice (some ⟨blk,off,none⟩) zs.length cap] w fun e w'=>e=.returned (.tuple #[])∧∃ n os,w'=Sort.grow (Sort.putRow (Value.int .i64) (Sort.ahead w n) blk off (zs.mergeSort fun x y=>decide (x≤y)).toArray) os)
  {args:List AV} {H H':Heap} {r:AV} (h:sortRun args H=some (r,H')):RunOk C P f args H r H':=by
 refine ⟨hf,fun k S base φ w vals hH hv=>?_⟩
 unfold sortRun at h
 split at h
 ·rename_i id off n
  split at h
  ·rename_i cs hg
   split at h
   ·rename_i hcond
    split at h
    ·rename_i zs hz;simp only [Option.some.injEq,Prod.mk.injEq] at h;obtain ⟨rfl,rfl⟩:=h;obtain ⟨v,vs',rfl,h1,h2⟩:=hv.cons_inv;have:=h2.nil_inv;subst this;obtain ⟨b,m,cap,hid,rfl,hcap,hfull⟩:=h1.row_inv;have ho:=hH.obj _ _ _ hid;rw [hg] at ho;obtain ⟨c,e,fz,q1,q2,q3,q4,q5⟩:=ho;have hzs:=intsOf_eq hz;have hzl:zs.length=n:=by
      have:((cs.drop off).take n).length=n:=by simp;omega
      rw [hzs] at this
      simpa using this
     have hcell:∀ j,j < zs.length→c[off+j]?=some (.int .i64 zs[j]!):=fun j hj=>by
      have ha:cs[off+j]?=some (.pure (.int .i64 zs[j]!)):=by
       have h3:((cs.drop off).take n)[j]?=some (.pure (.int .i64 zs[j]!)):=by
        rw [hzs,List.getElem?_map,List.getElem?_eq_getElem hj];simp [hj]
       rw [List.getElem?_take_of_lt (by omega),List.getElem?_drop] at h3;exact h3
      have hjs:off+j < c.size:=by omega
      have hcv:c[off+j]?=some c[off+j]:=Array.getElem?_eq_getElem hjs;have:=(q5 _ _ _ ha hcv).int_inv;rw [hcv,this]
     have hholds:Sort.Holds (Value.int .i64) w b off zs.toArray:=fun j hj=>by
      have hj':j < zs.length:=by simpa using hj
      refine ⟨?_,?_⟩
      ·simp only [World.cell?,q1];rw [hcell j hj'];simp
      ·have hjs:off+j < c.size:=by omega
       simp only [World.frozen?,q1];have:=q4 (off+j) (by omega)
       simpa using this
     have hbs:b < w.heap.size:=(hH.lt _ _ _ hid).2;have hrun:=hc b off cap zs w hholds hbs (by rw [hzl];have:=hcond.2;simp only [maxCells] at this;omega);rw [hzl] at hrun;rw [Nat.mul_one]
     refine (callsIn_wide.2 hrun).mono ?_
     rintro e' w' ⟨rfl,n',os,rfl⟩;rw [mergeSort_isort];have hput:(Sort.putRow (Value.int .i64) (Sort.ahead w n') b off (isort zs).toArray).heap[b]?=some (.cells (Sort.putCells (Value.int .i64) off (isort zs).toArray c) e fz):=by
      simp [Sort.putRow,Sort.mapBlock,Sort.ahead,Array.getElem?_modify,q1,Sort.onCells]
     have hw2:=hH.write (o:=.cells true (cs.take off++(isort zs).map (fun z=>AV.pure (.int .i64 z))++cs.drop (off+n))) (w':=Sort.putRow (Value.int .i64) (Sort.ahead w n') b off (isort zs).toArray) hid (by rw [hg];rfl) rfl rfl rfl (by simp [Sort.ahead]) (fun c' hc'=>by
       simp [Sort.putRow,Sort.mapBlock,Sort.ahead,Array.getElem?_modify,hc'.symm]) ⟨_,e,fz,hput,by simp [Sort.putCells,q2],by
       have:=isort_length zs;simp only [List.length_append,List.length_take,List.length_map,List.length_drop];omega,q4,fun j a v ha hv=>?_⟩
     ·have hgrow:Below (Sort.putRow (Value.int .i64) (Sort.ahead w n') b off (isort zs).toArray).heap.size (Sort.putRow (Value.int .i64) (Sort.ahead w n') b off (isort zs).toArray) (Sort.grow (Sort.putRow (Value.int .i64) (Sort.ahead w n') b off (isort zs).toArray) os):=by
       refine ⟨rfl,rfl,rfl,by simp [Sort.grow],fun c' hc'=>?_⟩
       simp only [Sort.grow];rw [Array.getElem?_append_left hc']
      exact ⟨_,φ,rfl,hw2.1.trans (Evo.of_below hgrow),hw2.2.below hgrow,.tup [] #[] rfl fun i p v h=>by simp at h⟩
     ·-- each cell
      have hjl:=(List.getElem?_eq_some_iff.1 ha).1;have hil:=isort_length zs;simp only [List.length_append,List.length_take,List.length_map,List.length_drop] at hjl;have hjs:j < c.size:=by omega
      have hcj:c[j]?=some c[j]:=Array.getElem?_eq_getElem hjs;have hsame:∀ k b',Imm S base φ H w k b'→Imm S base φ H w k b'∧(Sort.putRow (Value.int .i64) (Sort.ahead w n') b off (isort zs).toArray).heap[b']?=w.heap[b']?:=fun k b' hb'=>⟨hb',by
       have hne:b≠b':=fun e=>hb'.2.2 ⟨id,m,by rw [← e];exact hid,by rw [hg];rfl⟩;simp [Sort.putRow,Sort.mapBlock,Sort.ahead,Array.getElem?_modify,hne]⟩
      simp only [Sort.putCells,Array.getElem?_mapIdx,hcj,Option.map_some,Option.some.injEq] at hv
      by_cases hin:off≤j∧j < off+n
      ·rw [if_pos ⟨hin.1,by simp [hil,hzl];exact hin.2⟩] at hv;have hlo:¬ j < (cs.take off).length:=by simp;omega
       rw [List.append_assoc,List.getElem?_append_right (by simp;omega)] at ha;have e1:j - (cs.take off).length=j - off:=by simp;omega
       rw [e1,List.getElem?_append_left (by simp;omega),List.getElem?_map,List.getElem?_eq_getElem (by omega)] at ha;simp only [Option.map_some,Option.some.injEq] at ha;subst ha;subst hv;have hlt:j - off < (isort zs).length:=by omega
       have:((isort zs).toArray[j - off]! : Int)=(isort zs)[j - off]:=by simp [hlt]
       rw [this];exact .pure _ _ (.int _ _)
      ·rw [if_neg (by simp [hil,hzl];omega)] at hv;subst hv;have haj:cs[j]?=some a:=by
        by_cases hlo:j < off
        ·rw [List.append_assoc,List.getElem?_append_left (by simp;omega),List.getElem?_take_of_lt hlo] at ha;exact ha
        ·rw [List.getElem?_append_right (by simp;omega)] at ha;rw [List.getElem?_drop] at ha;have e2:off+n+(j - (cs.take off++(isort zs).map (fun z=>AV.pure (.int .i64 z))).length)=j:=by simp;omega
         rw [e2] at ha;exact ha
       exact (q5 j a c[j] haj hcj).mono hsame (fun _ _ h=>h)
    ·simp at h
   ·simp at h
  ·simp at h
 ·simp at h
open Go
set_option linter.unusedSimpArgs false
set_option maxHeartbeats 4000000
def wpS (rs:List VRes) (k:AV→Heap→Prop) (x:VExit) (env:Env) (H:Heap):Prop:=(∀ i,x≠.exit i)∧∃ v,results env H rs=some v∧k v H
@[simp] theorem wpS_ret {rs:List VRes} {k:AV→Heap→Prop} {env:Env} {H:Heap}:wpS rs k .ret env H↔∃ v,results env H rs=some v∧k v H:=by simp [wpS]
@[simp] theorem wpS_normal {rs:List VRes} {k:AV→Heap→Prop} {env:Env} {H:Heap}:wpS rs k .normal env H↔∃ v,results env H rs=some v∧k v H:=by simp [wpS]
section
variable {G:Prog} {n:Nat} {H:Heap}
theorem call_of {f:Nat} {fn:VFunc} {args:List AV} {k:AV→Heap→Prop} (hr:G.extRun f args H=none) (hf:G.func f=some fn) (hl:args.length=fn.nargs)
  (h:wp (calleeOf G n) fn.body (initEnv args) H (wpS fn.results k) .mk):∃ v H',Vm.call G (n+1) (.fn f) args H=some (v,H')∧k v H':=by
 obtain ⟨x,e,h',h1,h2,v,h3,h4⟩:=h
 refine ⟨v,h',?_,h4⟩
 rw [call_fn,hr,hf];simp only [hl,if_true,h1]
 cases x with
 | exit i=>exact absurd rfl (h2 i)
 | normal=>simp only [h3]
 | ret=>simp only [h3]
theorem wpE_run {f:Nat} {caps:List PV} {args:List AV} {k:AV→Heap→Prop} {u} (hs:G.shared f=true) (h:∃ v H',Vm.call G (n+1) (.fn f) (args++caps.map .pure) H=some (v,H')∧k v H') :
  wpE 0 (doCall (calleeOf G (n+1)) H (.pure (.func f caps)) args) H k u:=by
 obtain ⟨v,H',h1,h2⟩:=h
 refine ⟨.upd v H',?_,by simp,h2⟩
 have hs':(calleeOf G (n+1)).shared f=true:=hs;have h1':(calleeOf G (n+1)).run f (args++caps.map .pure) H=some (v,H'):=h1;simp only [doCall,hs',if_true,h1']
theorem wpE_own {f:Nat} {caps:List PV} {args:List AV} {ps:List PV} {r:PV} {pre:Nat} {k:AV→Heap→Prop} {u} (hs:G.shared f=false) (ha:FrzL H true depthF (args++caps.map .pure) ps) (h:callP G n f ps=some r) (hc:r.cold=true)
  (hk:k (.pure r) H):wpE pre (doCall (calleeOf G n) H (.pure (.func f caps)) args) H k u:=by
 obtain ⟨ids,ha⟩:=ha
 refine ⟨.val (.pure r),?_,by simp [isUpd],hk⟩
 have hs':(calleeOf G n).shared f=false:=hs;have h':(calleeOf G n).pure f ps=some r:=h;simp only [doCall,hs',Bool.false_eq_true,if_false,ha,h',hc,Bool.or_true,if_true]
end
section
variable {α:Type} {f:α→List PV} {sz:Nat} {H:Heap} {v:AV} {l:List α}
theorem rowOf_nil:rowOf f ([]:List α)=[]:=rfl
theorem rowOf_cons (a:α) (l:List α):rowOf f (a::l)=(f a).map .pure++rowOf f l:=by simp [rowOf]
theorem rowOf_take (hf:∀ a,(f a).length=sz):∀ (l:List α) (i:Nat),(rowOf f l).take (i*sz)=rowOf f (l.take i)
 | [],i=>by simp [rowOf]
 | a::l,0=>by simp [rowOf]
 | a::l,i+1=>by
  have h3:(List.map AV.pure (f a)).length=sz:=by rw [List.length_map,hf]
  rw [List.take_succ_cons,rowOf_cons,rowOf_cons,Nat.add_mul,Nat.one_mul,Nat.add_comm,← h3,List.take_length_add_append,h3,rowOf_take hf l i]
theorem rowOf_drop (hf:∀ a,(f a).length=sz):∀ (l:List α) (i:Nat),(rowOf f l).drop (i*sz)=rowOf f (l.drop i)
 | [],i=>by simp [rowOf]
 | a::l,0=>by simp [rowOf]
 | a::l,i+1=>by
  have h3:(List.map AV.pure (f a)).length=sz:=by rw [List.length_map,hf]
  rw [List.drop_succ_cons,rowOf_cons,Nat.add_mul,Nat.one_mul,Nat.add_comm,← h3,List.drop_length_add_append,h3,rowOf_drop hf l i]
theorem rowOf_one' (hone:∀ a,(f a).all PV.one=true) (l:List α):(rowOf f l).all AV.one=true:=by
 induction l with
 | nil=>rfl
 | cons a l ih=>rw [rowOf_cons,List.all_append,ih,all_one_pures _ (hone a)];rfl
theorem rowOf_puresL (l:List α):rowOf f l=((l.map f).flatten).map .pure:=by simp [rowOf,List.map_flatten,Function.comp_def]
theorem sliceCells_sl' (hf:∀ a,(f a).length=sz) (s:Sl α):sliceCells H sz (.pure (s.pv f sz))=some (rowOf f s.xs,s.xs.length):=by
 rw [sliceCells_sl hf,rowOf_puresL]
theorem OwnV.slice (hf:∀ a,(f a).length=sz) (h:OwnV f sz H v l):sliceCells H sz v=some (rowOf f l,l.length):=by
 rcases h with ⟨rfl,rfl⟩|⟨id,rfl,hg⟩
 ·rfl
 ·rw [sliceCells_row,hg];have:=rowOf_length hf l;simp only [rowCells];rw [if_pos (by omega),Nat.zero_mul,List.drop_zero,← this,List.take_length]
def HeadV {α:Type} (f:α→List PV) (sz:Nat) (H:Heap) (v:AV) (l:List α):Prop:=∃ id rest,v=.row id sz 0 l.length∧H.get id=.cells true (rowOf f l++rest)
theorem HeadV.frz {k:Bool} {n:Nat} (hf:∀ a,(f a).length=sz) (h:HeadV f sz H v l):FrzK H k (n+2) v (.slice k sz (l.map f)):=by
 obtain ⟨id,rest,rfl,hg⟩:=h;have hlen:=rowOf_length hf l;have hch:∀ l:List α,chunks sz l.length ((l.map f).flatten)=l.map f:=by
  intro l
  induction l with
  | nil=>rfl
  | cons a l ih =>
   simp only [List.length_cons,chunks,List.map_cons,List.flatten_cons];rw [List.take_left' (hf a),List.drop_left' (hf a),ih]
 have hlen2:((l.map f).flatten).length=l.length*sz:=by
  rw [← hlen,rowOf_puresL,List.length_map]
 refine ⟨[id],?_⟩
 have h1:((rowOf f l++rest).drop (0*sz)).take (l.length*sz)=((l.map f).flatten).map .pure:=by
  rw [Nat.zero_mul,List.drop_zero,← hlen,List.take_left',rowOf_puresL];rfl
 have hids0:freezeL (freeze H k (n+1)) (((l.map f).flatten).map .pure)=some ((l.map f).flatten,[]):=by
  generalize (l.map f).flatten=q
  induction q with
  | nil=>rfl
  | cons p ps ih=>rw [List.map_cons,freezeL,ih];rfl
 unfold freeze;simp only [hg,h1,hids0,hlen2,if_true,hch]
theorem OwnV.head (h:OwnV f sz H v l):(l=[]∧v=.pure .nils)∨HeadV f sz H v l:=by
 rcases h with h|⟨id,h1,h2⟩
 ·exact .inl h
 ·exact .inr ⟨id,[],h1,by rw [List.append_nil];exact h2⟩
end
theorem row_sl {α:Type} {f:α→List PV} {sz n:Nat} {H:Heap} {id m:Nat} {l:List α} (hf:∀ a,(f a).length=sz) (hg:H.get id=.cells true (rowOf f l)) (hl:l.length=m):∃ s:Sl α,s.xs=l∧FrzK H true (n+2) (.row id sz 0 m) (s.pv f sz):=by
 subst hl;exact ⟨.mk true l,rfl,HeadV.frz hf ⟨id,[],rfl,by rw [List.append_nil];exact hg⟩⟩
theorem row_res {α:Type} {f:α→List PV} {sz n:Nat} {H:Heap} {id m:Nat} {l:List α} (hf:∀ a,(f a).length=sz) (hg:H.get id=.cells true (rowOf f l)) (hl:l.length=m):FrzK H false (n+2) (.row id sz 0 m) ((Sl.mk false l).pv f sz):=by
 subst hl;exact HeadV.frz hf ⟨id,[],rfl,by rw [List.append_nil];exact hg⟩
def cloneC (sz bytes:Nat):VFunc:=⟨1,8,[(.tmp 2)],(.seq (.region none [⟨(some 2),(.mov (.const .nils)),none⟩]) (.seq (.seq (.region none [⟨(some 3),(.mov (.tmp 0)),none⟩,⟨(some 4),(.bin .eql .slice (.tmp 3) (.const .nils)),none⟩]) (.cond (.tmp 4) (.seq (.region none [⟨(some 2),(.mov (.const .nils)),none⟩]) .ret) .skip)) (.seq (.region none [⟨(some 5),(.buildSlice sz [] []),none⟩,⟨(some 6),(.mov (.tmp 0)),none⟩,⟨(some 7),(.append sz bytes (.tmp 5) (.tmp 6)),none⟩,⟨(some 2),(.mov (.tmp 7)),none⟩]) .ret)))⟩
theorem vbin_slNil {v:AV} {b:Bool} (h:isNil .slice v=some b):vbin .eql .slice v (.pure .nils)=some (.pure (.bool b)):=by
 have h1:eqB .slice v (.pure .nils)=some b:=by
  have h0:isNil .slice (.pure .nils)=some true:=rfl
  cases b<;>simp only [eqB,h,h0]
 cases v with
 | pure p=>cases p<;>simp only [vbin,h1,Option.map_some]<;>simp [isNil] at h
 | _=>simp only [vbin,h1,Option.map_some]
section
variable {α:Type} {f:α→List PV} {sz:Nat} {H:Heap} {v:AV} {l:List α} {G:Prog} {n:Nat}
theorem clone_call {g bytes:Nat} {b:Bool} {k:AV→Heap→Prop} (hx:∀ H,G.extRun g [v] H=none) (hg:G.func g=some (cloneC sz bytes)) (hv:sliceCells H sz v=some (rowOf f l,l.length)) (hn:isNil .slice v=some b) (hnl:b=true→l=[])
  (hf:∀ a,(f a).length=sz) (h0:0 < sz) (hone:∀ a,(f a).all PV.one=true) (hm:l.length*sz≤maxCells∧l.length*bytes≤maxCells)
  (hk:∀ v' H',OwnV f sz H' v' l→isNil .slice v'=some b→H.nx≤H'.nx→(∀ id,id < H.nx→H'.get id=H.get id)→(∀ id,Names v' id→H.nx≤id)→k v' H') :
  ∃ v' H',Vm.call G (n+1) (.fn g) [v] H=some (v',H')∧k v' H':=by
 refine call_of (hx H) hg rfl ?_
 simp only [cloneC];have h1:=vbin_slNil hn
 cases b with
 | true =>
  have hl:=hnl rfl;subst hl;have:=hk (.pure .nils) H OwnV.nil rfl (Nat.le_refl _) (fun _ _=>rfl) (fun id ⟨_,_,_,h⟩=>by simp at h);simp [initEnv,h1,this]
 | false =>
  simp only [wp_seq,wp_region,wpO_cons,seqQ_normal,st_mov,wpE_val,Option.getD_none,putAt_some,eval_const,wpO_nil,eval_tmp,upd_apply,initEnv,st_bin,wp_cond];simp [h1];have hsame:sliceCells (H.alloc (.cells true [])) sz v=some (rowOf f l,l.length):=by
   cases v with
   | row id s o m =>
    simp only [sliceCells] at hv ⊢
    split at hv
    ·rename_i hs;rw [if_pos hs]
     split at hv
     ·rename_i cs hc;rw [get_alloc_lt (nx_of_get hc),hc];exact hv
     ·simp at hv
    ·simp at hv
   | pure p=>cases p<;>exact hv
   | _=>exact hv
  have ho:=rowOf_one' hone l;have hz:(if sz=0 then 0 else 0 / sz)=0:=by split<;>simp
  try rw [hz]
  have hi0:initEnv [v] 0=v:=rfl;rw [hi0];have hlen:=rowOf_length hf l
  cases l with
  | nil =>
   have hap:doAppend (H.alloc (.cells true [])) sz bytes (.row H.nx sz 0 0) v=some (.upd (.row H.nx sz 0 0) ((H.alloc (.cells true [])).set H.nx (.cells true []))):=by
    simp only [doAppend,hsame,ho,get_alloc_nx];simp [rowOf]
   rw [hap];simp
   refine hk _ _ (.inr ⟨H.nx,rfl,?_⟩) rfl (by simp) (fun id hid=>?_) (fun id ⟨_,_,_,h⟩=>?_)
   ·rw [get_set_own (by simp)];rfl
   ·rw [get_set_ne (by omega),get_alloc_lt hid]
   ·simp at h;omega
  | cons a l =>
   have hap:doAppend (H.alloc (.cells true [])) sz bytes (.row H.nx sz 0 0) v=some (.upd (.row (H.nx+1) sz 0 (a::l).length) (((H.alloc (.cells true [])).set H.nx .dead).alloc (.cells true (rowOf f (a::l))))):=by
    simp only [doAppend,hsame,ho,get_alloc_nx];have hp:0 < (a::l).length*sz:=Nat.mul_pos (by simp) h0;simp only [Bool.not_true,Bool.false_eq_true,if_false,if_true,Nat.zero_mul,Nat.zero_add,List.length_nil];rw [if_neg (by omega)];simp only [true_and,nx_alloc,List.nil_append];rw [if_pos hm]
   rw [hap];simp
   refine hk _ _ (.inr ⟨H.nx+1,by simp,?_⟩) rfl (by simp;omega) (fun id hid=>?_) (fun id ⟨_,_,_,h⟩=>?_)
   ·exact get_alloc_same' (by simp)
   ·rw [get_alloc_lt (by simp;omega),get_set_ne (by omega),get_alloc_lt hid]
   ·simp at h;omega
end
section
variable {H:Heap} {v:AV} {l:List Int} {G:Prog} {n:Nat}
end
section
variable {α:Type} {f:α→List PV} {sz:Nat} {G:Prog} {n:Nat}
end
section
variable {H:Heap} {v:AV} {l:List Int} {G:Prog} {n:Nat}
@[simp] theorem putIn_rowI {l:List Int} {i:Nat} {x:Int} (h:i < l.length):putIn (.cells true (rowOf intF l)) 1 i [.pure (.int .i64 x)]=some (.cells true (rowOf intF (l.set i x))):=by
 have hlen:∀ l:List Int,(rowOf intF l).length=l.length:=fun l=>by rw [rowOf_length (sz:=1) (fun _=>rfl)];omega
 simp only [putIn];rw [if_pos ⟨rfl,by simp,rfl,by rw [hlen];omega⟩];have h1:=rowOf_take (f:=intF) (sz:=1) (fun _=>rfl) l i;have h2:=rowOf_drop (f:=intF) (sz:=1) (fun _=>rfl) l (i+1);rw [Nat.mul_one] at h1 h2;rw [h1,h2,List.set_eq_take_append_cons_drop,if_pos h,rowOf_append,rowOf_cons,List.append_assoc];rfl
end
section
variable {G:Prog} {n:Nat} {H:Heap} {env:Env}
theorem wpE_yieldA {id:Nat} {r:LoopR} {args:List AV} {k:AV→Heap→Prop} {u} (hg:H.get id=.loop r) (hs:r.state=.ready) (hl:args.length=r.params.length)
  (h:wp (calleeOf G n) r.assign ((r.params.zip args).foldl (fun e x=>upd e x.1 x.2) r.env) H (fun x env2 H2=>x=.normal∧H2.get id=.loop r ∧
   wp (calleeOf G n) r.body env2 (H2.set id (.loop { r with state:=.busy })) (fun x _ H3=>x=.normal∧H3.get id=.loop { r with state:=.busy }∧k (.pure (.bool true)) (H3.set id (.loop { r with state:=.ready,pending:=.normal }))) .mk) .mk) :
  wpE 0 (doCall (calleeOf G (n+1)) H (.yield id) args) H k u:=by
 obtain ⟨x,env2,H2,h1,rfl,hg2,x3,e3,H3,h3,rfl,h4,h5⟩:=h
 refine ⟨.upd (.pure (.bool true)) (H3.set id (.loop { r with state:=.ready,pending:=.normal })),?_,by simp,h5⟩
 have hy:(calleeOf G (n+1)).yield id args H=some (.pure (.bool true),H3.set id (.loop { r with state:=.ready,pending:=.normal })):=by
  show Vm.call G (n+1) (.yield id) args H=_;have e0:Vm.call G (n+1) (.yield id) args H=(match H.get id with
   | .loop r =>
    if args.length=r.params.length then
     match exec (calleeOf G n) r.assign ((r.params.zip args).foldl (fun e x=>upd e x.1 x.2) r.env) H with
     | some (.normal,env2,H2)=>match H2.get id with
      | .loop r2=>match r2.state with
       | .ready=>match exec (calleeOf G n) r.body env2 (H2.set id (.loop { r2 with state:=.busy })) with
        | some (x,_,H3)=>match H3.get id with
         | .loop r3=>match x with
          | .normal=>some (.pure (.bool true),H3.set id (.loop { r3 with state:=.ready,pending:=.normal }))
          | x=>some (.pure (.bool false),H3.set id (.loop { r3 with state:=.done,pending:=x }))
         | _=>none
        | none=>none
       | _=>none
      | _=>none
     | _=>none
    else none
   | _=>none):=rfl
  rw [e0,hg];simp only [hl,if_true,h1,hg,hg2,hs,h3,h4]
 simp only [doCall,hy]
theorem wp_rangeFunc {f:Opnd} {params:List Nat} {assign body:VCode} {Q:VExit→Env→Heap→Prop} {g:Nat} {caps:List PV} {u} (hf:f.eval env=.pure (.func g caps))
  (h:∃ v H2,Vm.call G (n+1) (.fn g) (.yield H.nx::caps.map .pure) (H.alloc (.loop { env,params,assign,body,state:=.ready,pending:=.normal }))=some (v,H2) ∧
   H2.get H.nx=.loop { env,params,assign,body,state:=.ready,pending:=.normal }∧Q .normal env (H2.set H.nx .dead)) :
  wp (calleeOf G (n+1)) (.rangeFunc f params assign body) env H Q u:=by
 obtain ⟨v,H2,h1,h2,h3⟩:=h
 refine ⟨.normal,env,H2.set H.nx .dead,?_,h3⟩
 have h1':(calleeOf G (n+1)).run g (.yield H.nx::caps.map .pure) (H.alloc (.loop { env,params,assign,body,state:=.ready,pending:=.normal }))=some (v,H2):=h1;simp only [exec,hf,h1',h2]
end
def doAppendE (H:Heap) (sz bytes:Nat) (a b:AV):Option Eff:=match sliceCells H sz b with
  | none=>none
  | some (new,m)=>if !new.all AV.one then none else match a with
   | .void id s=>if s=sz then (if m=0 then some (.val (.row id sz 0 0)) else
     if m*sz≤maxCells∧m*bytes≤maxCells then some (.new (.cells true new) fun id=>.row id sz 0 m) else none) else none
   | _=>none
section
variable {α:Type} {f:α→List PV} {sz:Nat} {H:Heap} {v:AV} {l:List α}
theorem wpE_appendE {bytes pre id:Nat} {b:AV} {k:AV→Heap→Prop} {u} (hb:sliceCells H sz b=some (rowOf f l,l.length)) (hid:H.get id=.cells true []) (hone:∀ a,(f a).all PV.one=true)
  (hm:l.length*sz≤maxCells∧l.length*bytes≤maxCells)
  (hk:∀ v' H',OwnV f sz H' v' l→H.nx≤H'.nx→(∀ i,i < H.nx→H'.get i=H.get i)→(∀ i,Names v' i→i=id∨H.nx≤i)→k v' H'):wpE pre (doAppendE H sz bytes (.void id sz) b) H k u:=by
 have ho:=rowOf_one' hone l;simp only [doAppendE,hb,ho];simp only [Bool.not_true,Bool.false_eq_true,if_false,if_true]
 by_cases h0:l.length=0
 ·have hl:l=[]:=List.eq_nil_of_length_eq_zero h0;subst hl;rw [if_pos (show ([]:List α).length=0 from rfl),wpE_val];exact hk _ _ (.inr ⟨id,rfl,by rw [hid];rfl⟩) (Nat.le_refl _) (fun _ _=>rfl) fun i ⟨_,_,_,h⟩=>by simp at h;exact .inl h.1.symm
 ·rw [if_neg h0,if_pos hm,wpE_new]
  refine hk _ _ (.inr ⟨H.nx,rfl,get_alloc_nx _⟩) (Nat.le_succ _) (fun i hi=>get_alloc_lt hi) fun i ⟨_,_,_,h⟩=>?_
  simp at h;exact .inr (by omega)
theorem wpE_appendL {bytes:Nat} {b:AV} {m:List α} {k:AV→Heap→Prop} {u} (hv:OwnV f sz H v l) (hf:∀ a,(f a).length=sz) (h0:0 < sz) (hone:∀ a,(f a).all PV.one=true)
  (hb:sliceCells H sz b=some (rowOf f m,m.length)) (hm:(l.length+m.length)*sz≤maxCells∧(l.length+m.length)*bytes≤maxCells)
  (hk:∀ v' H',OwnV f sz H' v' (l++m)→H.nx≤H'.nx→(∀ i,i < H.nx→¬ Names v i→H'.get i=H.get i)→(∀ i,Names v' i→Names v i∨H.nx≤i)→k v' H'):wpE 0 (doAppend H sz bytes v b) H k u:=by
 have ho:=rowOf_one' hone m;rcases hv with ⟨rfl,rfl⟩|⟨id,rfl,hid⟩
 ·simp only [List.length_nil,Nat.zero_add] at hm
  by_cases hm0:m.length=0
  ·have hl:m=[]:=List.eq_nil_of_length_eq_zero hm0;subst hl;have:doAppend H sz bytes (.pure .nils) b=some (.val (.pure .nils)):=by
    simp only [doAppend,hb,ho];simp
   rw [this,wpE_val];exact hk _ _ (.inl ⟨rfl,rfl⟩) (Nat.le_refl _) (fun _ _ _=>rfl) fun i h=>.inl h
  ·have:doAppend H sz bytes (.pure .nils) b=some (.new (.cells true (rowOf f m)) fun id=>.row id sz 0 m.length):=by
    simp only [doAppend,hb,ho];simp only [Bool.not_true,Bool.false_eq_true,if_false];rw [if_neg hm0,if_pos hm]
   rw [this,wpE_new]
   refine hk _ _ (.inr ⟨H.nx,by simp,by rw [List.nil_append];exact get_alloc_nx _⟩) (Nat.le_succ _) (fun i hi _=>get_alloc_lt hi) fun i ⟨_,_,_,h⟩=>.inr ?_
   simp at h;omega
 ·have hlen:=rowOf_length hf l
  by_cases hm0:m.length=0
  ·have hl:m=[]:=List.eq_nil_of_length_eq_zero hm0;subst hl;have:doAppend H sz bytes (.row id sz 0 l.length) b=some (.upd (.row id sz 0 l.length) (H.set id (.cells true (rowOf f l)))):=by
    simp only [doAppend,hb,ho,hid,rowOf_nil];simp only [Bool.not_true,Bool.false_eq_true,if_false,if_true,List.all_nil,List.length_nil,Nat.add_zero,Nat.zero_mul,Nat.zero_add,List.append_nil];rw [if_pos (by rw [hlen];exact Nat.le_refl _),List.take_of_length_le (by rw [hlen];exact Nat.le_refl _),List.drop_eq_nil_of_le (by rw [hlen];exact Nat.le_refl _),List.append_nil]
   rw [this,wpE_upd]
   refine hk _ _ (.inr ⟨id,by simp,?_⟩) (Nat.le_refl _) (fun i hi hn=>get_set_ne fun e=>hn (by subst e;exact ⟨_,_,_,rfl⟩)) fun i h=>?_
   ·rw [get_set_same (nx_of_get hid),List.append_nil]
   ·obtain ⟨_,_,_,h⟩:=h;simp at h;exact .inl ⟨_,_,_,by rw [h.1]⟩
  ·have hnot:¬ (0*sz+(l.length+m.length)*sz≤(rowOf f l).length):=by
    rw [hlen,Nat.add_mul];have:=Nat.mul_pos (Nat.pos_of_ne_zero hm0) h0;omega
   have:doAppend H sz bytes (.row id sz 0 l.length) b=some (.upd (.row H.nx sz 0 (l.length+m.length)) ((H.set id .dead).alloc (.cells true (rowOf f l++rowOf f m)))):=by
    simp only [doAppend,hb,ho,hid];simp only [Bool.not_true,Bool.false_eq_true,if_false,if_true];rw [if_neg hnot];simp only [true_and];rw [if_pos ⟨hlen.symm,hm⟩]
   rw [this,wpE_upd]
   refine hk _ _ (.inr ⟨H.nx,by simp,?_⟩) (Nat.le_succ _) (fun i hi hn=>?_) fun i ⟨_,_,_,h⟩=>.inr ?_
   ·have:(H.set id .dead).nx=H.nx:=rfl;rw [← this,get_alloc_nx,rowOf_append]
   ·rw [get_alloc_lt (by exact hi),get_set_ne];intro e;subst e;exact hn ⟨_,_,_,rfl⟩
   ·simp at h;omega
end
section
variable {cl:Callee} {env:Env} {H:Heap}
@[simp] theorem st_makeMap:step cl env H .makeMap=some (.new (.mapo []) fun id=>.mapv id):=rfl
@[simp] theorem cells_mapv (id:Nat):AV.cells (.mapv id)=[.mapv id]:=rfl
@[simp] theorem one_mapv (id:Nat):AV.one (.mapv id)=true:=rfl
end
structure Span where
 lo:Int
 hi:Int
 deriving Inhabited
@[simp] def Span.cells (s:Span):List PV:=[.int .i64 s.lo,.int .i64 s.hi]
@[simp] theorem Span.eta (s:Span):(⟨s.lo,s.hi⟩:Span)=s:=rfl
structure Box where
 x:Span
 y:Span
 deriving Inhabited
@[simp] def Box.cells (s:Box):List PV:=[.int .i64 s.x.lo,.int .i64 s.x.hi,.int .i64 s.y.lo,.int .i64 s.y.hi]
@[simp] theorem Box.eta (s:Box):(⟨s.x,s.y⟩:Box)=s:=rfl
structure Pt where
 x:Int
 y:Int
 deriving Inhabited
@[simp] def Pt.cells (s:Pt):List PV:=[.int .i64 s.x,.int .i64 s.y]
@[simp] theorem Pt.eta (s:Pt):(⟨s.x,s.y⟩:Pt)=s:=rfl
@[simp] theorem asF_Pt (x0:Int) (x1:Int) (P:Pt→Prop) {u}:asF Pt.cells [.pure (.int .i64 x0),.pure (.int .i64 x1)] P u↔P ⟨x0,x1⟩:=by
 constructor
 ·rintro ⟨a,h,hp⟩;simp [Pt.cells] at h;obtain ⟨rfl,rfl⟩:=h;exact hp
 ·intro h;exact ⟨_,rfl,h⟩
structure Fact where
 id:Int
 kind:Int
 nt:Bool
 a:Int
 b:Int
 c:Int
 span:Span
 quarter:Int
 deriving Inhabited
@[simp] def Fact.cells (s:Fact):List PV:=[.int .i64 s.id,.int .i64 s.kind,.bool s.nt,.int .i64 s.a,.int .i64 s.b,.int .i64 s.c,.int .i64 s.span.lo,.int .i64 s.span.hi,.int .i64 s.quarter]
@[simp] theorem Fact.eta (s:Fact):(⟨s.id,s.kind,s.nt,s.a,s.b,s.c,s.span,s.quarter⟩:Fact)=s:=rfl
structure Problem where
 boxes:Sl Box
 facts:Sl Fact
 deriving Inhabited
@[simp] def Problem.cells (s:Problem):List PV:=[(s.boxes).pv Box.cells 4,(s.facts).pv Fact.cells 9]
@[simp] theorem Problem.eta (s:Problem):(⟨s.boxes,s.facts⟩:Problem)=s:=rfl
def subS (s t:Span):Prop:=t.lo≤s.lo∧s.hi≤t.hi
def subB (a b:Box):Prop:=subS a.x b.x∧subS a.y b.y
def wfB (b:Box):Prop:=b.x.lo≤b.x.hi∧b.y.lo≤b.y.hi
def SubL (l m:List Box):Prop:=l.length=m.length∧∀ i (h:i < l.length) (h':i < m.length),subB l[i] m[i]
def Wf (l:List Box):Prop:=∀ b∈l,wfB b
theorem subB_refl (b:Box):subB b b:=⟨⟨Int.le_refl _,Int.le_refl _⟩,⟨Int.le_refl _,Int.le_refl _⟩⟩
theorem subB_trans {a b c:Box} (h:subB a b) (h':subB b c):subB a c:=by unfold subB subS at *;omega
theorem subB_antisymm {a b:Box} (h:subB a b) (h':subB b a):a=b:=by
 obtain ⟨⟨a1,a2⟩,a3,a4⟩:=a;obtain ⟨⟨b1,b2⟩,b3,b4⟩:=b;unfold subB subS at *;simp only [Box.mk.injEq,Span.mk.injEq] at *;omega
theorem SubL.refl (l:List Box):SubL l l:=⟨rfl,fun i h h'=>subB_refl _⟩
theorem SubL.trans {l m k:List Box} (h:SubL l m) (h':SubL m k):SubL l k:=⟨h.1.trans h'.1,fun i a b=>subB_trans (h.2 i a (by rw [← h.1];exact a)) (h'.2 i _ b)⟩
theorem SubL.antisymm {l m:List Box} (h:SubL l m) (h':SubL m l):l=m :=
 List.ext_getElem h.1 fun i a b=>subB_antisymm (h.2 i a b) (h'.2 i b a)
theorem SubL.set {l m:List Box} (h:SubL l m) {i:Nat} {a b:Box} (hab:subB a b):SubL (l.set i a) (m.set i b) :=
 ⟨by simp [h.1],fun j h1 h2=>by
  rw [List.getElem_set,List.getElem_set]
  split
  ·exact hab
  ·exact h.2 j (by simpa using h1) (by simpa using h2)⟩
theorem Wf.set {l:List Box} (h:Wf l) {i:Nat} {a:Box} (ha:wfB a):Wf (l.set i a):=fun b hb=>by
 rcases List.mem_or_eq_of_mem_set hb with h1|rfl
 ·exact h b h1
 ·exact ha
def stripB (b:Box) (k:Nat):Box:=match k with
 | 0=>⟨⟨b.x.lo,b.x.lo⟩,b.y⟩
 | 1=>⟨⟨b.x.hi,b.x.hi⟩,b.y⟩
 | 2=>⟨b.x,⟨b.y.lo,b.y.lo⟩⟩
 | _=>⟨b.x,⟨b.y.hi,b.y.hi⟩⟩
def cutB (b:Box) (k:Nat):Box:=match k with
 | 0=>⟨⟨b.x.lo+1,b.x.hi⟩,b.y⟩
 | 1=>⟨⟨b.x.lo,b.x.hi - 1⟩,b.y⟩
 | 2=>⟨b.x,⟨b.y.lo+1,b.y.hi⟩⟩
 | _=>⟨b.x,⟨b.y.lo,b.y.hi - 1⟩⟩
def thinB (b:Box) (k:Nat):Prop:=if k < 2 then b.x.lo=b.x.hi else b.y.lo=b.y.hi
instance (b:Box) (k:Nat):Decidable (thinB b k):=by unfold thinB;infer_instance
theorem strip_wf {b:Box} (h:wfB b) (k:Nat):wfB (stripB b k):=by
 unfold wfB stripB at *
 split<;>(simp only;omega)
theorem strip_sub {b:Box} (h:wfB b) (k:Nat):subB (stripB b k) b:=by
 unfold wfB stripB subB subS at *
 split<;>(simp only;omega)
theorem cut_wf {b:Box} (h:wfB b) {k:Nat} (hk:k < 4) (ht:¬ thinB b k):wfB (cutB b k):=by
 unfold wfB cutB thinB at *;have:k=0∨k=1∨k=2∨k=3:=by omega
 rcases this with rfl|rfl|rfl|rfl<;>simp at *<;>omega
theorem cut_sub (b:Box) (k:Nat):subB (cutB b k) b:=by
 unfold cutB subB subS
 split<;>(simp only;omega)
theorem cut_or_strip {a b:Box} (h:subB a b) (ha:wfB a) {k:Nat} (hk:k < 4):subB a (cutB b k)∨subB (stripB a k) (stripB b k):=by
 unfold subB subS cutB stripB wfB at *;have:k=0∨k=1∨k=2∨k=3:=by omega
 rcases this with rfl|rfl|rfl|rfl<;>simp only<;>omega
theorem thin_strip {a b:Box} (h:subB a b) (ha:wfB a) {k:Nat} (hk:k < 4) (ht:thinB b k):subB (stripB a k) (stripB b k):=by
 unfold subB subS stripB wfB thinB at *;have:k=0∨k=1∨k=2∨k=3:=by omega
 rcases this with rfl|rfl|rfl|rfl<;>simp at *<;>omega
section
variable {F:Type} {fails:F→List Box→Prop} {facts:List F} {boxes:List Box}
def Anti (fails:F→List Box→Prop) (facts:List F) (n:Nat):Prop:=∀ f∈facts,∀ l m,m.length=n→Wf m→SubL l m→Wf l→fails f m→fails f l
def stripL (l:List Box) (i k:Nat):List Box:=match l[i]? with
 | some b=>l.set i (stripB b k)
 | none=>l
def cutL (l:List Box) (i k:Nat):List Box:=match l[i]? with
 | some b=>l.set i (cutB b k)
 | none=>l
theorem stripL_at {l:List Box} {i:Nat} (h:i < l.length) (k:Nat):stripL l i k=l.set i (stripB l[i] k):=by simp [stripL,h]
theorem cutL_at {l:List Box} {i:Nat} (h:i < l.length) (k:Nat):cutL l i k=l.set i (cutB l[i] k):=by simp [cutL,h]
def Stable (fails:F→List Box→Prop) (facts:List F) (l:List Box):Prop:=∀ i,i < l.length→∀ k,k < 4→∀ f∈facts,¬ fails f (stripL l i k)
structure Holds' (fails:F→List Box→Prop) (facts:List F) (boxes l:List Box):Prop where
 wf:Wf l
 sub:SubL l boxes
 all:∀ m,Wf m→SubL m boxes→Stable fails facts m→SubL m l
def IsNar (fails:F→List Box→Prop) (facts:List F) (boxes:List Box):Option (List Box)→Prop
 | some l=>Holds' fails facts boxes l∧Stable fails facts l
 | none=>∀ m,Wf m→SubL m boxes→¬ Stable fails facts m
theorem IsNar.unique {r s:Option (List Box)} (h:IsNar fails facts boxes r) (h':IsNar fails facts boxes s):r=s:=by
 cases r with
 | none=>cases s with
  | none=>rfl
  | some m=>exact absurd h'.2 (h m h'.1.wf h'.1.sub)
 | some l=>cases s with
  | none=>exact absurd h.2 (h' l h.1.wf h.1.sub)
  | some m=>rw [(h'.1.all l h.1.wf h.1.sub h.2).antisymm (h.1.all m h'.1.wf h'.1.sub h'.2)]
theorem Holds'.init (h:Wf boxes):Holds' fails facts boxes boxes:=⟨h,SubL.refl _,fun m _ hs _=>hs⟩
theorem Holds'.cut {l:List Box} (ha:Anti fails facts boxes.length) (h:Holds' fails facts boxes l) {i k:Nat} (hi:i < l.length) (hk:k < 4) {f:F} (hf:f∈facts) (hb:fails f (stripL l i k)) (ht:¬ thinB l[i] k) :
  Holds' fails facts boxes (cutL l i k):=by
 have hw:=h.wf _ (List.getElem_mem hi);rw [cutL_at hi]
 refine ⟨h.wf.set (cut_wf hw hk ht),⟨by simp [h.sub.1],fun j h1 h2=>?_⟩,fun m hm hs hst=>?_⟩
 ·rw [List.getElem_set]
  split
  ·rename_i e;subst e;exact subB_trans (cut_sub _ _) (h.sub.2 i hi h2)
  ·exact h.sub.2 j (by simpa using h1) h2
 ·have hml:=h.all m hm hs hst;have him:i < m.length:=by rw [hml.1];exact hi
  refine ⟨by simp [hml.1],fun j h1 h2=>?_⟩
  rw [List.getElem_set]
  split
  ·rename_i e;subst e;rcases cut_or_strip (hml.2 i him hi) (hm _ (List.getElem_mem him)) hk with h3|h3
   ·exact h3
   ·exfalso;have h4:=hst i him k hk f hf;rw [stripL_at him] at h4;rw [stripL_at hi] at hb;exact h4 (ha f hf _ _ (by simp [h.sub.1]) (h.wf.set (strip_wf hw k)) (hml.set h3) (hm.set (strip_wf (hm _ (List.getElem_mem him)) k)) hb)
  ·exact hml.2 j h1 (by simpa using h2)
theorem Holds'.empty {l:List Box} (ha:Anti fails facts boxes.length) (h:Holds' fails facts boxes l) {i k:Nat} (hi:i < l.length) (hk:k < 4) {f:F} (hf:f∈facts) (hb:fails f (stripL l i k)) (ht:thinB l[i] k) :
  IsNar fails facts boxes none:=by
 intro m hm hs hst;have hw:=h.wf _ (List.getElem_mem hi);have hml:=h.all m hm hs hst;have him:i < m.length:=by rw [hml.1];exact hi
 have h4:=hst i him k hk f hf;rw [stripL_at him] at h4;rw [stripL_at hi] at hb;exact h4 (ha f hf _ _ (by simp [h.sub.1]) (h.wf.set (strip_wf hw k)) (hml.set (thin_strip (hml.2 i him hi) (hm _ (List.getElem_mem him)) hk ht)) (hm.set (strip_wf (hm _ (List.getElem_mem him)) k)) hb)
theorem Holds'.fail {l:List Box} (ha:Anti fails facts boxes.length) (h:Holds' fails facts boxes l) (h0:0 < l.length) {f:F} (hf:f∈facts) (hb:fails f l):IsNar fails facts boxes none:=by
 intro m hm hs hst;have hml:=h.all m hm hs hst;have him:0 < m.length:=by rw [hml.1];exact h0
 refine hst 0 him 0 (by decide) f hf ?_
 rw [stripL_at him];have hs0:SubL (m.set 0 (stripB m[0] 0)) l:=by
  refine SubL.trans ⟨by simp,fun j h1 h2=>?_⟩ hml
  rw [List.getElem_set]
  split
  ·rename_i e;subst e;exact strip_sub (hm _ (List.getElem_mem him)) 0
  ·exact subB_refl _
 exact ha f hf _ _ h.sub.1 h.wf hs0 (hm.set (strip_wf (hm _ (List.getElem_mem him)) 0)) hb
def sizeB (b:Box):Nat:=(b.x.hi - b.x.lo).toNat+(b.y.hi - b.y.lo).toNat
def sizeL (l:List Box):Nat:=(l.map sizeB).sum
theorem cut_size {b:Box} (h:wfB b) {k:Nat} (hk:k < 4) (ht:¬ thinB b k):sizeB (cutB b k) < sizeB b:=by
 unfold wfB cutB thinB sizeB at *;have:k=0∨k=1∨k=2∨k=3:=by omega
 rcases this with rfl|rfl|rfl|rfl<;>simp at *<;>omega
theorem sum_set:∀ (l:List Nat) (i a:Nat) (h:i < l.length),a < l[i]→(l.set i a).sum < l.sum
 | b::l,0,a,_,ha=>by simp at ha ⊢;omega
 | b::l,i+1,a,h,ha=>by
  have:=sum_set l i a (by simpa using h) (by simpa using ha);simp;omega
theorem cutL_size {l:List Box} (hw:Wf l) {i k:Nat} (hi:i < l.length) (hk:k < 4) (ht:¬ thinB l[i] k):sizeL (cutL l i k) < sizeL l:=by
 rw [cutL_at hi];unfold sizeL;rw [List.map_set];exact sum_set _ i _ (by simpa using hi) (by simpa using cut_size (hw _ (List.getElem_mem hi)) hk ht)
theorem nar_ex' (ha:Anti fails facts boxes.length):∀ (N:Nat) (l:List Box),sizeL l≤N→Holds' fails facts boxes l→∃ r,IsNar fails facts boxes r:=by
 intro N
 induction N with
 | zero =>
  intro l hN h
  by_cases hs:Stable fails facts l
  ·exact ⟨some l,h,hs⟩
  ·have:∃ i,∃ hi:i < l.length,∃ k,k < 4∧∃ f∈facts,fails f (stripL l i k):=by
    refine Classical.byContradiction fun hc=>hs fun i hi k hk f hf hb=>hc ⟨i,hi,k,hk,f,hf,hb⟩
   obtain ⟨i,hi,k,hk,f,hf,hb⟩:=this
   by_cases ht:thinB l[i] k
   ·exact ⟨none,h.empty ha hi hk hf hb ht⟩
   ·have:=cutL_size h.wf hi hk ht;omega
 | succ N ih =>
  intro l hN h
  by_cases hs:Stable fails facts l
  ·exact ⟨some l,h,hs⟩
  ·have:∃ i,∃ hi:i < l.length,∃ k,k < 4∧∃ f∈facts,fails f (stripL l i k):=by
    refine Classical.byContradiction fun hc=>hs fun i hi k hk f hf hb=>hc ⟨i,hi,k,hk,f,hf,hb⟩
   obtain ⟨i,hi,k,hk,f,hf,hb⟩:=this
   by_cases ht:thinB l[i] k
   ·exact ⟨none,h.empty ha hi hk hf hb ht⟩
   ·have:=cutL_size h.wf hi hk ht;exact ih _ (by omega) (h.cut ha hi hk hf hb ht)
theorem nar_ex (ha:Anti fails facts boxes.length) (hw:Wf boxes):∃ r,IsNar fails facts boxes r:=nar_ex' ha _ boxes (Nat.le_refl _) (Holds'.init hw)
theorem Holds'.stop {l:List Box} (h:Holds' fails facts boxes l) (hs:Stable fails facts l) {r:Option (List Box)} (hr:IsNar fails facts boxes r):r=some l:=hr.unique (s:=some l) ⟨h,hs⟩
end
def lessS (a b:Span):Span:=⟨a.lo - b.hi,a.hi - b.lo⟩
def amountS (s:Span):Span:=if 0≤s.lo then s else if s.hi≤0 then ⟨-s.hi,-s.lo⟩ else ⟨0,max (-s.lo) s.hi⟩
def turnV (a b c:Pt):Int:=(b.x - a.x)*(c.y - a.y) - (b.y - a.y)*(c.x - a.x)
def cornersB (b:Box):List Pt:=[⟨b.x.lo,b.y.lo⟩,⟨b.x.lo,b.y.hi⟩,⟨b.x.hi,b.y.lo⟩,⟨b.x.hi,b.y.hi⟩]
def turnsL (a b c:Box):List Int:=(cornersB a).flatMap fun p=>(cornersB b).flatMap fun q=>(cornersB c).map fun r=>turnV p q r
def minL:List Int→Int
 | []=>0
 | a::l=>l.foldl min a
def maxL:List Int→Int
 | []=>0
 | a::l=>l.foldl max a
def turnS (a b c:Box):Span:=⟨minL (turnsL a b c),maxL (turnsL a b c)⟩
structure SpanOf (T:Int→Prop) (v:Span):Prop where
 bound:∀ t,T t→v.lo≤t∧t≤v.hi
 lo:T v.lo
 hi:T v.hi
theorem SpanOf.unique {T:Int→Prop} {v w:Span} (h:SpanOf T v) (h':SpanOf T w):v=w:=by
 have h1:=h.bound _ h'.lo;have h2:=h.bound _ h'.hi;have h3:=h'.bound _ h.lo;have h4:=h'.bound _ h.hi;obtain ⟨a,b⟩:=v;obtain ⟨c,d⟩:=w;simp only [Span.mk.injEq] at *;omega
theorem foldl_min:∀ (l:List Int) (a:Int),(l.foldl min a=a∨l.foldl min a∈l)∧l.foldl min a≤a∧∀ t∈l,l.foldl min a≤t
 | [],a=>by simp
 | b::l,a=>by
  obtain ⟨h1,h2,h3⟩:=foldl_min l (min a b);simp only [List.foldl_cons]
  refine ⟨?_,by omega,fun t ht=>?_⟩
  ·rcases h1 with h1|h1
   ·rw [h1]
    by_cases h:a≤b
    ·left;omega
    ·right;rw [show min a b=b by omega];exact List.mem_cons_self ..
   ·right;exact List.mem_cons_of_mem _ h1
  ·rcases List.mem_cons.1 ht with rfl|ht
   ·omega
   ·exact h3 t ht
theorem foldl_max:∀ (l:List Int) (a:Int),(l.foldl max a=a∨l.foldl max a∈l)∧a≤l.foldl max a∧∀ t∈l,t≤l.foldl max a
 | [],a=>by simp
 | b::l,a=>by
  obtain ⟨h1,h2,h3⟩:=foldl_max l (max a b);simp only [List.foldl_cons]
  refine ⟨?_,by omega,fun t ht=>?_⟩
  ·rcases h1 with h1|h1
   ·rw [h1]
    by_cases h:b≤a
    ·left;omega
    ·right;rw [show max a b=b by omega];exact List.mem_cons_self ..
   ·right;exact List.mem_cons_of_mem _ h1
  ·rcases List.mem_cons.1 ht with rfl|ht
   ·omega
   ·exact h3 t ht
theorem spanOf_list {l:List Int} (h:l≠[]):SpanOf (·∈l) ⟨minL l,maxL l⟩:=by
 cases l with
 | nil=>exact absurd rfl h
 | cons a l =>
  obtain ⟨m1,m2,m3⟩:=foldl_min l a;obtain ⟨x1,x2,x3⟩:=foldl_max l a
  refine ⟨fun t ht=>?_,?_,?_⟩
  ·rcases List.mem_cons.1 ht with rfl|ht
   ·exact ⟨m2,x2⟩
   ·exact ⟨m3 t ht,x3 t ht⟩
  ·rcases m1 with h|h
   ·show l.foldl min a∈_;rw [h];exact List.mem_cons_self ..
   ·exact List.mem_cons_of_mem _ h
  ·rcases x1 with h|h
   ·show l.foldl max a∈_;rw [h];exact List.mem_cons_self ..
   ·exact List.mem_cons_of_mem _ h
theorem turns_ne (a b c:Box):turnsL a b c≠[]:=by simp [turnsL,cornersB]
theorem turnS_span (a b c:Box):SpanOf (·∈turnsL a b c) (turnS a b c):=spanOf_list (turns_ne a b c)
def inB' (p:Pt) (b:Box):Prop:=b.x.lo≤p.x∧p.x≤b.x.hi∧b.y.lo≤p.y∧p.y≤b.y.hi
theorem affine (α β lo hi x m M:Int) (h1:lo≤x) (h2:x≤hi) (a1:m≤α * lo + β) (a2:m≤α * hi + β) (b1:α * lo + β≤M) (b2:α * hi + β≤M):m≤α * x + β∧α * x + β≤M:=by
 by_cases h:0≤α
 ·have h3:=Int.mul_le_mul_of_nonneg_left h1 h;have h4:=Int.mul_le_mul_of_nonneg_left h2 h;omega
 ·have h3:=Int.mul_le_mul_of_nonpos_left (a:=α) (by omega) h1;have h4:=Int.mul_le_mul_of_nonpos_left (a:=α) (by omega) h2;omega
theorem turn_between {a b c:Box} {p q r:Pt} (hp:inB' p a) (hq:inB' q b) (hr:inB' r c):(turnS a b c).lo≤turnV p q r∧turnV p q r≤(turnS a b c).hi:=by
 have hb:=(turnS_span a b c).bound;generalize (turnS a b c).lo=m at *;generalize (turnS a b c).hi=M at *;have h0:∀ p∈cornersB a,∀ q∈cornersB b,∀ r∈cornersB c,m≤turnV p q r∧turnV p q r≤M:=fun p hp q hq r hr =>
  hb _ (List.mem_flatMap.2 ⟨p,hp,List.mem_flatMap.2 ⟨q,hq,List.mem_map.2 ⟨r,hr,rfl⟩⟩⟩)
 -- from corners to all points,one point at a time
 have one:∀ (f:Pt→Int) (b:Box) (α β γ:Int),(∀ p,f p=α * p.x + β * p.y + γ)→(∀ p∈cornersB b,m≤f p∧f p≤M)→∀ p,inB' p b→m≤f p∧f p≤M:=by
  intro f b α β γ hf hc p hp;have e1:=hc ⟨b.x.lo,b.y.lo⟩ (by simp [cornersB]);have e2:=hc ⟨b.x.lo,b.y.hi⟩ (by simp [cornersB]);have e3:=hc ⟨b.x.hi,b.y.lo⟩ (by simp [cornersB]);have e4:=hc ⟨b.x.hi,b.y.hi⟩ (by simp [cornersB]);rw [hf] at e1 e2 e3 e4 ⊢;simp only at e1 e2 e3 e4;obtain ⟨p1,p2,p3,p4⟩:=hp;have g1:=affine α (β * b.y.lo + γ) b.x.lo b.x.hi p.x m M p1 p2 (by omega) (by omega) (by omega) (by omega);have g2:=affine α (β * b.y.hi + γ) b.x.lo b.x.hi p.x m M p1 p2 (by omega) (by omega) (by omega) (by omega);have g3:=affine β (α * p.x + γ) b.y.lo b.y.hi p.y m M p3 p4 (by omega) (by omega) (by omega) (by omega);omega
 have h1:∀ p∈cornersB a,∀ q∈cornersB b,∀ r,inB' r c→m≤turnV p q r∧turnV p q r≤M:=fun p hp q hq =>
  one (fun r=>turnV p q r) c (-(q.y - p.y)) (q.x - p.x) ((q.y - p.y)*p.x - (q.x - p.x)*p.y) (fun r=>by unfold turnV;grind) (fun r hr=>h0 p hp q hq r hr)
 have h2:∀ p∈cornersB a,∀ q,inB' q b→∀ r,inB' r c→m≤turnV p q r∧turnV p q r≤M:=fun p hp q hq r hr =>
  one (fun q=>turnV p q r) b (r.y - p.y) (-(r.x - p.x)) (p.y*(r.x - p.x) - p.x*(r.y - p.y)) (fun q=>by unfold turnV;grind) (fun q hq=>h1 p hp q hq r hr) q hq
 exact one (fun p=>turnV p q r) a (q.y - r.y) (r.x - q.x) (q.x*r.y - q.y*r.x) (fun p=>by unfold turnV;grind) (fun p hp=>h2 p hp q hq r hr) p hp
theorem corner_in {a b:Box} (h:subB a b) (ha:wfB a) {p:Pt} (hp:p∈cornersB a):inB' p b:=by
 unfold subB subS wfB at *;simp only [cornersB,List.mem_cons,List.not_mem_nil,or_false] at hp;unfold inB';rcases hp with rfl|rfl|rfl|rfl<;>simp only<;>omega
theorem turn_sub {a b c a' b' c':Box} (ha:subB a' a) (hb:subB b' b) (hc:subB c' c) (wa:wfB a') (wb:wfB b') (wc:wfB c'):subS (turnS a' b' c') (turnS a b c):=by
 have h:=turnS_span a' b' c';have key:∀ t∈turnsL a' b' c',(turnS a b c).lo≤t∧t≤(turnS a b c).hi:=fun t ht=>by
  obtain ⟨p,hp,ht⟩:=List.mem_flatMap.1 ht;obtain ⟨q,hq,ht⟩:=List.mem_flatMap.1 ht;obtain ⟨r,hr,rfl⟩:=List.mem_map.1 ht;exact turn_between (corner_in ha wa hp) (corner_in hb wb hq) (corner_in hc wc hr)
 exact ⟨(key _ h.lo).1,(key _ h.hi).2⟩
def valuedS (s v:Span):Bool×Bool:=(decide (v.lo≤s.hi)&&decide (s.lo≤v.hi),decide (s.lo≤v.lo)&&decide (v.hi≤s.hi))
def distS (x y:Span):Span:=⟨x.lo*x.lo+y.lo*y.lo,x.hi*x.hi+y.hi*y.hi⟩
def aheadS (q:Int) (x y:Span):Span×Span:=if q=1 then (y,x) else if q=2 then (⟨-x.hi,-x.lo⟩,y) else if q=3 then (⟨-y.hi,-y.lo⟩,x) else (x,y)
def quarterS (u w:Span):Bool×Bool:=(decide (0 < u.hi)&&decide ((amountS w).lo≤u.hi),decide (0 < u.lo)&&decide ((amountS w).hi≤u.lo))
def nearS' (s x y:Span):Bool×Bool:=(decide (max x.lo y.lo≤s.hi),decide (max x.hi y.hi≤s.hi))
def bareS (f:Fact) (l:List Box):Bool×Bool :=
 let a:=l[f.a.toNat]!
 let b:=l[f.b.toNat]!
 let x:=lessS b.x a.x
 let y:=lessS b.y a.y
 if f.kind=2 then valuedS f.span (turnS a b l[f.c.toNat]!)
 else if f.kind=3 then quarterS (aheadS f.quarter x y).1 (aheadS f.quarter x y).2
 else if f.kind=4 then nearS' f.span (amountS x) (amountS y)
 else if f.kind=5 then valuedS f.span x
 else if f.kind=6 then valuedS f.span y
 else valuedS f.span (distS (amountS x) (amountS y))
def failsS (f:Fact) (l:List Box):Bool:=if f.nt=true then (bareS f l).2 else !(bareS f l).1
structure Named (f:Fact) (n:Nat):Prop where
 a:0≤f.a∧f.a < n
 b:0≤f.b∧f.b < n
 c:0≤f.c∧f.c < n
def tight (r s:Bool×Bool):Prop:=(r.1=true→s.1=true)∧(s.2=true→r.2=true)
theorem valued_tight {s v w:Span} (h:subS v w):tight (valuedS s v) (valuedS s w):=by
 unfold tight valuedS subS at *;simp only [Bool.and_eq_true,decide_eq_true_eq];omega
theorem less_sub {a b a' b':Span} (ha:subS a' a) (hb:subS b' b):subS (lessS a' b') (lessS a b):=by
 unfold subS lessS at *;simp only;omega
theorem less_wf {a b:Span} (ha:a.lo≤a.hi) (hb:b.lo≤b.hi):(lessS a b).lo≤(lessS a b).hi:=by unfold lessS;simp only;omega
theorem amount_sub {s t:Span} (h:subS s t) (hs:s.lo≤s.hi):subS (amountS s) (amountS t):=by
 unfold subS amountS at *
 split<;>split<;>(try split)<;>(try split)<;>(try simp only at *)<;>omega
theorem amount_nn {s:Span} (hs:s.lo≤s.hi):0≤(amountS s).lo∧(amountS s).lo≤(amountS s).hi:=by
 unfold amountS
 split
 ·exact ⟨by assumption,hs⟩
 ·split<;>(simp only;omega)
theorem dist_sub {x y x' y':Span} (hx:subS x' x) (hy:subS y' y) (h1:0≤x.lo) (h2:0≤y.lo) (h3:x'.lo≤x'.hi) (h4:y'.lo≤y'.hi):subS (distS x' y') (distS x y):=by
 unfold subS distS at *;have a1:=Int.mul_le_mul hx.1 hx.1 h1 (by omega);have a2:=Int.mul_le_mul hy.1 hy.1 h2 (by omega);have a3:=Int.mul_le_mul hx.2 hx.2 (by omega) (by omega);have a4:=Int.mul_le_mul hy.2 hy.2 (by omega) (by omega);simp only;omega
theorem ahead_sub {q:Int} {x y x' y':Span} (hx:subS x' x) (hy:subS y' y):subS (aheadS q x' y').1 (aheadS q x y).1∧subS (aheadS q x' y').2 (aheadS q x y).2:=by
 unfold aheadS subS at *
 split
 ·exact ⟨hy,hx⟩
 ·split
  ·simp only;omega
  ·split<;>(simp only;omega)
theorem ahead_wf {q:Int} {x y:Span} (hx:x.lo≤x.hi) (hy:y.lo≤y.hi):(aheadS q x y).1.lo≤(aheadS q x y).1.hi∧(aheadS q x y).2.lo≤(aheadS q x y).2.hi:=by
 unfold aheadS
 split
 ·exact ⟨hy,hx⟩
 ·split
  ·simp only;omega
  ·split<;>(simp only;omega)
theorem bare_tight {f:Fact} {l m:List Box} (hn:Named f m.length) (hs:SubL l m) (hw:Wf l) (hwm:Wf m):tight (bareS f l) (bareS f m):=by
 have ha:f.a.toNat < m.length:=by have:=hn.a;omega
 have hb:f.b.toNat < m.length:=by have:=hn.b;omega
 have hc:f.c.toNat < m.length:=by have:=hn.c;omega
 have ha':f.a.toNat < l.length:=by rw [hs.1];exact ha
 have hb':f.b.toNat < l.length:=by rw [hs.1];exact hb
 have hc':f.c.toNat < l.length:=by rw [hs.1];exact hc
 have sa:=hs.2 _ ha' ha;have sb:=hs.2 _ hb' hb;have sc:=hs.2 _ hc' hc;have wa:=hw _ (List.getElem_mem ha');have wb:=hw _ (List.getElem_mem hb');have wc:=hw _ (List.getElem_mem hc');have wa2:=hwm _ (List.getElem_mem ha);have wb2:=hwm _ (List.getElem_mem hb);unfold bareS;simp only [getElem!_pos m f.a.toNat ha,getElem!_pos m f.b.toNat hb,getElem!_pos m f.c.toNat hc,getElem!_pos l f.a.toNat ha',getElem!_pos l f.b.toNat hb',getElem!_pos l f.c.toNat hc'];generalize m[f.a.toNat]=a at *;generalize m[f.b.toNat]=b at *;generalize m[f.c.toNat]=c at *;generalize l[f.a.toNat]=a' at *;generalize l[f.b.toNat]=b' at *;generalize l[f.c.toNat]=c' at *;have lx:=less_sub sb.1 sa.1;have ly:=less_sub sb.2 sa.2;have wx:=less_wf wb.1 wa.1;have wy:=less_wf wb.2 wa.2;have wx2:=less_wf wb2.1 wa2.1;have wy2:=less_wf wb2.2 wa2.2;generalize hX:lessS b.x a.x=X at *;generalize hY:lessS b.y a.y=Y at *;generalize hX':lessS b'.x a'.x=X' at *;generalize hY':lessS b'.y a'.y=Y' at *
 split
 ·exact valued_tight (turn_sub sa sb sc wa wb wc)
 ·split
  ·obtain ⟨u1,u2⟩:=ahead_sub (q:=f.quarter) lx ly;obtain ⟨u3,u4⟩:=ahead_wf (q:=f.quarter) wx wy;have u5:=amount_sub u2 u4;unfold tight quarterS subS at *;simp only [Bool.and_eq_true,decide_eq_true_eq];omega
  ·have ax:=amount_sub lx wx;have ay:=amount_sub ly wy
   split
   ·unfold tight nearS' subS at *;simp only [decide_eq_true_eq];omega
   ·split
    ·exact valued_tight lx
    ·split
     ·exact valued_tight ly
     ·exact valued_tight (dist_sub ax ay (amount_nn wx2).1 (amount_nn wy2).1 (amount_nn wx).2 (amount_nn wy).2)
theorem fails_less {f:Fact} {l m:List Box} (hn:Named f m.length) (hs:SubL l m) (hw:Wf l) (hwm:Wf m) (h:failsS f m=true):failsS f l=true:=by
 obtain ⟨h1,h2⟩:=bare_tight hn hs hw hwm;unfold failsS at *
 split
 ·rename_i hnt;rw [if_pos hnt] at h;exact h2 h
 ·rename_i hnt;rw [if_neg hnt] at h
  cases hb:(bareS f l).1 with
  | false=>rfl
  | true=>rw [h1 hb] at h;simp at h
inductive Conn (E:List (Nat×Nat)):Nat→Nat→Prop
 | refl (i:Nat):Conn E i i
 | edge {a b:Nat} (h:(a,b)∈E):Conn E a b
 | symm {a b:Nat} (h:Conn E a b):Conn E b a
 | trans {a b c:Nat} (h:Conn E a b) (h':Conn E b c):Conn E a c
theorem Conn.mono {E E':List (Nat×Nat)} (hs:∀ e∈E,e∈E') {a b:Nat} (h:Conn E a b):Conn E' a b:=by
 induction h with
 | refl i=>exact .refl i
 | edge h=>exact .edge (hs _ h)
 | symm _ ih=>exact .symm ih
 | trans _ _ ih1 ih2=>exact .trans ih1 ih2
theorem Conn.keep {E:List (Nat×Nat)} {α:Type} (g:Nat→α) (hg:∀ e∈E,g e.1=g e.2) {a b:Nat} (h:Conn E a b):g a=g b:=by
 induction h with
 | refl i=>rfl
 | edge h=>exact hg _ h
 | symm _ ih=>exact ih.symm
 | trans _ _ ih1 ih2=>exact ih1.trans ih2
structure IsCls (E:List (Nat×Nat)) (n:Nat) (g:Nat→Nat):Prop where
 le:∀ i,i < n→g i≤i
 conn:∀ i,i < n→Conn E i (g i)
 keep:∀ e∈E,g e.1=g e.2
theorem IsCls.unique {E:List (Nat×Nat)} {n:Nat} {g g':Nat→Nat} (h:IsCls E n g) (h':IsCls E n g'):∀ i,i < n→g i=g' i:=fun i hi=>by
 have h1:=(h'.conn i hi).keep g h.keep;have h2:=(h.conn i hi).keep g' h'.keep;have l1:=h.le i hi;have l2:=h'.le i hi;have h3:=h.le (g' i) (by omega);have h4:=h'.le (g i) (by omega);omega
theorem IsCls.nil (n:Nat):IsCls [] n (fun i=>i):=⟨fun i _=>Nat.le_refl _,fun i _=>.refl i,fun e h=>by simp at h⟩
def joinG (g:Nat→Nat) (a b:Nat):Nat→Nat:=fun i=>if g i=max (g a) (g b) then min (g a) (g b) else g i
theorem IsCls.join {E:List (Nat×Nat)} {n:Nat} {g:Nat→Nat} (h:IsCls E n g) {a b:Nat} (ha:a < n) (hb:b < n):IsCls (E++[(a,b)]) n (joinG g a b):=by
 have hE:∀ e∈E,e∈E++[(a,b)]:=fun e he=>List.mem_append_left _ he;have hab:Conn (E++[(a,b)]) a b:=.edge (by simp);have ca:=(h.conn a ha).mono hE;have cb:=(h.conn b hb).mono hE
 refine ⟨fun i hi=>?_,fun i hi=>?_,fun e he=>?_⟩
 ·unfold joinG;have:=h.le i hi
  split
  ·rename_i e;omega
  ·exact this
 ·unfold joinG;have ci:=(h.conn i hi).mono hE
  split
  ·rename_i e;rw [e] at ci
   refine ci.trans ?_
   rcases Nat.le_total (g a) (g b) with hl|hl
   ·rw [Nat.max_eq_right hl,Nat.min_eq_left hl];exact (cb.symm.trans hab.symm).trans ca
   ·rw [Nat.max_eq_left hl,Nat.min_eq_right hl];exact (ca.symm.trans hab).trans cb
  ·exact ci
 ·rcases List.mem_append.1 he with he|he
  ·have:=h.keep e he;unfold joinG;rw [this]
  ·simp at he;subst he;unfold joinG;simp only;rcases Nat.le_total (g a) (g b) with hl|hl
   ·rw [Nat.max_eq_right hl,Nat.min_eq_left hl,if_pos rfl]
    split<;>omega
   ·rw [Nat.max_eq_left hl,Nat.min_eq_right hl,if_pos rfl]
    split<;>omega
theorem IsCls.idem {E:List (Nat×Nat)} {n:Nat} {g:Nat→Nat} (h:IsCls E n g) {i:Nat} (hi:i < n):g (g i)=g i:=((h.conn i hi).keep g h.keep).symm
structure OnWay (E:List (Nat×Nat)) (n:Nat) (g:Nat→Nat):Prop where
 le:∀ i,i < n→g i≤i
 conn:∀ i,i < n→Conn E i (g i)
theorem OnWay.start (E:List (Nat×Nat)) (n:Nat):OnWay E n (fun i=>i):=⟨fun i _=>Nat.le_refl _,fun i _=>.refl i⟩
def doneN (m g:Nat→Nat) (n:Nat):Nat:=(List.range n).countP fun i=>g i == m i
theorem doneN_le (m g:Nat→Nat) (n:Nat):doneN m g n≤n:=by
 have:=List.countP_le_length (p:=fun i=>g i == m i) (l:=List.range n)
 simpa [doneN] using this
theorem doneN_mono {m g g':Nat→Nat} {n:Nat} (h:∀ i,i < n→g i=m i→g' i=m i):doneN m g n≤doneN m g' n:=by
 unfold doneN
 refine List.countP_mono_left fun i hi h1=>?_
 simp at *;exact h i hi h1
theorem doneN_lt {m g g':Nat→Nat} {n:Nat} (h:∀ i,i < n→g i=m i→g' i=m i) {j:Nat} (hj:j < n) (h1:g j≠m j) (h2:g' j=m j):doneN m g n < doneN m g' n:=by
 induction n with
 | zero=>omega
 | succ n ih =>
  unfold doneN at *;rw [List.range_succ,List.countP_append,List.countP_append];simp only [List.countP_singleton]
  by_cases e:j=n
  ·subst e;have:=doneN_mono (m:=m) (g:=g) (g':=g') (n:=j) (fun i hi=>h i (by omega));unfold doneN at this;simp [h1,h2];omega
  ·have:=ih (fun i hi=>h i (by omega)) (by omega)
   by_cases e1:g n=m n
   ·have:=h n (by omega) e1;simp [e1,this];omega
   ·simp [e1]
    split<;>omega
theorem doneN_all {m g:Nat→Nat} {n:Nat} (h:n≤doneN m g n):∀ i,i < n→g i=m i:=by
 intro i hi;have:=List.countP_eq_length.1 (show (List.range n).countP (fun i=>g i == m i)=(List.range n).length by
  have h1:=doneN_le m g n;unfold doneN at *;rw [List.length_range];omega) i (List.mem_range.2 hi)
 simpa using this
theorem round_done {E:List (Nat×Nat)} {n:Nat} {m g g':Nat→Nat} (hm:IsCls E n m) (hE:∀ e∈E,e.1 < n∧e.2 < n) (h:OnWay E n g) (h':OnWay E n g') (hle:∀ i,i < n→g' i≤g i) (hr:∀ e∈E,g' e.1≤g e.2∧g' e.2≤g e.1) :
  n≤doneN m g' n∨doneN m g n < doneN m g' n:=by
 -- labels never pass the least one
 have low:∀ (f:Nat→Nat),OnWay E n f→∀ i,i < n→m i≤f i:=fun f hf i hi=>by
  have h1:=(hf.conn i hi).keep m hm.keep;have h2:=hf.le i hi;have h3:=hm.le (f i) (by omega);omega
 have keepd:∀ i,i < n→g i=m i→g' i=m i:=fun i hi e=>by
  have:=low g' h' i hi;have:=hle i hi;omega
 by_cases hall:∀ i,i < n→g i=m i
 ·left;have:=doneN_mono (m:=m) (g:=m) (g':=g') (n:=n) fun i hi _=>keepd i hi (hall i hi);have h1:doneN m m n=n:=by simp [doneN]
  omega
 ·right
  -- an edge from a label that is done to one that is not
  have key:∃ e∈E,(g e.1=m e.1∧g e.2≠m e.2)∨(g e.2=m e.2∧g e.1≠m e.1):=by
   refine Classical.byContradiction fun hc=>hall fun i hi=>?_
   -- being done is kept by the edges,and the first point of a part is done
   have hk:=(hm.conn i hi).keep (fun j=>decide (g j=m j)) (fun e he=>by
    rw [decide_eq_decide]
    constructor
    ·intro h1;exact Classical.byContradiction fun h2=>hc ⟨e,he,.inl ⟨h1,h2⟩⟩
    ·intro h1;exact Classical.byContradiction fun h2=>hc ⟨e,he,.inr ⟨h1,h2⟩⟩)
   rw [decide_eq_decide] at hk
   refine hk.2 ?_
   have hmi:=hm.le i hi;have h1:=low g h (m i) (by omega);have h2:=h.le (m i) (by omega);have h3:=hm.idem hi;omega
  obtain ⟨e,he,hx⟩:=key;obtain ⟨e1,e2⟩:=hE e he;have h3:=hm.keep e he;have h4:=hr e he;rcases hx with ⟨a1,a2⟩|⟨a1,a2⟩
  ·refine doneN_lt keepd e2 a2 ?_
   have:=low g' h' e.2 e2;omega
  ·refine doneN_lt keepd e1 a2 ?_
   have:=low g' h' e.1 e1;omega
def edgesF (f:Fact):List (Nat×Nat):=(f.a.toNat,f.b.toNat)::if f.kind=2 then [(f.a.toNat,f.c.toNat)] else []
def edgesL (fs:List Fact):List (Nat×Nat):=fs.flatMap edgesF
def partL (g:Nat→Nat) (n i:Nat):List Nat:=(List.range n).filter fun k=>g k == i
def partsL' (g:Nat→Nat) (n:Nat):List (List Nat):=((List.range n).filter fun i=>g i == i).map (partL g n)
theorem partsL_congr {g g':Nat→Nat} {n:Nat} (h:∀ i,i < n→g i=g' i):partsL' g n=partsL' g' n:=by
 have h1:∀ i,partL g n i=partL g' n i:=fun i=>by
  unfold partL
  refine List.filter_congr fun k hk=>?_
  rw [h k (List.mem_range.1 hk)]
 unfold partsL';rw [List.filter_congr (q:=fun i=>g' i == i) fun k hk=>by rw [h k (List.mem_range.1 hk)]];exact List.map_congr_left fun i _=>h1 i
def atB (p:Pt):Box:=⟨⟨p.x,p.x⟩,⟨p.y,p.y⟩⟩
def numsS (s:Span):List Int:=(List.range (s.hi - s.lo+1).toNat).map fun i=>s.lo+(i:Nat)
def placesB (b:Box):List Pt:=(numsS b.x).flatMap fun x=>(numsS b.y).map fun y=>⟨x,y⟩
theorem mem_nums {s:Span} {v:Int}:v∈numsS s↔s.lo≤v∧v≤s.hi:=by
 unfold numsS;simp only [List.mem_map,List.mem_range]
 constructor
 ·rintro ⟨i,hi,rfl⟩;omega
 ·rintro ⟨h1,h2⟩;exact ⟨(v - s.lo).toNat,by omega,by omega⟩
theorem mem_places {b:Box} {p:Pt}:p∈placesB b↔inB' p b:=by
 unfold placesB inB';simp only [List.mem_flatMap,List.mem_map]
 constructor
 ·rintro ⟨x,hx,y,hy,rfl⟩;have h1:=mem_nums.1 hx;have h2:=mem_nums.1 hy;exact ⟨h1.1,h1.2,h2.1,h2.2⟩
 ·rintro ⟨h1,h2,h3,h4⟩;exact ⟨p.x,mem_nums.2 ⟨h1,h2⟩,p.y,mem_nums.2 ⟨h3,h4⟩,rfl⟩
theorem nums_length (s:Span):(numsS s).length=(s.hi - s.lo+1).toNat:=by simp [numsS]
theorem flat_length {α β:Type} (f:α→List β) (n:Nat):∀ l:List α,(∀ a∈l,(f a).length=n)→(l.flatMap f).length=l.length*n
 | [],_=>by simp
 | a::l,h=>by
  rw [List.flatMap_cons,List.length_append,flat_length f n l (fun b hb=>h b (List.mem_cons_of_mem _ hb)),h a (List.mem_cons_self ..),List.length_cons,Nat.add_mul];omega
theorem places_length (b:Box):(placesB b).length=(b.x.hi - b.x.lo+1).toNat*(b.y.hi - b.y.lo+1).toNat:=by
 unfold placesB;rw [flat_length _ (b.y.hi - b.y.lo+1).toNat _ (fun a _=>by simp [nums_length]),nums_length]
def allC (l:List Box):List Nat→List (List Pt)
 | []=>[[]]
 | i::rest=>(placesB l[i]!).flatMap fun x=>(allC l rest).map (x :: ·)
def enumC (ok:Nat→List Box→Bool) (l:List Box):List Nat→Nat→List Box→List (List Pt)
 | [],_,_=>[[]]
 | i::rest,k,here=>(placesB l[i]!).flatMap fun x=>if ok k (here.set i (atB x))=true then (enumC ok l rest (k+1) (here.set i (atB x))).map (x :: ·) else []
def okAll (ok:Nat→List Box→Bool):List Nat→Nat→List Box→List Pt→Bool
 | i::rest,k,here,x::c=>ok k (here.set i (atB x))&&okAll ok rest (k+1) (here.set i (atB x)) c
 | _,_,_,_=>true
theorem filter_flatMap {α β:Type} (p:β→Bool) (f:α→List β):∀ l:List α,(l.flatMap f).filter p=l.flatMap fun a=>(f a).filter p
 | []=>rfl
 | a::l=>by rw [List.flatMap_cons,List.flatMap_cons,List.filter_append,filter_flatMap p f l]
theorem flatMap_congr' {α β:Type} {f g:α→List β}:∀ {l:List α},(∀ a∈l,f a=g a)→l.flatMap f=l.flatMap g
 | [],_=>rfl
 | a::l,h=>by rw [List.flatMap_cons,List.flatMap_cons,h a (List.mem_cons_self ..),flatMap_congr' fun b hb=>h b (List.mem_cons_of_mem _ hb)]
theorem enum_filter (ok:Nat→List Box→Bool) (l:List Box):∀ (part:List Nat) (k:Nat) (here:List Box),enumC ok l part k here=(allC l part).filter (okAll ok part k here)
 | [],k,here=>by simp [enumC,allC,okAll]
 | i::rest,k,here=>by
  rw [enumC,allC,filter_flatMap]
  refine flatMap_congr' fun x _=>?_
  rw [List.filter_map];have ih:=enum_filter ok l rest (k+1) (here.set i (atB x))
  by_cases h:ok k (here.set i (atB x))=true
  ·rw [if_pos h,ih]
   congr 2
   funext c
   simp [okAll,h]
  ·rw [if_neg h];have:(okAll ok (i::rest) k here ∘ fun c=>x::c)=fun _=>false:=by
    funext c
    simp only [Function.comp_def,okAll];simp at h;simp [h]
   rw [this];simp
theorem mem_allC {l:List Box}:∀ {part:List Nat} {c:List Pt},c∈allC l part↔c.length=part.length∧∀ k (h:k < part.length) (h':k < c.length),inB' c[k] l[part[k]]!
 | [],c=>by
  simp only [allC,List.mem_singleton,List.length_nil]
  constructor
  ·rintro rfl;exact ⟨rfl,fun k h=>by simp at h⟩
  ·rintro ⟨h,_⟩;exact List.eq_nil_of_length_eq_zero h
 | i::rest,c=>by
  simp only [allC,List.mem_flatMap,List.mem_map]
  constructor
  ·rintro ⟨x,hx,d,hd,rfl⟩;obtain ⟨h1,h2⟩:=(mem_allC (l:=l)).1 hd
   refine ⟨by simp [h1],fun k h h'=>?_⟩
   cases k with
   | zero=>simpa using mem_places.1 hx
   | succ k=>simpa using h2 k (by simpa using h) (by simpa using h')
  ·rintro ⟨h1,h2⟩
   cases c with
   | nil=>simp at h1
   | cons x d =>
    refine ⟨x,mem_places.2 (h2 0 (by simp) (by simp)),d,(mem_allC (l:=l)).2 ⟨by simpa using h1,fun k h h'=>?_⟩,rfl⟩
    exact h2 (k+1) (by simp;omega) (by simp;omega)
def agreeF (f:Fact) (l m:List Box):Prop:=l[f.a.toNat]! = m[f.a.toNat]! ∧ l[f.b.toNat]! = m[f.b.toNat]! ∧ (f.kind=2→l[f.c.toNat]! = m[f.c.toNat]!)
theorem fails_congr {f:Fact} {l m:List Box} (h:agreeF f l m):failsS f l=failsS f m:=by
 obtain ⟨h1,h2,h3⟩:=h;unfold failsS bareS;rw [h1,h2]
 by_cases hk:f.kind=2
 ·rw [h3 hk]
 ·simp only [if_neg hk]
def setAll:List Nat→List Pt→List Box→List Box
 | i::part,x::c,here=>setAll part c (here.set i (atB x))
 | _,_,here=>here
theorem setAll_length:∀ (part:List Nat) (c:List Pt) (here:List Box),(setAll part c here).length=here.length
 | [],_,_=>by simp [setAll]
 | _::_,[],_=>by simp [setAll]
 | i::part,x::c,here=>by rw [setAll,setAll_length];simp
theorem setAll_out:∀ (part:List Nat) (c:List Pt) (here:List Box) (j:Nat),j ∉ part→(setAll part c here)[j]! = here[j]!
 | [],_,_,_,_=>by simp [setAll]
 | _::_,[],_,_,_=>by simp [setAll]
 | i::part,x::c,here,j,h=>by
  rw [setAll,setAll_out part c _ j (fun hm=>h (List.mem_cons_of_mem _ hm))];have:i≠j:=fun e=>h (by rw [e];exact List.mem_cons_self ..);simp [List.getElem?_set,this]
theorem setAll_at:∀ (part:List Nat) (c:List Pt) (here:List Box),part.Nodup→c.length=part.length→(∀ i∈part,i < here.length)→∀ k (h:k < part.length) (h':k < c.length),(setAll part c here)[part[k]]! = atB c[k]
 | [],_,_,_,_,_,k,h,_=>by simp at h
 | _::_,[],_,_,hc,_,_,_,_=>by simp at hc
 | i::part,x::c,here,hn,hc,hi,k,h,h'=>by
  rw [setAll];have hn':=List.nodup_cons.1 hn
  cases k with
  | zero =>
   simp only [List.getElem_cons_zero];rw [setAll_out _ _ _ _ hn'.1];have:=hi i (List.mem_cons_self ..);simp [List.getElem?_set,this]
  | succ k =>
   simp only [List.getElem_cons_succ];exact setAll_at part c _ hn'.2 (by simpa using hc) (fun j hj=>by rw [List.length_set];exact hi j (List.mem_cons_of_mem _ hj)) k (by simpa using h) (by simpa using h')
def lastK (part:List Nat) (f:Fact):Nat:=max (max (part.idxOf f.a.toNat) (part.idxOf f.b.toNat)) (if f.kind=2 then part.idxOf f.c.toNat else 0)
structure Within (part:List Nat) (f:Fact):Prop where
 a:f.a.toNat∈part
 b:f.b.toNat∈part
 c:f.kind=2→f.c.toNat∈part
theorem take_agree {part:List Nat} {c:List Pt} {here:List Box} {f:Fact} (hn:part.Nodup) (hw:Within part f) {k:Nat} (hk:lastK part f < k):agreeF f (setAll (part.take k) (c.take k) here) (setAll part c here):=by
 have key:∀ (part:List Nat) (c:List Pt) (here:List Box) (k j:Nat),part.Nodup→j∈part→part.idxOf j < k→(setAll (part.take k) (c.take k) here)[j]! = (setAll part c here)[j]! := by
  intro part
  induction part with
  | nil=>intro c here k j _ hj;simp at hj
  | cons i part ih =>
   intro c here k j hn hj hk
   cases k with
   | zero=>omega
   | succ k =>
    cases c with
    | nil=>simp [setAll]
    | cons x c =>
     simp only [List.take_succ_cons,setAll];have hn':=List.nodup_cons.1 hn
     by_cases e:i=j
     ·subst e;rw [setAll_out _ _ _ _ (fun h=>hn'.1 (List.mem_of_mem_take h)),setAll_out _ _ _ _ hn'.1]
     ·have hj':j∈part:=by
       rcases List.mem_cons.1 hj with h|h
       ·exact absurd h.symm e
       ·exact h
      rw [List.idxOf_cons] at hk;have:(i == j)=false:=by simpa using e
      rw [this] at hk;simp only [cond_false] at hk;exact ih c _ k j hn'.2 hj' (by omega)
 unfold lastK at hk
 refine ⟨key _ _ _ _ _ hn hw.a (by omega),key _ _ _ _ _ hn hw.b (by omega),fun h2=>?_⟩
 rw [if_pos h2] at hk;exact key _ _ _ _ _ hn (hw.c h2) (by omega)
def okK (facts:List Fact) (part:List Nat) (k:Nat) (here:List Box):Bool:=facts.all fun f=>!(part.contains f.a.toNat&&decide (lastK part f=k)) || !failsS f here
theorem okAll_iff {facts:List Fact} {whole:List Nat}:∀ (rest:List Nat) (k:Nat) (here:List Box) (c:List Pt),c.length=rest.length →
  (okAll (okK facts whole) rest k here c=true↔∀ j,j < rest.length→okK facts whole (k+j) (setAll (rest.take (j+1)) (c.take (j+1)) here)=true)
 | [],k,here,c,hc=>by simp [okAll]
 | i::rest,k,here,[],hc=>by simp at hc
 | i::rest,k,here,x::c,hc=>by
  have ih:=okAll_iff (facts:=facts) (whole:=whole) rest (k+1) (here.set i (atB x)) c (by simpa using hc);rw [okAll,Bool.and_eq_true,ih]
  constructor
  ·rintro ⟨h1,h2⟩ j hj
   cases j with
   | zero=>simpa [setAll] using h1
   | succ j =>
    have:=h2 j (by simpa using hj);rw [show k+(j+1)=k+1+j by omega]
    simpa [setAll] using this
  ·intro h
   refine ⟨by simpa [setAll] using h 0 (by simp),fun j hj=>?_⟩
   have:=h (j+1) (by simpa using hj);rw [show k+(j+1)=k+1+j by omega] at this
   simpa [setAll] using this
theorem okAll_all {facts:List Fact} {part:List Nat} {l:List Box} {c:List Pt} (hn:part.Nodup) (hc:c.length=part.length) (hw:∀ f∈facts,f.a.toNat∈part→Within part f) :
  okAll (okK facts part) part 0 l c=true↔∀ f∈facts,f.a.toNat∈part→failsS f (setAll part c l)=false:=by
 rw [okAll_iff part 0 l c hc];have hlast:∀ f∈facts,f.a.toNat∈part→lastK part f < part.length:=fun f hf ha=>by
  have w:=hw f hf ha;have h1:=List.idxOf_lt_length_of_mem w.a;have h2:=List.idxOf_lt_length_of_mem w.b;unfold lastK
  by_cases h3:f.kind=2
  ·have:=List.idxOf_lt_length_of_mem (w.c h3);rw [if_pos h3];omega
  ·rw [if_neg h3];omega
 constructor
 ·intro h f hf ha;have h1:=h (lastK part f) (hlast f hf ha);unfold okK at h1;rw [List.all_eq_true] at h1;have h2:=h1 f hf;simp only [Nat.zero_add,decide_true,Bool.and_true,Bool.or_eq_true,Bool.not_eq_true',List.contains_iff_mem,List.elem_eq_mem] at h2;rw [← fails_congr (take_agree (k:=lastK part f+1) hn (hw f hf ha) (by omega))];rcases h2 with h2|h2
  ·simp [ha] at h2
  ·exact h2
 ·intro h j hj;unfold okK;rw [List.all_eq_true];intro f hf
  by_cases ha:f.a.toNat∈part
  ·by_cases hk:lastK part f=j
   ·have:=h f hf ha;rw [← fails_congr (take_agree (k:=j+1) hn (hw f hf ha) (by omega))] at this;simp [this]
   ·simp [hk]
  ·simp [ha]
def solsC (facts:List Fact) (l:List Box) (part:List Nat):List (List Pt):=enumC (okK facts part) l part 0 l
theorem mem_sols {facts:List Fact} {l:List Box} {part:List Nat} (hn:part.Nodup) (hw:∀ f∈facts,f.a.toNat∈part→Within part f) {c:List Pt} :
  c∈solsC facts l part↔(c.length=part.length∧∀ k (h:k < part.length) (h':k < c.length),inB' c[k] l[part[k]]!)∧∀ f∈facts,f.a.toNat∈part→failsS f (setAll part c l)=false:=by
 unfold solsC;rw [enum_filter,List.mem_filter,mem_allC]
 constructor
 ·rintro ⟨h1,h2⟩;exact ⟨h1,(okAll_all hn h1.1 hw).1 h2⟩
 ·rintro ⟨h1,h2⟩;exact ⟨h1,(okAll_all hn h1.1 hw).2 h2⟩
def betterO {α:Type} (key:α→Int) (o:Option α) (c:α):Option α:=match o with
 | none=>some c
 | some d=>if key c < key d then some c else some d
def bestL {α:Type} (key:α→Int) (l:List α):Option α:=l.foldl (betterO key) none
def prodC {α:Type}:List (List α)→List (List α)
 | []=>[[]]
 | s::ss=>s.flatMap fun c=>(prodC ss).map (c :: ·)
theorem mem_prodC {α:Type}:∀ {ss:List (List α)} {cs:List α},cs∈prodC ss↔cs.length=ss.length∧∀ k (h:k < ss.length) (h':k < cs.length),cs[k]∈ss[k]
 | [],cs=>by
  simp only [prodC,List.mem_singleton,List.length_nil]
  constructor
  ·rintro rfl;exact ⟨rfl,fun k h=>by simp at h⟩
  ·rintro ⟨h,_⟩;exact List.eq_nil_of_length_eq_zero h
 | s::ss,cs=>by
  simp only [prodC,List.mem_flatMap,List.mem_map]
  constructor
  ·rintro ⟨x,hx,d,hd,rfl⟩;obtain ⟨h1,h2⟩:=(mem_prodC (ss:=ss)).1 hd
   refine ⟨by simp [h1],fun k h h'=>?_⟩
   cases k with
   | zero=>exact hx
   | succ k=>exact h2 k (by simpa using h) (by simpa using h')
  ·rintro ⟨h1,h2⟩
   cases cs with
   | nil=>simp at h1
   | cons x d=>exact ⟨x,h2 0 (by simp) (by simp),d,(mem_prodC (ss:=ss)).2 ⟨by simpa using h1,fun k h h'=>h2 (k+1) (by simp;omega) (by simp;omega)⟩,rfl⟩
def pick (pts:List Pt) (part:List Nat):List Pt:=part.map fun i=>pts[i]!
structure IsSol (facts:List Fact) (l:List Box) (pts:List Pt):Prop where
 len:pts.length=l.length
 inn:∀ i (h:i < pts.length) (h':i < l.length),inB' pts[i] l[i]
 facts:∀ f∈facts,failsS f (pts.map atB)=false
structure IsDiv (facts:List Fact) (n:Nat) (gs:List (List Nat)):Prop where
 nodup:gs.flatten.Nodup
 all:∀ i,i < n↔i∈gs.flatten
 within:∀ f∈facts,∀ g∈gs,f.a.toNat∈g→Within g f
 named:∀ f∈facts,Named f n
theorem IsDiv.one {facts:List Fact} {n:Nat} {gs:List (List Nat)} (h:IsDiv facts n gs):∀ g∈gs,g.Nodup∧∀ i∈g,i < n:=fun g hg =>
 ⟨(List.pairwise_flatten.1 h.nodup).1 g hg,fun i hi=>(h.all i).2 (List.mem_flatten.2 ⟨g,hg,hi⟩)⟩
theorem pick_fails {facts:List Fact} {l:List Box} {part:List Nat} {pts:List Pt} (hp:pts.length=l.length) (hn:part.Nodup) (hi:∀ i∈part,i < l.length) {f:Fact} (hw:Within part f):failsS f (setAll part (pick pts part) l)=failsS f (pts.map atB):=by
 have key:∀ j∈part,(setAll part (pick pts part) l)[j]! = (pts.map atB)[j]! := fun j hj=>by
  obtain ⟨k,hk,rfl⟩:=List.mem_iff_getElem.1 hj;have hkp:k < (pick pts part).length:=by simpa [pick] using hk
  rw [setAll_at part _ l hn (by simp [pick]) hi k hk hkp];have:=hi _ hj;have h2:part[k] < pts.length:=by omega
  rw [getElem!_pos (pts.map atB) part[k] (by simpa using h2)];simp only [pick,List.getElem_map];rw [getElem!_pos pts part[k] h2]
 exact fails_congr ⟨key _ hw.a,key _ hw.b,fun h2=>key _ (hw.c h2)⟩
theorem pick_sol {facts:List Fact} {l:List Box} {gs:List (List Nat)} (hd:IsDiv facts l.length gs) {pts:List Pt} (hs:IsSol facts l pts):∀ g∈gs,pick pts g∈solsC facts l g:=fun g hg=>by
 obtain ⟨hn,hi⟩:=hd.one g hg
 refine (mem_sols hn (fun f hf ha=>hd.within f hf g hg ha)).2 ⟨⟨by simp [pick],fun k h h'=>?_⟩,fun f hf ha=>?_⟩
 ·have h1:=hi _ (List.getElem_mem h);have h2:=hs.len;have:=hs.inn g[k] (by omega) h1;rw [getElem!_pos l g[k] h1];simp only [pick,List.getElem_map];rw [getElem!_pos pts g[k] (by omega)];exact this
 ·rw [pick_fails (facts:=facts) hs.len hn hi (hd.within f hf g hg ha)];exact hs.facts f hf
def putAll:List (List Nat)→List (List Pt)→List Pt→List Pt
 | g::gs,c::cs,pts=>putAll gs cs ((g.zip c).foldl (fun p e=>p.set e.1 e.2) pts)
 | _,_,pts=>pts
theorem fold_length:∀ (z:List (Nat×Pt)) (pts:List Pt),(z.foldl (fun p e=>p.set e.1 e.2) pts).length=pts.length
 | [],_=>rfl
 | e::z,pts=>by rw [List.foldl_cons,fold_length z];simp
theorem putAll_length:∀ (gs:List (List Nat)) (cs:List (List Pt)) (pts:List Pt),(putAll gs cs pts).length=pts.length
 | [],_,_=>by simp [putAll]
 | _::_,[],_=>by simp [putAll]
 | g::gs,c::cs,pts=>by rw [putAll,putAll_length gs cs,fold_length]
theorem fold_out:∀ (z:List (Nat×Pt)) (pts:List Pt) (j:Nat),j ∉ z.map (·.1)→(z.foldl (fun p e=>p.set e.1 e.2) pts)[j]! = pts[j]!
 | [],_,_,_=>rfl
 | e::z,pts,j,h=>by
  rw [List.map_cons] at h;rw [List.foldl_cons,fold_out z _ j (fun hm=>h (List.mem_cons_of_mem _ hm))];have:e.1≠j:=fun e'=>h (by rw [e'];exact List.mem_cons_self ..);simp [List.getElem?_set,this]
theorem fold_at:∀ (g:List Nat) (c:List Pt) (pts:List Pt),g.Nodup→c.length=g.length→(∀ i∈g,i < pts.length)→pick ((g.zip c).foldl (fun p e=>p.set e.1 e.2) pts) g=c
 | [],c,pts,_,hc,_=>by simp [pick,List.eq_nil_of_length_eq_zero hc]
 | _::_,[],_,_,hc,_=>by simp at hc
 | i::g,x::c,pts,hn,hc,hi=>by
  have hn':=List.nodup_cons.1 hn;rw [List.zip_cons_cons,List.foldl_cons];have ih:=fold_at g c (pts.set i x) hn'.2 (by simpa using hc) (fun j hj=>by rw [List.length_set];exact hi j (List.mem_cons_of_mem _ hj));unfold pick at *;rw [List.map_cons,ih]
  congr 1
  rw [fold_out]
  ·have:=hi i (List.mem_cons_self ..);simp [List.getElem?_set,this]
  ·intro hm;have:i∈g:=by
    obtain ⟨e,he,h1⟩:=List.mem_map.1 hm;have:=List.of_mem_zip he;rw [← h1];exact this.1
   exact hn'.1 this
theorem putAll_out:∀ (gs:List (List Nat)) (cs:List (List Pt)) (pts:List Pt) (j:Nat),j ∉ gs.flatten→(putAll gs cs pts)[j]! = pts[j]!
 | [],_,_,_,_=>by simp [putAll]
 | _::_,[],_,_,_=>by simp [putAll]
 | g::gs,c::cs,pts,j,h=>by
  rw [List.flatten_cons] at h;rw [putAll,putAll_out gs cs _ j (fun hm=>h (List.mem_append_right _ hm)),fold_out];intro hm;obtain ⟨e,he,h1⟩:=List.mem_map.1 hm;have:=List.of_mem_zip he;exact h (List.mem_append_left _ (by rw [← h1];exact this.1))
theorem putAll_at:∀ (gs:List (List Nat)) (cs:List (List Pt)) (pts:List Pt),gs.flatten.Nodup→cs.length=gs.length→(∀ k (h:k < gs.length) (h':k < cs.length),cs[k].length=gs[k].length)→(∀ i∈gs.flatten,i < pts.length) →
  ∀ k (h:k < gs.length) (h':k < cs.length),pick (putAll gs cs pts) gs[k]=cs[k]
 | [],_,_,_,_,_,_,k,h,_=>by simp at h
 | _::_,[],_,_,hc,_,_,_,_,_=>by simp at hc
 | g::gs,c::cs,pts,hn,hc,hl,hi,k,h,h'=>by
  rw [putAll];rw [List.flatten_cons,List.nodup_append] at hn;obtain ⟨n1,n2,n3⟩:=hn
  cases k with
  | zero =>
   have h1:=fold_at g c pts n1 (hl 0 (by simp) (by simp)) (fun i hi'=>hi i (by rw [List.flatten_cons];exact List.mem_append_left _ hi'))
   refine Eq.trans ?_ h1
   unfold pick;exact List.map_congr_left fun i hi'=>putAll_out gs cs _ i (fun hm=>n3 i hi' i hm rfl)
  | succ k =>
   exact putAll_at gs cs _ n2 (by simpa using hc) (fun j a b=>hl (j+1) (by simp;omega) (by simp;omega)) (fun i hi'=>by rw [fold_length];exact hi i (by rw [List.flatten_cons];exact List.mem_append_right _ hi')) k (by simpa using h) (by simpa using h')
theorem put_sol {facts:List Fact} {l:List Box} {gs:List (List Nat)} (hd:IsDiv facts l.length gs) {cs:List (List Pt)} (hc:cs∈prodC (gs.map (solsC facts l))) {p0:List Pt} (h0:p0.length=l.length):IsSol facts l (putAll gs cs p0)∧gs.map (pick (putAll gs cs p0))=cs:=by
 obtain ⟨h1,h2⟩:=mem_prodC.1 hc;simp only [List.length_map] at h1;have hs:∀ k (h:k < gs.length) (h':k < cs.length),cs[k]∈solsC facts l gs[k]:=fun k h h'=>by
  have:=h2 k (by simpa using h) h'
  simpa using this
 have hm:∀ k (h:k < gs.length) (h':k < cs.length),_:=fun k h h'=>(mem_sols (facts:=facts) (l:=l) (hd.one _ (List.getElem_mem h)).1 (fun f hf ha=>hd.within f hf _ (List.getElem_mem h) ha)).1 (hs k h h');have hp:=putAll_at gs cs p0 hd.nodup h1 (fun k h h'=>(hm k h h').1.1) (fun i hi=>by rw [h0];exact (hd.all i).2 hi);have hlen:=putAll_length gs cs p0;generalize putAll gs cs p0=pts at *;have hpl:pts.length=l.length:=by omega
 refine ⟨⟨hpl,fun i hi hi'=>?_,fun f hf=>?_⟩,?_⟩
 ·obtain ⟨g,hg,hig⟩:=List.mem_flatten.1 ((hd.all i).1 hi');obtain ⟨k,hk,rfl⟩:=List.mem_iff_getElem.1 hg;obtain ⟨j,hj,rfl⟩:=List.mem_iff_getElem.1 hig;have hkc:k < cs.length:=by omega
  have hmk:=hm k hk hkc;have hjc:j < (cs[k]).length:=by rw [hmk.1.1];exact hj
  have h3:=hmk.1.2 j hj hjc;have h4:=hp k hk hkc;have h5:cs[k][j]=pts[gs[k][j]]:=by
   have:(pick pts gs[k])[j]'(by simpa [pick] using hj)=cs[k][j]:=by simp only [h4]
   rw [← this];simp only [pick,List.getElem_map];rw [getElem!_pos pts gs[k][j] hi]
  rw [h5,getElem!_pos l gs[k][j] hi'] at h3;exact h3
 ·have hA:=(hd.named f hf).a;obtain ⟨g,hg,hag⟩:=List.mem_flatten.1 ((hd.all f.a.toNat).1 (by omega));obtain ⟨k,hk,rfl⟩:=List.mem_iff_getElem.1 hg;have hkc:k < cs.length:=by omega
  obtain ⟨hn,hi⟩:=hd.one _ hg;have h3:=(hm k hk hkc).2 f hf hag;rw [← hp k hk hkc,pick_fails (facts:=facts) hpl hn hi (hd.within f hf _ hg hag)] at h3;exact h3
 ·refine List.ext_getElem (by simp [h1]) fun k a b=>?_
  simpa using hp k (by simpa using a) b
inductive Runs {α:Type} (f:α→Option α):α→List α→Prop
 | last (a:α) (h:f a=none):Runs f a [a]
 | step (a b:α) (l:List α) (h:f a=some b) (hl:Runs f b l):Runs f a (a::l)
section
variable {α β:Type} {f:α→Option α} {g:β→Option β}
theorem Runs.ne {a:α} {l:List α} (h:Runs f a l):l≠[]:=by cases h<;>simp
theorem Runs.mem {a:α} {l:List α} (h:Runs f a l):a∈l:=by cases h<;>simp
theorem Runs.map (h:α→β) (hfg:∀ a,g (h a)=(f a).map h) {a:α} {l:List α} (hr:Runs f a l):Runs g (h a) (l.map h):=by
 induction hr with
 | last a h0=>exact .last _ (by rw [hfg,h0];rfl)
 | step a b l h0 _ ih=>exact .step _ _ _ (by rw [hfg,h0];rfl) ih
theorem Runs.then {a b:α} {l m:List α} {f':α→Option α} (h:Runs f' a l) (hf:∀ x∈l,∀ y,f' x=some y→f x=some y) (hl:∀ x∈l,f' x=none→f x=some b) (hm:Runs f b m):Runs f a (l++m):=by
 induction h with
 | last a h0=>exact .step _ _ _ (hl a (by simp) h0) hm
 | step a c l h0 _ ih=>exact .step _ _ _ (hf a (by simp) _ h0) (ih (fun x hx=>hf x (by simp [hx])) (fun x hx=>hl x (by simp [hx])))
theorem Runs.whole {a:α} {l:List α} {f':α→Option α} (h:Runs f' a l) (hf:∀ x∈l,f x=f' x):Runs f a l:=by
 induction h with
 | last a h0=>exact .last _ (by rw [hf a (by simp),h0])
 | step a c l h0 _ ih=>exact .step _ _ _ (by rw [hf a (by simp),h0]) (ih fun x hx=>hf x (by simp [hx]))
def twoF (f:α→Option α) (low:α) (g:β→Option β):α×β→Option (α×β):=fun p=>match f p.1 with
 | some x=>some (x,p.2)
 | none=>(g p.2).map fun y=>(low,y)
theorem Runs.two {low:α} {la:List α} (ha:Runs f low la) {b:β} {lb:List β} (hb:Runs g b lb):Runs (twoF f low g) (low,b) (lb.flatMap fun y=>la.map fun x=>(x,y)):=by
 have row:∀ y:β,Runs (fun p:α×β=>(f p.1).map fun x=>(x,p.2)) (low,y) (la.map fun x=>(x,y)):=fun y=>ha.map (fun x=>(x,y)) fun a=>rfl
 induction hb with
 | last b h0 =>
  simp only [List.flatMap_cons,List.flatMap_nil,List.append_nil]
  refine (row b).whole fun p hp=>?_
  obtain ⟨x,_,rfl⟩:=List.mem_map.1 hp;unfold twoF;simp only
  cases f x with
  | some z=>rfl
  | none=>rw [h0];rfl
 | step b c l h0 _ ih =>
  rw [List.flatMap_cons]
  refine (row b).then (fun p hp q hq=>?_) (fun p hp hq=>?_) ih
  ·obtain ⟨x,_,rfl⟩:=List.mem_map.1 hp;unfold twoF;simp only at hq ⊢
   cases hf:f x with
   | some z=>rw [hf] at hq;simpa using hq
   | none=>rw [hf] at hq;simp at hq
  ·obtain ⟨x,_,rfl⟩:=List.mem_map.1 hp;unfold twoF;simp only at hq ⊢
   cases hf:f x with
   | some z=>rw [hf] at hq;simp at hq
   | none=>simp [h0]
end
def stepN (hi:Int) (x:Int):Option Int:=if x < hi then some (x+1) else none
theorem runs_nums {s:Span} (h:s.lo≤s.hi):Runs (stepN s.hi) s.lo (numsS s):=by
 obtain ⟨lo,hi⟩:=s;simp only at h;have key:∀ (n:Nat) (a:Int),a+n=hi→Runs (stepN hi) a ((List.range (n+1)).map fun i=>a+(i:Nat)):=by
  intro n
  induction n with
  | zero=>intro a ha;exact (show ((List.range 1).map fun i=>a+((i:Nat):Int))=[a] by simp) ▸ .last a (by unfold stepN;rw [if_neg (by omega)])
  | succ n ih =>
   intro a ha;have:=ih (a+1) (by omega);rw [List.range_succ_eq_map,List.map_cons,List.map_map];rw [show a+((0:Nat):Int)=a by simp]
   refine .step _ (a+1) _ (by unfold stepN;rw [if_pos (by omega)]) ?_
   have e:((List.range (n+1)).map ((fun i:Nat=>a+(i:Int)) ∘ Nat.succ))=(List.range (n+1)).map fun i=>a+1+(i:Nat):=by
    apply List.map_congr_left;intro i _;simp only [Function.comp,Nat.succ_eq_add_one];omega
   rw [e];exact this
 unfold numsS;simp only;have e:(hi - lo+1).toNat=(hi - lo).toNat+1:=by omega
 rw [e];exact key _ lo (by omega)
def lowB (b:Box):Pt:=⟨b.x.lo,b.y.lo⟩
def stepX (b:Box) (p:Pt):Option Pt:=if p.x < b.x.hi then some ⟨p.x+1,p.y⟩ else if p.y < b.y.hi then some ⟨b.x.lo,p.y+1⟩ else none
def rowsX (b:Box):List Pt:=(numsS b.y).flatMap fun y=>(numsS b.x).map fun x=>⟨x,y⟩
theorem runs_rows {b:Box} (hw:wfB b):Runs (stepX b) (lowB b) (rowsX b):=by
 have h:=(Runs.two (runs_nums hw.1) (runs_nums hw.2)).map (g:=stepX b) (fun p:Int×Int=>(⟨p.1,p.2⟩:Pt)) (fun p=>by
  unfold twoF stepX stepN;simp only
  split
  ·rfl
  ·split<;>rfl)
 have e:((numsS b.y).flatMap fun y=>(numsS b.x).map fun x=>((x,y):Int×Int)).map (fun p:Int×Int=>(⟨p.1,p.2⟩:Pt))=rowsX b:=by
  simp [rowsX,List.map_flatMap,Function.comp_def]
 rw [e] at h;exact h
theorem mem_rows {b:Box} {p:Pt}:p∈rowsX b↔inB' p b:=by
 unfold rowsX;simp only [List.mem_flatMap,List.mem_map,mem_nums]
 constructor
 ·rintro ⟨y,hy,x,hx,rfl⟩;exact ⟨hx.1,hx.2,hy.1,hy.2⟩
 ·rintro ⟨h1,h2,h3,h4⟩;exact ⟨p.y,⟨h3,h4⟩,p.x,⟨h1,h2⟩,rfl⟩
def stepL:List Box→List Pt→Option (List Pt)
 | b::l,p::ps=>match stepX b p with
  | some q=>some (q::ps)
  | none=>(stepL l ps).map (lowB b :: ·)
 | _,_=>none
def allX:List Box→List (List Pt)
 | []=>[[]]
 | b::l=>(allX l).flatMap fun ps=>(rowsX b).map fun p=>p::ps
theorem runs_all:∀ {l:List Box},Wf l→Runs (stepL l) (l.map lowB) (allX l)
 | [],_=>.last _ rfl
 | b::l,hw=>by
  have h:=(Runs.two (runs_rows (hw b (by simp))) (runs_all (l:=l) fun x hx=>hw x (by simp [hx]))).map (g:=stepL (b::l)) (fun p:Pt×List Pt=>p.1::p.2) (fun p=>by
   unfold twoF;simp only [stepL]
   cases stepX b p.1 with
   | some q=>rfl
   | none=>cases stepL l p.2<;>rfl)
  have e:((allX l).flatMap fun ps=>(rowsX b).map fun p=>((p,ps):Pt×List Pt)).map (fun p:Pt×List Pt=>p.1::p.2)=allX (b::l):=by
   simp [allX,List.map_flatMap,Function.comp_def]
  rw [e] at h;exact h
theorem mem_allX:∀ {l:List Box} {c:List Pt},c∈allX l↔c.length=l.length∧∀ k (h:k < l.length) (h':k < c.length),inB' c[k] l[k]
 | [],c=>by
  simp only [allX,List.mem_singleton]
  constructor
  ·rintro rfl;exact ⟨rfl,fun k h=>by simp at h⟩
  ·rintro ⟨h,_⟩;exact List.length_eq_zero_iff.1 h
 | b::l,c=>by
  simp only [allX,List.mem_flatMap,List.mem_map,mem_rows]
  constructor
  ·rintro ⟨ps,hps,p,hp,rfl⟩;obtain ⟨h1,h2⟩:=mem_allX.1 hps
   refine ⟨by simp [h1],fun k h h'=>?_⟩
   cases k with
   | zero=>exact hp
   | succ k=>exact h2 k (by simpa using h) (by simpa using h')
  ·rintro ⟨h1,h2⟩
   cases c with
   | nil=>simp at h1
   | cons p ps =>
    refine ⟨ps,mem_allX.2 ⟨by simpa using h1,fun k h h'=>h2 (k+1) (by simpa using h) (by simpa using h')⟩,p,h2 0 (by simp) (by simp),rfl⟩
def stepY (b:Box) (p:Pt):Option Pt:=if p.y < b.y.hi then some ⟨p.x,p.y+1⟩ else if p.x < b.x.hi then some ⟨p.x+1,b.y.lo⟩ else none
theorem runs_places {b:Box} (hw:wfB b):Runs (stepY b) (lowB b) (placesB b):=by
 have h:=(Runs.two (runs_nums hw.2) (runs_nums hw.1)).map (g:=stepY b) (fun p:Int×Int=>(⟨p.2,p.1⟩:Pt)) (fun p=>by
  unfold twoF stepY stepN;simp only
  split
  ·rfl
  ·split<;>rfl)
 have e:((numsS b.x).flatMap fun x=>(numsS b.y).map fun y=>((y,x):Int×Int)).map (fun p:Int×Int=>(⟨p.2,p.1⟩:Pt))=placesB b:=by
  simp [placesB,List.map_flatMap,Function.comp_def]
 rw [e] at h;exact h
def stepR:List Box→List Pt→Option (List Pt)
 | b::l,p::ps=>match stepR l ps with
  | some qs=>some (p::qs)
  | none=>(stepY b p).map (· :: l.map lowB)
 | _,_=>none
def allR:List Box→List (List Pt)
 | []=>[[]]
 | b::l=>(placesB b).flatMap fun p=>(allR l).map fun ps=>p::ps
theorem runs_allR:∀ {l:List Box},Wf l→Runs (stepR l) (l.map lowB) (allR l)
 | [],_=>.last _ rfl
 | b::l,hw=>by
  have h:=(Runs.two (runs_allR (l:=l) fun x hx=>hw x (by simp [hx])) (runs_places (hw b (by simp)))).map (g:=stepR (b::l)) (fun p:List Pt×Pt=>p.2::p.1) (fun p=>by
   unfold twoF;simp only [stepR]
   cases stepR l p.1 with
   | some q=>rfl
   | none=>cases stepY b p.2<;>rfl)
  have e:((placesB b).flatMap fun p=>(allR l).map fun ps=>((ps,p):List Pt×Pt)).map (fun p:List Pt×Pt=>p.2::p.1)=allR (b::l):=by
   simp [allR,List.map_flatMap,Function.comp_def]
  rw [e] at h;exact h
theorem allR_allC:∀ (l:List Box),allR l=allC l (List.range l.length):=by
 intro l;have key:∀ (m:List Box) (k:Nat),(∀ i (h:i < m.length),l[k+i]! = m[i])→allR m=allC l (List.range' k m.length):=by
  intro m
  induction m with
  | nil=>intro k _;rfl
  | cons b m ih =>
   intro k h;have h0:=h 0 (by simp);simp only [Nat.add_zero,List.getElem_cons_zero] at h0;simp only [List.length_cons,List.range'_succ,allR,allC,h0];rw [ih (k+1) fun i hi=>by
    have:=h (i+1) (by simpa using hi)
    simpa [Nat.add_assoc,Nat.add_comm 1 i] using this]
 rw [List.range_eq_range'];exact key l 0 fun i h=>by simp [h]
end Go.Proofs.YtmghcpdpilgplaaGreat.Vm
