/- The library's sort of numbers, as the machine of values runs it, by its contract. Contracts of functions of Go's library for the machine of values: slices.Sort, Clone, Delete, Compact, IndexFunc. Appending in a chain: onto an empty literal, and rows of more than one. Maps: what single operations come to; sets of numbers, and tables from numbers. Problems, as data. Narrowing: the greatest boxes no strip of which fails, whichever way they are found. Plain Lean. Trees of cuts: one that grows fits, and how large it is. Plain Lean. How large a refutation's tree is: strips outside of what narrowing leaves, then a division of what is left. Plain Lean. -/
import Derived.Test.YtmmhnfghklppiaaGreatVk7
import Derived.Sort.Grow
import Derived.Sort.Row
import Derived.CallsIn
namespace Go.Proofs.YtmmhnfghklppiaaGreat.Vm
open Go Go.RowKit
set_option linter.unusedVariables false
def ins (a:Int):List Int->List Int
 | []=>[a]
 | b::l=>if a<=b then a::b::l else b::ins a l
def ve:List Int->List Int
 | []=>[]
 | a::l=>ins a (ve l)
theorem XQ (a:Int):∀ l:List Int,(ins a l).Perm (a::l)
 | []=>List.Perm.refl _
 | b::l=>by
  unfold ins
  split
  .exact List.Perm.refl _
  .exact ((XQ a l).cons b).trans (List.Perm.swap a b l)
theorem XR:∀ l:List Int,(ve l).Perm l
 | []=>List.Perm.refl _
 | a::l=>(XQ a (ve l)).trans ((XR l).cons a)
theorem zin (a:Int):∀ {l:List Int},l.Pairwise (·<=·)->(ins a l).Pairwise (·<=·)
 | [],_=>by simp [ins]
 | b::l,h=>by
  have h1:=List.pairwise_cons.1 h;unfold ins
  split
  .rename_i yZ
   refine List.pairwise_cons.2 ⟨fun x hx=>?_,h⟩
   rcases List.mem_cons.1 hx with rfl|hx
   .exact yZ
   .exact Int.le_trans yZ (h1.1 x hx)
  .rename_i yZ
   refine List.pairwise_cons.2 ⟨fun x hx=>?_,zin a h1.2⟩
   rcases List.mem_cons.1 ((XQ a l).mem_iff.1 hx) with rfl|hx
   .omega
   .exact h1.1 x hx
theorem zgb:∀ l:List Int,(ve l).Pairwise (·<=·)
 | []=>List.Pairwise.nil
 | a::l=>zin a (zgb l)
theorem zgl (l:List Int):(ve l).length=l.length:=(XR l).length_eq
theorem zha (l:List Int):(l.mergeSort fun x y=>decide (x<=y))=ve l:=by
 have h1:(l.mergeSort fun x y=>decide (x<=y)).Pairwise (fun a b=>decide (a<=b)=true):=List.pairwise_mergeSort (fun a b c h h'=>by simp at *;omega) (fun a b=>by simp;omega) l
 refine List.Perm.eq_of_pairwise (le:=fun a b=>a<=b) (fun a b _ _ h h'=>Int.le_antisymm h h') (h1.imp fun h=>by simpa using h) (zgb l) ((List.mergeSort_perm l _).trans (XR l).symm)
def Qz:List AV->Option (List Int)
 | []=>some []
 | .pure (.int .i64 z)::l=>(Qz l).map (z :: ·)
 | _=>none
theorem zjk:∀ {l:List AV} {zs:List Int},Qz l=some zs->l=zs.map fun z=>.pure (.int .i64 z)
 | [],zs,h=>by simp [Qz] at h;subst h;rfl
 | c::l,zs,h=>by
  unfold Qz at h
  split at h
  .rename_i h0;cases h0
  .rename_i z l' h0;simp only [List.cons.injEq] at h0;obtain ⟨rfl,rfl⟩:=h0;rw [Option.map_eq_some_iff] at h;obtain ⟨ys,hy,rfl⟩:=h;rw [zjk hy];rfl
  .simp at h
def XT (args:List AV) (H:Heap):Option (AV×Heap) :=
 match args with
 | [.row id 1 off n]=>match H.get id with
  | .cells true cs=>if off+n<=cs.length/\n<=zl then match Qz ((cs.drop off).take n) with
    | some zs=>some (.aM [],H.set id (.cells true (cs.take off++(ve zs).map (fun z=>AV.pure (.int .i64 z))++cs.drop (off+n))))
    | none=>none else none
  | _=>none
 | _=>none
theorem znb {C:iT} {P:Program} {f:Nat} (hf:EI P f)
  (hc:∀ (blk off cap:Nat) (zs:List Int) (w:World),Sort.Holds (Value.int .i64) w blk off zs.toArray->blk < w.heap.size->zs.length < 4611686018427387904 ->
   Calls P f #[.slice (some ⟨blk,off,none⟩) zs.length cap] w fun e w'=>e=.returned (.tuple #[])/\∃ n os,w'=Sort.grow (Sort.putRow (Value.int .i64) (Sort.ahead w n) blk off (zs.mergeSort fun x y=>decide (x<=y)).toArray) os)
  {args:List AV} {H H':Heap} {r:AV} (h:XT args H=some (r,H')):PS C P f args H r H':=by
 refine ⟨hf,fun k S base φ w vals hH hv=>?_⟩
 unfold XT at h
 split at h
 .rename_i id off n
  split at h
  .rename_i cs hg
   split at h
   .rename_i aB
    split at h
    .rename_i zs hz;simp only [Option.some.injEq,Prod.mk.injEq] at h;obtain ⟨rfl,rfl⟩:=h;obtain ⟨v,vs',rfl,h1,h2⟩:=hv.cons_inv;have:=h2.lQ;subst this;obtain ⟨b,m,cap,aj,rfl,sZ,rH⟩:=h1.iq;have ho:=hH.obj _ _ _ aj;rw [hg] at ho;obtain ⟨c,e,fz,q1,q2,q3,q4,q5⟩:=ho;have VU:=zjk hz;have p9:zs.length=n:=by
      have:((cs.drop off).take n).length=n:=by simp;omega
      rw [VU] at this
      simpa using this
     have uk:∀ j,j < zs.length->c[off+j]?=some (.int .i64 zs[j]!):=fun j hj=>by
      have ha:cs[off+j]?=some (.pure (.int .i64 zs[j]!)):=by
       have h3:((cs.drop off).take n)[j]?=some (.pure (.int .i64 zs[j]!)):=by
        rw [VU,List.getElem?_map,List.getElem?_eq_getElem hj];simp [hj]
       rw [List.getElem?_take_of_lt (by omega),List.getElem?_drop] at h3;exact h3
      have DR:off+j < c.size:=by omega
      have G8:c[off+j]?=some c[off+j]:=Array.getElem?_eq_getElem DR;have:=(q5 _ _ _ ha G8).bf;rw [G8,this]
     have LK:Sort.Holds (Value.int .i64) w b off zs.toArray:=fun j hj=>by
      have ng:j < zs.length:=by simpa using hj
      refine ⟨?_,?_⟩
      .simp only [World.cell?,q1];rw [uk j ng];simp
      .have DR:off+j < c.size:=by omega
       simp only [World.frozen?,q1];have:=q4 (off+j) (by omega)
       simpa using this
     have NA:b < w.heap.size:=(hH.lt _ _ _ aj).2;have bC:=hc b off cap zs w LK NA (by rw [p9];have:=aB.2;simp only [zl] at this;omega);rw [p9] at bC;rw [Nat.mul_one]
     refine (callsIn_wide.2 bC).mono ?_
     rintro e' w' ⟨rfl,n',os,rfl⟩;rw [zha];have lq:(Sort.putRow (Value.int .i64) (Sort.ahead w n') b off (ve zs).toArray).heap[b]?=some (.cells (Sort.putCells (Value.int .i64) off (ve zs).toArray c) e fz):=by
      simp [Sort.putRow,Sort.mapBlock,Sort.ahead,Array.getElem?_modify,q1,Sort.onCells]
     have Hw:=hH.write (o:=.cells true (cs.take off++(ve zs).map (fun z=>AV.pure (.int .i64 z))++cs.drop (off+n))) (w':=Sort.putRow (Value.int .i64) (Sort.ahead w n') b off (ve zs).toArray) aj (by rw [hg];rfl) rfl rfl rfl (by simp [Sort.ahead]) (fun c' rG=>by
       simp [Sort.putRow,Sort.mapBlock,Sort.ahead,Array.getElem?_modify,rG.symm]) ⟨_,e,fz,lq,by simp [Sort.putCells,q2],by
       have:=zgl zs;simp only [List.length_append,List.length_take,List.length_map,List.length_drop];omega,q4,fun j a v ha hv=>?_⟩
     .have wm:Below (Sort.putRow (Value.int .i64) (Sort.ahead w n') b off (ve zs).toArray).heap.size (Sort.putRow (Value.int .i64) (Sort.ahead w n') b off (ve zs).toArray) (Sort.grow (Sort.putRow (Value.int .i64) (Sort.ahead w n') b off (ve zs).toArray) os):=by
       refine ⟨rfl,rfl,rfl,by simp [Sort.grow],fun c' rG=>?_⟩
       simp only [Sort.grow];rw [Array.getElem?_append_left rG]
      exact ⟨_,φ,rfl,Hw.1.trans (bY.of_below wm),Hw.2.below wm,.aM [] #[] rfl fun i p v h=>by simp at h⟩
     ·-- each cell
      have jm:=(List.getElem?_eq_some_iff.1 ha).1;have aU:=zgl zs;simp only [List.length_append,List.length_take,List.length_map,List.length_drop] at jm;have DR:j < c.size:=by omega
      have hcj:c[j]?=some c[j]:=Array.getElem?_eq_getElem DR;have ag:∀ k b',aQ S base φ H w k b'->aQ S base φ H w k b'/\(Sort.putRow (Value.int .i64) (Sort.ahead w n') b off (ve zs).toArray).heap[b']?=w.heap[b']?:=fun k b' jf=>⟨jf,by
       have bL:b≠b':=fun e=>jf.2.2 ⟨id,m,by rw [<- e];exact aj,by rw [hg];rfl⟩;simp [Sort.putRow,Sort.mapBlock,Sort.ahead,Array.getElem?_modify,bL]⟩
      simp only [Sort.putCells,Array.getElem?_mapIdx,hcj,Option.map_some,Option.some.injEq] at hv
      by_cases BH:off<=j/\j < off+n
      .rw [if_pos ⟨BH.1,by simp [aU,p9];exact BH.2⟩] at hv;have iN:¬ j < (cs.take off).length:=by simp;omega
       rw [List.append_assoc,List.getElem?_append_right (by simp;omega)] at ha;have e1:j - (cs.take off).length=j - off:=by simp;omega
       rw [e1,List.getElem?_append_left (by simp;omega),List.getElem?_map,List.getElem?_eq_getElem (by omega)] at ha;simp only [Option.map_some,Option.some.injEq] at ha;subst ha;subst hv;have aK:j - off < (ve zs).length:=by omega
       have:((ve zs).toArray[j - off]! : Int)=(ve zs)[j - off]:=by simp [aK]
       rw [this];exact .pure _ _ (.int _ _)
      .rw [if_neg (by simp [aU,p9];omega)] at hv;subst hv;have haj:cs[j]?=some a:=by
        by_cases iN:j < off
        .rw [List.append_assoc,List.getElem?_append_left (by simp;omega),List.getElem?_take_of_lt iN] at ha;exact ha
        .rw [List.getElem?_append_right (by simp;omega)] at ha;rw [List.getElem?_drop] at ha;have e2:off+n+(j - (cs.take off++(ve zs).map (fun z=>AV.pure (.int .i64 z))).length)=j:=by simp;omega
         rw [e2] at ha;exact ha
       exact (q5 j a c[j] haj hcj).mono ag (fun _ _ h=>h)
    .simp at h
   .simp at h
  .simp at h
 .simp at h
open Go
set_option linter.unusedSimpArgs false
set_option maxHeartbeats 4000000
def wpS (rs:List j6) (k:AV->Heap->Prop) (x:bW) (env:Env) (H:Heap):Prop:=(∀ i,x≠.exit i)/\∃ v,results env H rs=some v/\k v H
@[simp] theorem zvs {rs:List j6} {k:AV->Heap->Prop} {env:Env} {H:Heap}:wpS rs k .ret env H↔∃ v,results env H rs=some v/\k v H:=by simp [wpS]
@[simp] theorem zte {rs:List j6} {k:AV->Heap->Prop} {env:Env} {H:Heap}:wpS rs k .normal env H↔∃ v,results env H rs=some v/\k v H:=by simp [wpS]
section
variable {G:Prog} {n:Nat} {H:Heap}
theorem Gq {f:Nat} {fn:ai} {args:List AV} {k:AV->Heap->Prop} (hr:G.jy f args H=none) (hf:G.func f=some fn) (hl:args.length=fn.uh)
  (h:wp (zn G n) fn.body (za args) H (wpS fn.results k) .mk):∃ v H',Vm.call G (n+1) (.fn f) args H=some (v,H')/\k v H':=by
 obtain ⟨x,e,h',h1,h2,v,h3,h4⟩:=h
 refine ⟨v,h',?_,h4⟩
 rw [XD,hr,hf];simp only [hl,if_true,h1]
 cases x with
 | exit i=>exact absurd rfl (h2 i)
 | normal=>simp only [h3]
 | ret=>simp only [h3]
theorem Ol {f:Nat} {caps:List PV} {args:List AV} {k:AV->Heap->Prop} {u} (hs:G.shared f=true) (h:∃ v H',Vm.call G (n+1) (.fn f) (args++caps.map .pure) H=some (v,H')/\k v H') :
  wpE 0 (zD (zn G (n+1)) H (.pure (.func f caps)) args) H k u:=by
 obtain ⟨v,H',h1,h2⟩:=h
 refine ⟨.upd v H',?_,by simp,h2⟩
 have nQ:(zn G (n+1)).shared f=true:=hs;have oV:(zn G (n+1)).run f (args++caps.map .pure) H=some (v,H'):=h1;simp only [zD,nQ,if_true,oV]
theorem LM {f:Nat} {caps:List PV} {args:List AV} {ps:List PV} {r:PV} {pre:Nat} {k:AV->Heap->Prop} {u} (hs:G.shared f=false) (ha:FrzL H true nZ (args++caps.map .pure) ps) (h:zF G n f ps=some r) (hc:r.cold=true)
  (hk:k (.pure r) H):wpE pre (zD (zn G n) H (.pure (.func f caps)) args) H k u:=by
 obtain ⟨ids,ha⟩:=ha
 refine ⟨.val (.pure r),?_,by simp [qm],hk⟩
 have nQ:(zn G n).shared f=false:=hs;have h':(zn G n).pure f ps=some r:=h;simp only [zD,nQ,Bool.false_eq_true,if_false,ha,h',hc,Bool.or_true,if_true]
end
section
variable {α:Type} {f:α->List PV} {sz:Nat} {H:Heap} {v:AV} {l:List α}
theorem Om:zm f ([]:List α)=[]:=rfl
theorem LP (a:α) (l:List α):zm f (a::l)=(f a).map .pure++zm f l:=by simp [zm]
theorem XU (hf:∀ a,(f a).length=sz):∀ (l:List α) (i:Nat),(zm f l).take (i*sz)=zm f (l.take i)
 | [],i=>by simp [zm]
 | a::l,0=>by simp [zm]
 | a::l,i+1=>by
  have h3:(List.map AV.pure (f a)).length=sz:=by rw [List.length_map,hf]
  rw [List.take_succ_cons,LP,LP,Nat.add_mul,Nat.one_mul,Nat.add_comm,<- h3,List.take_length_add_append,h3,XU hf l i]
theorem XV (hf:∀ a,(f a).length=sz):∀ (l:List α) (i:Nat),(zm f l).drop (i*sz)=zm f (l.drop i)
 | [],i=>by simp [zm]
 | a::l,0=>by simp [zm]
 | a::l,i+1=>by
  have h3:(List.map AV.pure (f a)).length=sz:=by rw [List.length_map,hf]
  rw [List.drop_succ_cons,LP,Nat.add_mul,Nat.one_mul,Nat.add_comm,<- h3,List.drop_length_add_append,h3,XV hf l i]
theorem QA (bu:∀ a,(f a).all PV.one=true) (l:List α):(zm f l).all AV.one=true:=by
 induction l with
 | nil=>rfl
 | cons a l ih=>rw [LP,List.all_append,ih,Qw _ (bu a)];rfl
theorem XW (l:List α):zm f l=((l.map f).flatten).map .pure:=by simp [zm,List.map_flatten,Function.comp_def]
theorem LQ (hf:∀ a,(f a).length=sz) (s:Sl α):zH H sz (.pure (s.pv f sz))=some (zm f s.xs,s.xs.length):=by
 rw [ziL hf,XW]
theorem aZ.slice (hf:∀ a,(f a).length=sz) (h:aZ f sz H v l):zH H sz v=some (zm f l,l.length):=by
 rcases h with ⟨rfl,rfl⟩|⟨id,rfl,hg⟩
 .rfl
 .rw [XN,hg];have:=xX hf l;simp only [Oh];rw [if_pos (by omega),Nat.zero_mul,List.drop_zero,<- this,List.take_length]
def uy {α:Type} (f:α->List PV) (sz:Nat) (H:Heap) (v:AV) (l:List α):Prop:=∃ id rest,v=.row id sz 0 l.length/\H.get id=.cells true (zm f l++rest)
theorem uy.frz {k:Bool} {n:Nat} (hf:∀ a,(f a).length=sz) (h:uy f sz H v l):FrzK H k (n+2) v (.slice k sz (l.map f)):=by
 obtain ⟨id,rest,rfl,hg⟩:=h;have hlen:=xX hf l;have nK:∀ l:List α,chunks sz l.length ((l.map f).flatten)=l.map f:=by
  intro l
  induction l with
  | nil=>rfl
  | cons a l ih =>
   simp only [List.length_cons,chunks,List.map_cons,List.flatten_cons];rw [List.take_left' (hf a),List.drop_left' (hf a),ih]
 have QB:((l.map f).flatten).length=l.length*sz:=by
  rw [<- hlen,XW,List.length_map]
 refine ⟨[id],?_⟩
 have h1:((zm f l++rest).drop (0*sz)).take (l.length*sz)=((l.map f).flatten).map .pure:=by
  rw [Nat.zero_mul,List.drop_zero,<- hlen,List.take_left',XW];rfl
 have EX:zO (freeze H k (n+1)) (((l.map f).flatten).map .pure)=some ((l.map f).flatten,[]):=by
  generalize (l.map f).flatten=q
  induction q with
  | nil=>rfl
  | cons p ps ih=>rw [List.map_cons,zO,ih];rfl
 unfold freeze;simp only [hg,h1,EX,QB,if_true,nK]
theorem aZ.head (h:aZ f sz H v l):(l=[]/\v=.pure .nils)\/uy f sz H v l:=by
 rcases h with h|⟨id,h1,h2⟩
 .exact .inl h
 .exact .inr ⟨id,[],h1,by rw [List.append_nil];exact h2⟩
end
theorem Gs {α:Type} {f:α->List PV} {sz n:Nat} {H:Heap} {id m:Nat} {l:List α} (hf:∀ a,(f a).length=sz) (hg:H.get id=.cells true (zm f l)) (hl:l.length=m):∃ s:Sl α,s.xs=l/\FrzK H true (n+2) (.row id sz 0 m) (s.pv f sz):=by
 subst hl;exact ⟨.mk true l,rfl,uy.frz hf ⟨id,[],rfl,by rw [List.append_nil];exact hg⟩⟩
theorem xY {α:Type} {f:α->List PV} {sz n:Nat} {H:Heap} {id m:Nat} {l:List α} (hf:∀ a,(f a).length=sz) (hg:H.get id=.cells true (zm f l)) (hl:l.length=m):FrzK H false (n+2) (.row id sz 0 m) ((Sl.mk false l).pv f sz):=by
 subst hl;exact uy.frz hf ⟨id,[],rfl,by rw [List.append_nil];exact hg⟩
def zq1 (sz bytes:Nat):ai:=⟨1,8,[(.tmp 2)],(.seq (.region none [⟨(some 2),(.iw (.const .nils)),none⟩]) (.seq (.seq (.region none [⟨(some 3),(.iw (.tmp 0)),none⟩,⟨(some 4),(.bin .eql .slice (.tmp 3) (.const .nils)),none⟩]) (.cond (.tmp 4) (.seq (.region none [⟨(some 2),(.iw (.const .nils)),none⟩]) .ret) .skip)) (.seq (.region none [⟨(some 5),(.buildSlice sz [] []),none⟩,⟨(some 6),(.iw (.tmp 0)),none⟩,⟨(some 7),(.append sz bytes (.tmp 5) (.tmp 6)),none⟩,⟨(some 2),(.iw (.tmp 7)),none⟩]) .ret)))⟩
theorem XX {v:AV} {b:Bool} (h:isNil .slice v=some b):fK .eql .slice v (.pure .nils)=some (.pure (.bool b)):=by
 have h1:GX .slice v (.pure .nils)=some b:=by
  have h0:isNil .slice (.pure .nils)=some true:=rfl
  cases b<;>simp only [GX,h,h0]
 cases v with
 | pure p=>cases p<;>simp only [fK,h1,Option.map_some]<;>simp [isNil] at h
 | _=>simp only [fK,h1,Option.map_some]
section
variable {α:Type} {f:α->List PV} {sz:Nat} {H:Heap} {v:AV} {l:List α} {G:Prog} {n:Nat}
theorem XY {g bytes:Nat} {b:Bool} {k:AV->Heap->Prop} (hx:∀ H,G.jy g [v] H=none) (hg:G.func g=some (zq1 sz bytes)) (hv:zH H sz v=some (zm f l,l.length)) (hn:isNil .slice v=some b) (wh:b=true->l=[])
  (hf:∀ a,(f a).length=sz) (h0:0 < sz) (bu:∀ a,(f a).all PV.one=true) (hm:l.length*sz<=zl/\l.length*bytes<=zl)
  (hk:∀ v' H',aZ f sz H' v' l->isNil .slice v'=some b->H.nx<=H'.nx->(∀ id,id < H.nx->H'.get id=H.get id)->(∀ id,Names v' id->H.nx<=id)->k v' H') :
  ∃ v' H',Vm.call G (n+1) (.fn g) [v] H=some (v',H')/\k v' H':=by
 refine Gq (hx H) hg rfl ?_
 simp only [zq1];have h1:=XX hn
 cases b with
 | true =>
  have hl:=wh rfl;subst hl;have:=hk (.pure .nils) H aZ.nil rfl (Nat.le_refl _) (fun _ _=>rfl) (fun id ⟨_,_,_,h⟩=>by simp at h);simp [za,h1,this]
 | false =>
  simp only [zqy,zjl,zmk,zg1,ztb,Qq,Option.getD_none,zif,zir,zoa,zlO,zjq,za,zs6,zok];simp [h1];have ag:zH (H.alloc (.cells true [])) sz v=some (zm f l,l.length):=by
   cases v with
   | row id s o m =>
    simp only [zH] at hv ⊢
    split at hv
    .rename_i hs;rw [if_pos hs]
     split at hv
     .rename_i cs hc;rw [ze (zu hc),hc];exact hv
     .simp at hv
    .simp at hv
   | pure p=>cases p<;>exact hv
   | _=>exact hv
  have ho:=QA bu l;have hz:(if sz=0 then 0 else 0 / sz)=0:=by split<;>simp
  try rw [hz]
  have T9:za [v] 0=v:=rfl;rw [T9];have hlen:=xX hf l
  cases l with
  | nil =>
   have Oo:zk (H.alloc (.cells true [])) sz bytes (.row H.nx sz 0 0) v=some (.upd (.row H.nx sz 0 0) ((H.alloc (.cells true [])).set H.nx (.cells true []))):=by
    simp only [zk,ag,ho,Ai];simp [zm]
   rw [Oo];simp
   refine hk _ _ (.inr ⟨H.nx,rfl,?_⟩) rfl (by simp) (fun id aj=>?_) (fun id ⟨_,_,_,h⟩=>?_)
   .rw [zo (by simp)];rfl
   .rw [zh (by omega),ze aj]
   .simp at h;omega
  | cons a l =>
   have Oo:zk (H.alloc (.cells true [])) sz bytes (.row H.nx sz 0 0) v=some (.upd (.row (H.nx+1) sz 0 (a::l).length) (((H.alloc (.cells true [])).set H.nx .dead).alloc (.cells true (zm f (a::l))))):=by
    simp only [zk,ag,ho,Ai];have hp:0 < (a::l).length*sz:=Nat.mul_pos (by simp) h0;simp only [Bool.not_true,Bool.false_eq_true,if_false,if_true,Nat.zero_mul,Nat.zero_add,List.length_nil];rw [if_neg (by omega)];simp only [true_and,pJ,List.nil_append];rw [if_pos hm]
   rw [Oo];simp
   refine hk _ _ (.inr ⟨H.nx+1,by simp,?_⟩) rfl (by simp;omega) (fun id aj=>?_) (fun id ⟨_,_,_,h⟩=>?_)
   .exact zg9 (by simp)
   .rw [ze (by simp;omega),zh (by omega),ze aj]
   .simp at h;omega
end
section
variable {H:Heap} {v:AV} {l:List Int} {G:Prog} {n:Nat}
end
section
variable {α:Type} {f:α->List PV} {sz:Nat} {G:Prog} {n:Nat}
end
section
variable {H:Heap} {v:AV} {l:List Int} {G:Prog} {n:Nat}
@[simp] theorem zhC {l:List Int} {i:Nat} {x:Int} (h:i < l.length):rQ (.cells true (zm aD l)) 1 i [.pure (.int .i64 x)]=some (.cells true (zm aD (l.set i x))):=by
 have hlen:∀ l:List Int,(zm aD l).length=l.length:=fun l=>by rw [xX (sz:=1) (fun _=>rfl)];omega
 simp only [rQ];rw [if_pos ⟨rfl,by simp,rfl,by rw [hlen];omega⟩];have h1:=XU (f:=aD) (sz:=1) (fun _=>rfl) l i;have h2:=XV (f:=aD) (sz:=1) (fun _=>rfl) l (i+1);rw [Nat.mul_one] at h1 h2;rw [h1,h2,List.set_eq_take_append_cons_drop,if_pos h,BM,LP,List.append_assoc];rfl
end
section
variable {G:Prog} {n:Nat} {H:Heap} {env:Env}
theorem znk {id:Nat} {r:Bi} {args:List AV} {k:AV->Heap->Prop} {u} (hg:H.get id=.loop r) (hs:r.state=.ready) (hl:args.length=r.params.length)
  (h:wp (zn G n) r.assign ((r.params.zip args).foldl (fun e x=>upd e x.1 x.2) r.env) H (fun x iM H2=>x=.normal/\H2.get id=.loop r /\
   wp (zn G n) r.body iM (H2.set id (.loop { r with state:=.busy })) (fun x _ H3=>x=.normal/\H3.get id=.loop { r with state:=.busy }/\k (.pure (.bool true)) (H3.set id (.loop { r with state:=.ready,pending:=.normal }))) .mk) .mk) :
  wpE 0 (zD (zn G (n+1)) H (.yield id) args) H k u:=by
 obtain ⟨x,iM,H2,h1,rfl,rR,x3,e3,H3,h3,rfl,h4,h5⟩:=h
 refine ⟨.upd (.pure (.bool true)) (H3.set id (.loop { r with state:=.ready,pending:=.normal })),?_,by simp,h5⟩
 have hy:(zn G (n+1)).yield id args H=some (.pure (.bool true),H3.set id (.loop { r with state:=.ready,pending:=.normal })):=by
  show Vm.call G (n+1) (.yield id) args H=_;have e0:Vm.call G (n+1) (.yield id) args H=(match H.get id with
   | .loop r =>
    if args.length=r.params.length then
     match exec (zn G n) r.assign ((r.params.zip args).foldl (fun e x=>upd e x.1 x.2) r.env) H with
     | some (.normal,iM,H2)=>match H2.get id with
      | .loop r2=>match r2.state with
       | .ready=>match exec (zn G n) r.body iM (H2.set id (.loop { r2 with state:=.busy })) with
        | some (x,_,H3)=>match H3.get id with
         | .loop r3=>match x with
          | .normal=>some (.pure (.bool true),H3.set id (.loop { r3 with state:=.ready,pending:=.normal }))
          | x=>some (.pure (.bool false),H3.set id (.loop { r3 with state:=.done,pending:=x }))
         | _=>none
        | none=>none
       | _=>none
      | _=>none
     | _=>none
    else none
   | _=>none):=rfl
  rw [e0,hg];simp only [hl,if_true,h1,hg,rR,hs,h3,h4]
 simp only [zD,hy]
theorem zky {f:aa} {params:List Nat} {assign body:aP} {Q:bW->Env->Heap->Prop} {g:Nat} {caps:List PV} {u} (hf:f.eval env=.pure (.func g caps))
  (h:∃ v H2,Vm.call G (n+1) (.fn g) (.yield H.nx::caps.map .pure) (H.alloc (.loop { env,params,assign,body,state:=.ready,pending:=.normal }))=some (v,H2) /\
   H2.get H.nx=.loop { env,params,assign,body,state:=.ready,pending:=.normal }/\Q .normal env (H2.set H.nx .dead)) :
  wp (zn G (n+1)) (.rangeFunc f params assign body) env H Q u:=by
 obtain ⟨v,H2,h1,h2,h3⟩:=h
 refine ⟨.normal,env,H2.set H.nx .dead,?_,h3⟩
 have oV:(zn G (n+1)).run g (.yield H.nx::caps.map .pure) (H.alloc (.loop { env,params,assign,body,state:=.ready,pending:=.normal }))=some (v,H2):=h1;simp only [exec,hf,oV,h2]
end
def Uo (H:Heap) (sz bytes:Nat) (a b:AV):Option Eff:=match zH H sz b with
  | none=>none
  | some (new,m)=>if !new.all AV.one then none else match a with
   | .void id s=>if s=sz then (if m=0 then some (.val (.row id sz 0 0)) else
     if m*sz<=zl/\m*bytes<=zl then some (.new (.cells true new) fun id=>.row id sz 0 m) else none) else none
   | _=>none
@[simp] theorem zsM {cl:Callee} {env:Env} {H:Heap} (sz bytes:Nat) (a b:aa):step cl env H (.jN sz bytes a b)=Uo H sz bytes (a.eval env) (b.eval env):=by simp only [step,Uo];rfl
section
variable {α:Type} {f:α->List PV} {sz:Nat} {H:Heap} {v:AV} {l:List α}
theorem zmf {bytes pre id:Nat} {b:AV} {k:AV->Heap->Prop} {u} (hb:zH H sz b=some (zm f l,l.length)) (aj:H.get id=.cells true []) (bu:∀ a,(f a).all PV.one=true)
  (hm:l.length*sz<=zl/\l.length*bytes<=zl)
  (hk:∀ v' H',aZ f sz H' v' l->H.nx<=H'.nx->(∀ i,i < H.nx->H'.get i=H.get i)->(∀ i,Names v' i->i=id\/H.nx<=i)->k v' H'):wpE pre (Uo H sz bytes (.void id sz) b) H k u:=by
 have ho:=QA bu l;simp only [Uo,hb,ho];simp only [Bool.not_true,Bool.false_eq_true,if_false,if_true]
 by_cases h0:l.length=0
 .have hl:l=[]:=List.eq_nil_of_length_eq_zero h0;subst hl;rw [if_pos (show ([]:List α).length=0 from rfl),Qq];exact hk _ _ (.inr ⟨id,rfl,by rw [aj];rfl⟩) (Nat.le_refl _) (fun _ _=>rfl) fun i ⟨_,_,_,h⟩=>by simp at h;exact .inl h.1.symm
 .rw [if_neg h0,if_pos hm,Og]
  refine hk _ _ (.inr ⟨H.nx,rfl,Ai _⟩) (Nat.le_succ _) (fun i hi=>ze hi) fun i ⟨_,_,_,h⟩=>?_
  simp at h;exact .inr (by omega)
theorem QC {bytes:Nat} {b:AV} {m:List α} {k:AV->Heap->Prop} {u} (hv:aZ f sz H v l) (hf:∀ a,(f a).length=sz) (h0:0 < sz) (bu:∀ a,(f a).all PV.one=true)
  (hb:zH H sz b=some (zm f m,m.length)) (hm:(l.length+m.length)*sz<=zl/\(l.length+m.length)*bytes<=zl)
  (hk:∀ v' H',aZ f sz H' v' (l++m)->H.nx<=H'.nx->(∀ i,i < H.nx->¬ Names v i->H'.get i=H.get i)->(∀ i,Names v' i->Names v i\/H.nx<=i)->k v' H'):wpE 0 (zk H sz bytes v b) H k u:=by
 have ho:=QA bu m;rcases hv with ⟨rfl,rfl⟩|⟨id,rfl,aj⟩
 .simp only [List.length_nil,Nat.zero_add] at hm
  by_cases xQ:m.length=0
  .have hl:m=[]:=List.eq_nil_of_length_eq_zero xQ;subst hl;have:zk H sz bytes (.pure .nils) b=some (.val (.pure .nils)):=by
    simp only [zk,hb,ho];simp
   rw [this,Qq];exact hk _ _ (.inl ⟨rfl,rfl⟩) (Nat.le_refl _) (fun _ _ _=>rfl) fun i h=>.inl h
  .have:zk H sz bytes (.pure .nils) b=some (.new (.cells true (zm f m)) fun id=>.row id sz 0 m.length):=by
    simp only [zk,hb,ho];simp only [Bool.not_true,Bool.false_eq_true,if_false];rw [if_neg xQ,if_pos hm]
   rw [this,Og]
   refine hk _ _ (.inr ⟨H.nx,by simp,by rw [List.nil_append];exact Ai _⟩) (Nat.le_succ _) (fun i hi _=>ze hi) fun i ⟨_,_,_,h⟩=>.inr ?_
   simp at h;omega
 .have hlen:=xX hf l
  by_cases xQ:m.length=0
  .have hl:m=[]:=List.eq_nil_of_length_eq_zero xQ;subst hl;have:zk H sz bytes (.row id sz 0 l.length) b=some (.upd (.row id sz 0 l.length) (H.set id (.cells true (zm f l)))):=by
    simp only [zk,hb,ho,aj,Om];simp only [Bool.not_true,Bool.false_eq_true,if_false,if_true,List.all_nil,List.length_nil,Nat.add_zero,Nat.zero_mul,Nat.zero_add,List.append_nil];rw [if_pos (by rw [hlen];exact Nat.le_refl _),List.take_of_length_le (by rw [hlen];exact Nat.le_refl _),List.drop_eq_nil_of_le (by rw [hlen];exact Nat.le_refl _),List.append_nil]
   rw [this,Hz]
   refine hk _ _ (.inr ⟨id,by simp,?_⟩) (Nat.le_refl _) (fun i hi hn=>zh fun e=>hn (by subst e;exact ⟨_,_,_,rfl⟩)) fun i h=>?_
   .rw [Jn (zu aj),List.append_nil]
   .obtain ⟨_,_,_,h⟩:=h;simp at h;exact .inl ⟨_,_,_,by rw [h.1]⟩
  .have rM:¬ (0*sz+(l.length+m.length)*sz<=(zm f l).length):=by
    rw [hlen,Nat.add_mul];have:=Nat.mul_pos (Nat.pos_of_ne_zero xQ) h0;omega
   have:zk H sz bytes (.row id sz 0 l.length) b=some (.upd (.row H.nx sz 0 (l.length+m.length)) ((H.set id .dead).alloc (.cells true (zm f l++zm f m)))):=by
    simp only [zk,hb,ho,aj];simp only [Bool.not_true,Bool.false_eq_true,if_false,if_true];rw [if_neg rM];simp only [true_and];rw [if_pos ⟨hlen.symm,hm⟩]
   rw [this,Hz]
   refine hk _ _ (.inr ⟨H.nx,by simp,?_⟩) (Nat.le_succ _) (fun i hi hn=>?_) fun i ⟨_,_,_,h⟩=>.inr ?_
   .have:(H.set id .dead).nx=H.nx:=rfl;rw [<- this,Ai,BM]
   .rw [ze (by exact hi),zh];intro e;subst e;exact hn ⟨_,_,_,rfl⟩
   .simp at h;omega
theorem aZ.JX {n:Nat} (h:aZ f sz H v l) (hf:∀ a,(f a).length=sz) (hl:l≠[]):FrzK H false (n+2) v ((Sl.mk false l).pv f sz):=by
 rcases h.frz (k:=false) (n:=n) hf with h1|⟨h1,_⟩
 .cases l with
  | nil=>exact absurd rfl hl
  | cons a l=>exact h1
 .exact absurd h1 hl
end
section
variable {cl:Callee} {env:Env} {H:Heap}
@[simp] theorem zti:step cl env H .makeMap=some (.new (.iC []) fun id=>.jr id):=rfl
@[simp] theorem ztD (id:Nat):AV.cells (.jr id)=[.jr id]:=rfl
@[simp] theorem zuM (id:Nat):AV.one (.jr id)=true:=rfl
end
structure Span where
 lo:Int
 hi:Int
 deriving Inhabited
@[simp] def Span.cells (s:Span):List PV:=[.int .i64 s.lo,.int .i64 s.hi]
@[simp] theorem Span.eta (s:Span):(⟨s.lo,s.hi⟩:Span)=s:=rfl
structure Box where
 x:Span
 y:Span
 deriving Inhabited
@[simp] def Box.cells (s:Box):List PV:=[.int .i64 s.x.lo,.int .i64 s.x.hi,.int .i64 s.y.lo,.int .i64 s.y.hi]
@[simp] theorem Box.eta (s:Box):(⟨s.x,s.y⟩:Box)=s:=rfl
structure Pt where
 x:Int
 y:Int
 deriving Inhabited
@[simp] def Pt.cells (s:Pt):List PV:=[.int .i64 s.x,.int .i64 s.y]
@[simp] theorem Pt.eta (s:Pt):(⟨s.x,s.y⟩:Pt)=s:=rfl
structure Fact where
 id:Int
 kind:Int
 nt:Bool
 a:Int
 b:Int
 c:Int
 span:Span
 quarter:Int
 deriving Inhabited
@[simp] def Fact.cells (s:Fact):List PV:=[.int .i64 s.id,.int .i64 s.kind,.bool s.nt,.int .i64 s.a,.int .i64 s.b,.int .i64 s.c,.int .i64 s.span.lo,.int .i64 s.span.hi,.int .i64 s.quarter]
@[simp] theorem Fact.eta (s:Fact):(⟨s.id,s.kind,s.nt,s.a,s.b,s.c,s.span,s.quarter⟩:Fact)=s:=rfl
structure Problem where
 boxes:Sl Box
 facts:Sl Fact
 deriving Inhabited
@[simp] def Problem.cells (s:Problem):List PV:=[(s.boxes).pv Box.cells 4,(s.facts).pv Fact.cells 9]
@[simp] theorem Problem.eta (s:Problem):(⟨s.boxes,s.facts⟩:Problem)=s:=rfl
def fq (s t:Span):Prop:=t.lo<=s.lo/\s.hi<=t.hi
def fG (a b:Box):Prop:=fq a.x b.x/\fq a.y b.y
def jq (b:Box):Prop:=b.x.lo<=b.x.hi/\b.y.lo<=b.y.hi
def aL (l m:List Box):Prop:=l.length=m.length/\∀ i (h:i < l.length) (h':i < m.length),fG l[i] m[i]
def Wf (l:List Box):Prop:=∀ b∈l,jq b
theorem zjs (b:Box):fG b b:=⟨⟨Int.le_refl _,Int.le_refl _⟩,⟨Int.le_refl _,Int.le_refl _⟩⟩
theorem zh0 {a b c:Box} (h:fG a b) (h':fG b c):fG a c:=by unfold fG fq at *;omega
theorem ziI {a b:Box} (h:fG a b) (h':fG b a):a=b:=by
 obtain ⟨⟨a1,a2⟩,a3,a4⟩:=a;obtain ⟨⟨b1,b2⟩,b3,b4⟩:=b;unfold fG fq at *;simp only [Box.mk.injEq,Span.mk.injEq] at *;omega
theorem aL.refl (l:List Box):aL l l:=⟨rfl,fun i h h'=>zjs _⟩
theorem aL.trans {l m k:List Box} (h:aL l m) (h':aL m k):aL l k:=⟨h.1.trans h'.1,fun i a b=>zh0 (h.2 i a (by rw [<- h.1];exact a)) (h'.2 i _ b)⟩
theorem aL.antisymm {l m:List Box} (h:aL l m) (h':aL m l):l=m :=
 List.ext_getElem h.1 fun i a b=>ziI (h.2 i a b) (h'.2 i b a)
theorem aL.set {l m:List Box} (h:aL l m) {i:Nat} {a b:Box} (yZ:fG a b):aL (l.set i a) (m.set i b) :=
 ⟨by simp [h.1],fun j h1 h2=>by
  rw [List.getElem_set,List.getElem_set]
  split
  .exact yZ
  .exact h.2 j (by simpa using h1) (by simpa using h2)⟩
theorem Wf.set {l:List Box} (h:Wf l) {i:Nat} {a:Box} (ha:jq a):Wf (l.set i a):=fun b hb=>by
 rcases List.mem_or_eq_of_mem_set hb with h1|rfl
 .exact h b h1
 .exact ha
def tJ (b:Box) (k:Nat):Box:=match k with
 | 0=>⟨⟨b.x.lo,b.x.lo⟩,b.y⟩
 | 1=>⟨⟨b.x.hi,b.x.hi⟩,b.y⟩
 | 2=>⟨b.x,⟨b.y.lo,b.y.lo⟩⟩
 | _=>⟨b.x,⟨b.y.hi,b.y.hi⟩⟩
def oM (b:Box) (k:Nat):Box:=match k with
 | 0=>⟨⟨b.x.lo+1,b.x.hi⟩,b.y⟩
 | 1=>⟨⟨b.x.lo,b.x.hi - 1⟩,b.y⟩
 | 2=>⟨b.x,⟨b.y.lo+1,b.y.hi⟩⟩
 | _=>⟨b.x,⟨b.y.lo,b.y.hi - 1⟩⟩
def mg (b:Box) (k:Nat):Prop:=if k < 2 then b.x.lo=b.x.hi else b.y.lo=b.y.hi
instance (b:Box) (k:Nat):Decidable (mg b k):=by unfold mg;infer_instance
theorem Oq {b:Box} (h:jq b) (k:Nat):jq (tJ b k):=by
 unfold jq tJ at *
 split<;>(simp only;omega)
theorem zjK {b:Box} (h:jq b) (k:Nat):fG (tJ b k) b:=by
 unfold jq tJ fG fq at *
 split<;>(simp only;omega)
theorem ztg {b:Box} (h:jq b) {k:Nat} (hk:k < 4) (ht:¬ mg b k):jq (oM b k):=by
 unfold jq oM mg at *;have:k=0\/k=1\/k=2\/k=3:=by omega
 rcases this with rfl|rfl|rfl|rfl<;>simp at *<;>omega
theorem zrY (b:Box) (k:Nat):fG (oM b k) b:=by
 unfold oM fG fq
 split<;>(simp only;omega)
theorem zkm {a b:Box} (h:fG a b) (ha:jq a) {k:Nat} (hk:k < 4):fG a (oM b k)\/fG (tJ a k) (tJ b k):=by
 unfold fG fq oM tJ jq at *;have:k=0\/k=1\/k=2\/k=3:=by omega
 rcases this with rfl|rfl|rfl|rfl<;>simp only<;>omega
theorem znH {a b:Box} (h:fG a b) (ha:jq a) {k:Nat} (hk:k < 4) (ht:mg b k):fG (tJ a k) (tJ b k):=by
 unfold fG fq tJ jq mg at *;have:k=0\/k=1\/k=2\/k=3:=by omega
 rcases this with rfl|rfl|rfl|rfl<;>simp at *<;>omega
section
variable {F:Type} {fails:F->List Box->Prop} {facts:List F} {boxes:List Box}
def vg (fails:F->List Box->Prop) (facts:List F) (n:Nat):Prop:=∀ f∈facts,∀ l m,m.length=n->Wf m->aL l m->Wf l->fails f m->fails f l
def zV (l:List Box) (i k:Nat):List Box:=match l[i]? with
 | some b=>l.set i (tJ b k)
 | none=>l
def oN (l:List Box) (i k:Nat):List Box:=match l[i]? with
 | some b=>l.set i (oM b k)
 | none=>l
theorem Aj {l:List Box} {i:Nat} (h:i < l.length) (k:Nat):zV l i k=l.set i (tJ l[i] k):=by simp [zV,h]
theorem Gt {l:List Box} {i:Nat} (h:i < l.length) (k:Nat):oN l i k=l.set i (oM l[i] k):=by simp [oN,h]
def Stable (fails:F->List Box->Prop) (facts:List F) (l:List Box):Prop:=∀ i,i < l.length->∀ k,k < 4->∀ f∈facts,¬ fails f (zV l i k)
structure Holds' (fails:F->List Box->Prop) (facts:List F) (boxes l:List Box):Prop where
 wf:Wf l
 sub:aL l boxes
 all:∀ m,Wf m->aL m boxes->Stable fails facts m->aL m l
def bN (fails:F->List Box->Prop) (facts:List F) (boxes:List Box):Option (List Box)->Prop
 | some l=>Holds' fails facts boxes l/\Stable fails facts l
 | none=>∀ m,Wf m->aL m boxes->¬ Stable fails facts m
theorem bN.unique {r s:Option (List Box)} (h:bN fails facts boxes r) (h':bN fails facts boxes s):r=s:=by
 cases r with
 | none=>cases s with
  | none=>rfl
  | some m=>exact absurd h'.2 (h m h'.1.wf h'.1.sub)
 | some l=>cases s with
  | none=>exact absurd h.2 (h' l h.1.wf h.1.sub)
  | some m=>rw [(h'.1.all l h.1.wf h.1.sub h.2).antisymm (h.1.all m h'.1.wf h'.1.sub h'.2)]
theorem Holds'.init (h:Wf boxes):Holds' fails facts boxes boxes:=⟨h,aL.refl _,fun m _ hs _=>hs⟩
theorem Holds'.cut {l:List Box} (ha:vg fails facts boxes.length) (h:Holds' fails facts boxes l) {i k:Nat} (hi:i < l.length) (hk:k < 4) {f:F} (hf:f∈facts) (hb:fails f (zV l i k)) (ht:¬ mg l[i] k) :
  Holds' fails facts boxes (oN l i k):=by
 have hw:=h.wf _ (List.getElem_mem hi);rw [Gt hi]
 refine ⟨h.wf.set (ztg hw hk ht),⟨by simp [h.sub.1],fun j h1 h2=>?_⟩,fun m hm hs fF=>?_⟩
 .rw [List.getElem_set]
  split
  .rename_i e;subst e;exact zh0 (zrY _ _) (h.sub.2 i hi h2)
  .exact h.sub.2 j (by simpa using h1) h2
 .have sK:=h.all m hm hs fF;have xZ:i < m.length:=by rw [sK.1];exact hi
  refine ⟨by simp [sK.1],fun j h1 h2=>?_⟩
  rw [List.getElem_set]
  split
  .rename_i e;subst e;rcases zkm (sK.2 i xZ hi) (hm _ (List.getElem_mem xZ)) hk with h3|h3
   .exact h3
   .exfalso;have h4:=fF i xZ k hk f hf;rw [Aj xZ] at h4;rw [Aj hi] at hb;exact h4 (ha f hf _ _ (by simp [h.sub.1]) (h.wf.set (Oq hw k)) (sK.set h3) (hm.set (Oq (hm _ (List.getElem_mem xZ)) k)) hb)
  .exact sK.2 j h1 (by simpa using h2)
theorem Holds'.empty {l:List Box} (ha:vg fails facts boxes.length) (h:Holds' fails facts boxes l) {i k:Nat} (hi:i < l.length) (hk:k < 4) {f:F} (hf:f∈facts) (hb:fails f (zV l i k)) (ht:mg l[i] k) :
  bN fails facts boxes none:=by
 intro m hm hs fF;have hw:=h.wf _ (List.getElem_mem hi);have sK:=h.all m hm hs fF;have xZ:i < m.length:=by rw [sK.1];exact hi
 have h4:=fF i xZ k hk f hf;rw [Aj xZ] at h4;rw [Aj hi] at hb;exact h4 (ha f hf _ _ (by simp [h.sub.1]) (h.wf.set (Oq hw k)) (sK.set (znH (sK.2 i xZ hi) (hm _ (List.getElem_mem xZ)) hk ht)) (hm.set (Oq (hm _ (List.getElem_mem xZ)) k)) hb)
theorem Holds'.fail {l:List Box} (ha:vg fails facts boxes.length) (h:Holds' fails facts boxes l) (h0:0 < l.length) {f:F} (hf:f∈facts) (hb:fails f l):bN fails facts boxes none:=by
 intro m hm hs fF;have sK:=h.all m hm hs fF;have xZ:0 < m.length:=by rw [sK.1];exact h0
 refine fF 0 xZ 0 (by decide) f hf ?_
 rw [Aj xZ];have nE:aL (m.set 0 (tJ m[0] 0)) l:=by
  refine aL.trans ⟨by simp,fun j h1 h2=>?_⟩ sK
  rw [List.getElem_set]
  split
  .rename_i e;subst e;exact zjK (hm _ (List.getElem_mem xZ)) 0
  .exact zjs _
 exact ha f hf _ _ h.sub.1 h.wf nE (hm.set (Oq (hm _ (List.getElem_mem xZ)) 0)) hb
def Ot (b:Box):Nat:=(b.x.hi - b.x.lo).toNat+(b.y.hi - b.y.lo).toNat
def rT (l:List Box):Nat:=(l.map Ot).sum
theorem zqo {b:Box} (h:jq b) {k:Nat} (hk:k < 4) (ht:¬ mg b k):Ot (oM b k) < Ot b:=by
 unfold jq oM mg Ot at *;have:k=0\/k=1\/k=2\/k=3:=by omega
 rcases this with rfl|rfl|rfl|rfl<;>simp at *<;>omega
theorem zop:∀ (l:List Nat) (i a:Nat) (h:i < l.length),a < l[i]->(l.set i a).sum < l.sum
 | b::l,0,a,_,ha=>by simp at ha ⊢;omega
 | b::l,i+1,a,h,ha=>by
  have:=zop l i a (by simpa using h) (by simpa using ha);simp;omega
theorem Ur {l:List Box} (hw:Wf l) {i k:Nat} (hi:i < l.length) (hk:k < 4) (ht:¬ mg l[i] k):rT (oN l i k) < rT l:=by
 rw [Gt hi];unfold rT;rw [List.map_set];exact zop _ i _ (by simpa using hi) (by simpa using zqo (hw _ (List.getElem_mem hi)) hk ht)
theorem zrT (ha:vg fails facts boxes.length):∀ (N:Nat) (l:List Box),rT l<=N->Holds' fails facts boxes l->∃ r,bN fails facts boxes r:=by
 intro N
 induction N with
 | zero =>
  intro l hN h
  by_cases hs:Stable fails facts l
  .exact ⟨some l,h,hs⟩
  .have:∃ i,∃ hi:i < l.length,∃ k,k < 4/\∃ f∈facts,fails f (zV l i k):=by
    refine Classical.byContradiction fun hc=>hs fun i hi k hk f hf hb=>hc ⟨i,hi,k,hk,f,hf,hb⟩
   obtain ⟨i,hi,k,hk,f,hf,hb⟩:=this
   by_cases ht:mg l[i] k
   .exact ⟨none,h.empty ha hi hk hf hb ht⟩
   .have:=Ur h.wf hi hk ht;omega
 | succ N ih =>
  intro l hN h
  by_cases hs:Stable fails facts l
  .exact ⟨some l,h,hs⟩
  .have:∃ i,∃ hi:i < l.length,∃ k,k < 4/\∃ f∈facts,fails f (zV l i k):=by
    refine Classical.byContradiction fun hc=>hs fun i hi k hk f hf hb=>hc ⟨i,hi,k,hk,f,hf,hb⟩
   obtain ⟨i,hi,k,hk,f,hf,hb⟩:=this
   by_cases ht:mg l[i] k
   .exact ⟨none,h.empty ha hi hk hf hb ht⟩
   .have:=Ur h.wf hi hk ht;exact ih _ (by omega) (h.cut ha hi hk hf hb ht)
theorem XZ (ha:vg fails facts boxes.length) (hw:Wf boxes):∃ r,bN fails facts boxes r:=zrT ha _ boxes (Nat.le_refl _) (Holds'.init hw)
theorem Holds'.stop {l:List Box} (h:Holds' fails facts boxes l) (hs:Stable fails facts l) {r:Option (List Box)} (hr:bN fails facts boxes r):r=some l:=hr.unique (s:=some l) ⟨h,hs⟩
end
structure Node where
 fact:Int
 point:Int
 jd:Int
 at_:Int
 deriving Inhabited
@[simp] def Node.cells (s:Node):List PV:=[.int .i64 s.fact,.int .i64 s.point,.int .i64 s.jd,.int .i64 s.at_]
@[simp] theorem Node.eta (s:Node):(⟨s.fact,s.point,s.jd,s.at_⟩:Node)=s:=rfl
@[simp] theorem ztC {l:List Node} {i:Nat} (x0:Int) (x1:Int) (x2:Int) (x3:Int) (h:i < l.length):rQ (.cells true (zm Node.cells l)) 4 (i*4) [.pure (.int .i64 x0),.pure (.int .i64 x1),.pure (.int .i64 x2),.pure (.int .i64 x3)]=some (.cells true (zm Node.cells (l.set i ⟨x0,x1,x2,x3⟩))):=Ia (f:=Node.cells) (a:=⟨x0,x1,x2,x3⟩) (fun _=>rfl) (fun _=>by first|rfl|simp) (by decide) h
def bK (b:Box) (ax:Nat):Span:=if ax=0 then b.x else b.y
def tK (b:Box) (ax:Nat) (s:Span):Box:=if ax=0 then ⟨s,b.y⟩ else ⟨b.x,s⟩
def ni (b:Box) (ax:Nat) (t:Int):Box:=tK b ax ⟨(bK b ax).lo,t⟩
def x8 (b:Box) (ax:Nat) (t:Int):Box:=tK b ax ⟨t+1,(bK b ax).hi⟩
def bV (l:List Box) (i ax:Nat) (t:Int):List Box:=match l[i]? with
 | some b=>l.set i (ni b ax t)
 | none=>l
def nk (l:List Box) (i ax:Nat) (t:Int):List Box:=match l[i]? with
 | some b=>l.set i (x8 b ax t)
 | none=>l
theorem DX {l:List Box} {i:Nat} (h:i < l.length) (ax:Nat) (t:Int):bV l i ax t=l.set i (ni l[i] ax t):=by simp [bV,h]
theorem DY {l:List Box} {i:Nat} (h:i < l.length) (ax:Nat) (t:Int):nk l i ax t=l.set i (x8 l[i] ax t):=by simp [nk,h]
structure iU (l:List Box) (i ax:Nat) (t:Int):Prop where
 il:i < l.length
 al:ax < 2
 lo:(bK (l[i]'il) ax).lo<=t
 hi:t < (bK (l[i]'il) ax).hi
def CR (b:Box):Nat:=(b.x.hi - b.x.lo).toNat+(b.y.hi - b.y.lo).toNat
def fU (l:List Box):Nat:=(l.map CR).sum
theorem zlk:∀ {l:List Nat} {i a:Nat} (h:i < l.length),(l.set i a).sum+l[i]=l.sum+a
 | [],i,a,h=>by simp at h
 | x::l,0,a,h=>by simp;omega
 | x::l,i+1,a,h=>by
  have:=zlk (l:=l) (i:=i) (a:=a) (by simpa using h);simp only [List.set_cons_succ,List.sum_cons,List.getElem_cons_succ];omega
theorem X3 {l:List Box} {i:Nat} (h:i < l.length) (b:Box):fU (l.set i b)+CR l[i]=fU l+CR b:=by
 unfold fU;have:=zlk (l:=l.map CR) (i:=i) (a:=CR b) (by simpa using h);rw [List.map_set]
 simpa using this
theorem QD {l:List Box} {i ax:Nat} {t:Int} (h:iU l i ax t):fU (bV l i ax t) < fU l:=by
 have aU:=h.il;rw [DX aU];have h1:=X3 aU (ni l[i] ax t);have h2:=h.lo;have h3:=h.hi;have h4:=h.al;unfold CR ni tK bK at *
 by_cases e:ax=0
 .simp only [e,if_true] at *;omega
 .simp only [e,if_false] at *;omega
theorem QE {l:List Box} {i ax:Nat} {t:Int} (h:iU l i ax t):fU (nk l i ax t) < fU l:=by
 have aU:=h.il;rw [DY aU];have h1:=X3 aU (x8 l[i] ax t);have h2:=h.lo;have h3:=h.hi;have h4:=h.al;unfold CR x8 tK bK at *
 by_cases e:ax=0
 .simp only [e,if_true] at *;omega
 .simp only [e,if_false] at *;omega
inductive oO (bad:Int->List Box->Prop):List Box->List Node->Prop
 | leaf (l:List Box) (f:Int) (h:bad f l):oO bad l [⟨f,0,0,0⟩]
 | node (l:List Box) (i ax:Nat) (t:Int) (ta tb:List Node) (h:iU l i ax t) (ha:oO bad (bV l i ax t) ta) (hb:oO bad (nk l i ax t) tb):oO bad l (⟨-1,i,ax,t⟩::(ta++tb))
def Ib (mO:List Box->Int) (ch:List Box->Option (Nat×Nat×Int)):Nat->List Box->List Node
 | 0,_=>[]
 | n+1,l=>if 0<=mO l then [⟨mO l,0,0,0⟩] else match ch l with
  | none=>[]
  | some c=>⟨-1,c.1,c.2.1,c.2.2⟩::(Ib mO ch n (bV l c.1 c.2.1 c.2.2)++Ib mO ch n (nk l c.1 c.2.1 c.2.2))
theorem X4 {mO:List Box->Int} {ch:List Box->Option (Nat×Nat×Int)} {bad:Int->List Box->Prop} (vk:∀ l,0<=mO l->bad (mO l) l) {Ou:List Box->Nat->Prop} (h1:∀ l b,Ou l b->1<=b)
  (hs:∀ l b,Ou l b->mO l < 0->∃ i ax t,ch l=some (i,ax,t)/\iU l i ax t/\∃ ba bb,ba+bb<=b/\Ou (bV l i ax t) ba/\Ou (nk l i ax t) bb) :
  ∀ n l b,Ou l b->fU l < n->oO bad l (Ib mO ch n l)/\(Ib mO ch n l).length+1<=2*b
 | 0,l,b,_,h=>by omega
 | n+1,l,b,hp,hm=>by
  unfold Ib
  by_cases h0:0<=mO l
  .rw [if_pos h0];exact ⟨.leaf l _ (vk l h0),by have:=h1 l b hp;simp only [List.length_cons,List.length_nil];omega⟩
  .rw [if_neg h0];obtain ⟨i,ax,t,hc,Ov,ba,bb,hb,hpa,QF⟩:=hs l b hp (by omega);rw [hc];have ma:=QD Ov;have mb:=QE Ov;obtain ⟨fa,la⟩:=X4 vk h1 hs n (bV l i ax t) ba hpa (by omega);obtain ⟨fb,lb⟩:=X4 vk h1 hs n (nk l i ax t) bb QF (by omega)
   refine ⟨.node l i ax t _ _ Ov fa fb,?_⟩
   simp only [List.length_cons,List.length_append];omega
def sN (b:Box):Nat:=(b.x.hi - b.x.lo+1).toNat*(b.y.hi - b.y.lo+1).toNat
def fB (l:List Box):List Nat->Nat
 | []=>1
 | i::r=>sN l[i]! * fB l r
theorem X5 {b:Box} (h:jq b):1<=sN b:=by
 unfold sN;unfold jq at h;exact Nat.mul_pos (by omega) (by omega)
theorem X6 {l:List Box} (hw:Wf l):∀ {part:List Nat},(∀ i∈part,i < l.length)->1<=fB l part
 | [],_=>Nat.le_refl _
 | i::r,h=>by
  have hi:=h i List.mem_cons_self;have h1:=X5 (hw _ (List.getElem_mem hi));have h2:=X6 hw (part:=r) fun j hj=>h j (List.mem_cons_of_mem _ hj);simp only [fB,getElem!_pos l i hi];exact Nat.mul_pos h1 h2
theorem zlm {l:List Box} {i:Nat} {b:Box}:∀ {part:List Nat},i ∉ part->fB (l.set i b) part=fB l part
 | [],_=>rfl
 | j::r,h=>by
  have hj:i≠j:=fun e=>h (e ▸ List.mem_cons_self);simp only [fB,List.getElem!_eq_getElem?_getD,List.getElem?_set_ne hj];rw [zlm fun hm=>h (List.mem_cons_of_mem _ hm)]
theorem zhN {l:List Box} {i:Nat} (hi:i < l.length) {b1 b2:Box} (ha:sN b1+sN b2=sN l[i]):∀ {part:List Nat},part.Nodup->i∈part->fB (l.set i b1) part+fB (l.set i b2) part=fB l part
 | [],_,h=>by simp at h
 | j::r,hn,h=>by
  have jh:=List.nodup_cons.1 hn
  by_cases e:i=j
  .subst e;simp only [fB,zlm jh.1];rw [getElem!_pos (l.set i b1) i (by simpa using hi),getElem!_pos (l.set i b2) i (by simpa using hi),getElem!_pos l i hi,List.getElem_set_self,List.getElem_set_self,<- Nat.add_mul,ha]
  .have hir:i∈r:=by
    rcases List.mem_cons.1 h with h|h
    .exact absurd h e
    .exact h
   have ih:=zhN hi ha jh.2 hir;simp only [fB,List.getElem!_eq_getElem?_getD,List.getElem?_set_ne e];rw [<- Nat.mul_add,ih]
theorem zmN {b:Box} {ax:Nat} {t:Int} (h1:(bK b ax).lo<=t) (h2:t < (bK b ax).hi):sN (ni b ax t)+sN (x8 b ax t)=sN b:=by
 unfold sN ni x8 tK bK at *
 by_cases e:ax=0
 .simp only [e,if_true] at *;rw [<- Nat.add_mul]
  congr 1
  omega
 .simp only [e,if_false] at *;rw [<- Nat.mul_add]
  congr 1
  omega
theorem Us {b:Box} {ax:Nat} {t:Int} (hw:jq b) (h1:(bK b ax).lo<=t) (h2:t < (bK b ax).hi):jq (ni b ax t)/\jq (x8 b ax t)/\fG (ni b ax t) b/\fG (x8 b ax t) b:=by
 unfold jq ni x8 tK bK fG fq at *
 by_cases e:ax=0
 .simp only [e,if_true] at *;omega
 .simp only [e,if_false] at *;omega
theorem zql {l:List Box} {i ax:Nat} (hi:i < l.length) (ha:ax < 2):bV l i ax (bK l[i] ax).lo=zV l i (2*ax)/\nk l i ax (bK l[i] ax).lo=oN l i (2*ax):=by
 rw [DX hi,DY hi,Aj hi,Gt hi];have:ax=0\/ax=1:=by omega
 rcases this with rfl|rfl<;>simp [ni,x8,tK,bK,tJ,oM]
theorem zpo {l:List Box} {i ax:Nat} (hi:i < l.length) (ha:ax < 2):bV l i ax ((bK l[i] ax).hi - 1)=oN l i (2*ax+1)/\nk l i ax ((bK l[i] ax).hi - 1)=zV l i (2*ax+1):=by
 rw [DX hi,DY hi,Aj hi,Gt hi];have:ax=0\/ax=1:=by omega
 rcases this with rfl|rfl<;>simp [ni,x8,tK,bK,tJ,oM]
section
variable {F:Type} {fails:F->List Box->Prop} {facts:List F} {boxes:List Box}
def Ak (fails:F->List Box->Prop) (facts:List F) (l:List Box):Prop:=∃ f∈facts,fails f l
inductive nu (fails:F->List Box->Prop) (facts:List F) (boxes:List Box) (part:List Nat):Option (List Box)->List Box->Nat->Prop
 | bad (r:Option (List Box)) (l:List Box) (b:Nat) (h:Ak fails facts l) (hb:1<=b):nu fails facts boxes part r l b
 | out (N l:List Box) (b:Nat) (h:Holds' fails facts boxes l) (hb:fU l+fB N part<=b+fU N):nu fails facts boxes part (some N) l b
 | CS (N l:List Box) (b:Nat) (h:aL l N) (hw:Wf l) (hb:fB l part<=b):nu fails facts boxes part (some N) l b
 | none (l:List Box) (b:Nat) (h:Holds' fails facts boxes l) (hb:fU l+1<=b):nu fails facts boxes part none l b
theorem ztm:∀ {l m:List Box},aL l m->fU l<=fU m:=by
 intro l
 induction l with
 | nil=>intro m h;simp [fU]
 | cons a l ih =>
  intro m h
  cases m with
  | nil=>have:=h.1;simp at this
  | cons b m =>
   have h0:=h.2 0 (by simp) (by simp);have hs:aL l m:=⟨by simpa using h.1,fun i h1 h2=>h.2 (i+1) (by simpa using h1) (by simpa using h2)⟩
   have:=ih hs;unfold fG fq at h0;simp only [List.getElem_cons_zero] at h0;have hm:CR a<=CR b:=by unfold CR;omega
   unfold fU at *;simp only [List.map_cons,List.sum_cons];omega
theorem zrq {l:List Box} {i k:Nat} (hi:i < l.length) (hk:k < 4) (ht:¬ mg l[i] k) (hw:jq l[i]):fU (oN l i k)+1=fU l:=by
 rw [Gt hi];have h1:=X3 hi (oM l[i] k);have uz:k=0\/k=1\/k=2\/k=3:=by omega
 unfold CR oM mg jq at *;rcases uz with rfl|rfl|rfl|rfl<;>simp at *<;>omega
def x9 (loose:List Box->Option (Nat×Nat)) (wide:List Box->Nat×Nat) (l:List Box):Option (Nat×Nat×Int):=match loose l with
 | some s=>some (s.1,s.2 / 2,if s.2 % 2=0 then (bK l[s.1]! (s.2 / 2)).lo else (bK l[s.1]! (s.2 / 2)).hi - 1)
 | none=>if (bK l[(wide l).1]! (wide l).2).lo=(bK l[(wide l).1]! (wide l).2).hi then none else
   some ((wide l).1,(wide l).2,(bK l[(wide l).1]! (wide l).2).lo+((bK l[(wide l).1]! (wide l).2).hi - (bK l[(wide l).1]! (wide l).2).lo) / 2)
structure vv (fails:F->List Box->Prop) (facts:List F) (boxes:List Box) (part:List Nat) (loose:List Box->Option (Nat×Nat)) (wide:List Box->Nat×Nat):Prop where
 nodup:part.Nodup
 lt:∀ i∈part,i < boxes.length
 some:∀ l i k,l.length=boxes.length->Wf l->loose l=some (i,k)->i∈part/\k < 4/\∃ h:i < l.length,¬ mg l[i] k/\∃ f∈facts,fails f (zV l i k)
 none:∀ l,l.length=boxes.length->Wf l->loose l=none->¬ Ak fails facts l->Stable fails facts l
 wide:∀ l,l.length=boxes.length->Wf l->aL l boxes->¬ Ak fails facts l->(wide l).1∈part/\(wide l).2 < 2/\∃ h:(wide l).1 < l.length,(bK l[(wide l).1] (wide l).2).lo < (bK l[(wide l).1] (wide l).2).hi
variable {part:List Nat} {loose:List Box->Option (Nat×Nat)} {wide:List Box->Nat×Nat} {r:Option (List Box)}
theorem nu.pos {l:List Box} {b:Nat} (hr:bN fails facts boxes r) (aK:∀ i∈part,i < boxes.length) (h:nu fails facts boxes part r l b):1<=b:=by
 cases h with
 | bad _ _ _ _ hb=>exact hb
 | out N _ _ h hb =>
  have hs:aL N l:=h.all N hr.1.wf hr.1.sub hr.2;have h1:=ztm hs;have h2:=X6 hr.1.wf (part:=part) fun i hi=>by rw [hr.1.sub.1];exact aK i hi
  omega
 | CS N _ _ h hw hb =>
  have h2:=X6 hw (part:=part) fun i hi=>by rw [h.1,hr.1.sub.1];exact aK i hi
  omega
 | none _ _ h hb=>omega
theorem X7 {l:List Box} {i k:Nat} (hk:k < 4) (hi:i < l.length) (ht:¬ mg l[i] k) (hw:jq l[i]) {Q:List Box->Nat->Prop} {b:Nat} (h1:Q (zV l i k) 1) (h2:Q (oN l i k) b) :
  iU l i (k / 2) (if k % 2=0 then (bK l[i]! (k / 2)).lo else (bK l[i]! (k / 2)).hi - 1)/\∃ ba bb,ba+bb<=b+1/\Q (bV l i (k / 2) (if k % 2=0 then (bK l[i]! (k / 2)).lo else (bK l[i]! (k / 2)).hi - 1)) ba/\Q (nk l i (k / 2) (if k % 2=0 then (bK l[i]! (k / 2)).lo else (bK l[i]! (k / 2)).hi - 1)) bb:=by
 rw [getElem!_pos l i hi];have iN:(bK l[i] (k / 2)).lo < (bK l[i] (k / 2)).hi:=by
  unfold mg at ht;unfold jq at hw;unfold bK;have uz:k=0\/k=1\/k=2\/k=3:=by omega
  rcases uz with rfl|rfl|rfl|rfl<;>simp at *<;>omega
 by_cases e:k % 2=0
 .rw [if_pos e];obtain ⟨s1,s2⟩:=zql (l:=l) (i:=i) (ax:=k / 2) hi (by omega);rw [show 2*(k / 2)=k by omega] at s1 s2;exact ⟨⟨hi,by omega,Int.le_refl _,iN⟩,1,b,by omega,by rw [s1];exact h1,by rw [s2];exact h2⟩
 .rw [if_neg e];obtain ⟨s1,s2⟩:=zpo (l:=l) (i:=i) (ax:=k / 2) hi (by omega);rw [show 2*(k / 2)+1=k by omega] at s1 s2;exact ⟨⟨hi,by omega,by omega,by omega⟩,b,1,by omega,by rw [s1];exact h2,by rw [s2];exact h1⟩
theorem zrM {N l:List Box} {i ax:Nat} {t:Int} (hn:part.Nodup) (hs:aL l N) (hw:Wf l) (hp:iU l i ax t) (hi:i∈part):fB (bV l i ax t) part+fB (nk l i ax t) part=fB l part/\aL (bV l i ax t) N/\aL (nk l i ax t) N/\Wf (bV l i ax t)/\Wf (nk l i ax t):=by
 have aU:=hp.il;obtain ⟨w1,w2,s1,s2⟩:=Us (hw _ (List.getElem_mem aU)) hp.lo hp.hi;rw [DX aU,DY aU];have g1:=(aL.refl l).set (i:=i) s1;have g2:=(aL.refl l).set (i:=i) s2;rw [List.set_getElem_self] at g1 g2;exact ⟨zhN aU (zmN hp.lo hp.hi) hn hi,g1.trans hs,g2.trans hs,hw.set w1,hw.set w2⟩
theorem zlT {N l:List Box} {b:Nat} (hr:bN fails facts boxes (some N)) (ti:vv fails facts boxes part loose wide) (hs:aL l N) (hw:Wf l) (hv:fB l part<=b) (hb:¬ Ak fails facts l) :
  ∃ i ax t,x9 loose wide l=some (i,ax,t)/\iU l i ax t/\∃ ba bb,ba+bb<=b/\nu fails facts boxes part (some N) (bV l i ax t) ba/\nu fails facts boxes part (some N) (nk l i ax t) bb:=by
 have hl:l.length=boxes.length:=hs.1.trans hr.1.sub.1;have fin:∀ i ax t,iU l i ax t->i∈part->∃ ba bb,ba+bb<=b/\nu fails facts boxes part (some N) (bV l i ax t) ba/\nu fails facts boxes part (some N) (nk l i ax t) bb:=fun i ax t hp hi=>by
  obtain ⟨h1,h2,h3,h4,h5⟩:=zrM ti.nodup hs hw hp hi;exact ⟨_,_,by omega,.CS N _ _ h2 h4 (Nat.le_refl _),.CS N _ _ h3 h5 (Nat.le_refl _)⟩
 cases iN:loose l with
 | some s =>
  obtain ⟨i,k⟩:=s;obtain ⟨hi,hk,aU,ht,_⟩:=ti.some l i k hl hw iN;have hp:=(X7 hk aU ht (hw _ (List.getElem_mem aU)) (Q:=fun _ _=>True) (b:=0) trivial trivial).1;exact ⟨i,k / 2,_,by simp only [x9,iN],hp,fin _ _ _ hp hi⟩
 | none =>
  obtain ⟨hi,y8,aU,aK⟩:=ti.wide l hl hw (hs.trans hr.1.sub) hb;have hp:iU l (wide l).1 (wide l).2 ((bK l[(wide l).1]! (wide l).2).lo+((bK l[(wide l).1]! (wide l).2).hi - (bK l[(wide l).1]! (wide l).2).lo) / 2):=by
   rw [getElem!_pos l _ aU];exact ⟨aU,y8,by omega,by omega⟩
  refine ⟨(wide l).1,(wide l).2,_,?_,hp,fin _ _ _ hp hi⟩
  simp only [x9,iN];rw [if_neg];rw [getElem!_pos l _ aU];omega
theorem zrf {l:List Box} {b:Nat} (ha:vg fails facts boxes.length) (hr:bN fails facts boxes r) (ti:vv fails facts boxes part loose wide) (h:nu fails facts boxes part r l b) (hb:¬ Ak fails facts l) :
  ∃ i ax t,x9 loose wide l=some (i,ax,t)/\iU l i ax t/\∃ ba bb,ba+bb<=b/\nu fails facts boxes part r (bV l i ax t) ba/\nu fails facts boxes part r (nk l i ax t) bb:=by
 have nM:=h.pos hr ti.lt
 cases h with
 | bad _ _ _ h _=>exact absurd h hb
 | CS N _ _ hs hw hv=>exact zlT hr ti hs hw hv hb
 | out N _ _ hh hm =>
  cases iN:loose l with
  | some s =>
   obtain ⟨i,k⟩:=s;obtain ⟨hi,hk,aU,ht,f,hf,nI⟩:=ti.some l i k hh.sub.1 hh.wf iN;have hw:=hh.wf _ (List.getElem_mem aU);have oZ:=zrq aU hk ht hw;obtain ⟨hp,ba,bb,h1,h2,h3⟩:=X7 hk aU ht hw (Q:=nu fails facts boxes part (some N)) (b:=b - 1) (.bad _ _ _ ⟨f,hf,nI⟩ (Nat.le_refl _)) (.out N _ _ (hh.cut ha aU hk hf nI ht) (by omega));exact ⟨i,k / 2,_,by simp only [x9,iN],hp,ba,bb,by omega,h2,h3⟩
  | none =>
   have fF:=ti.none l hh.sub.1 hh.wf iN hb;have e:=bN.unique (r:=some l) (s:=some N) ⟨hh,fF⟩ hr;simp only [Option.some.injEq] at e;subst e;exact zlT hr ti (aL.refl _) hh.wf (by omega) hb
 | none _ _ hh hm =>
  cases iN:loose l with
  | some s =>
   obtain ⟨i,k⟩:=s;obtain ⟨hi,hk,aU,ht,f,hf,nI⟩:=ti.some l i k hh.sub.1 hh.wf iN;have hw:=hh.wf _ (List.getElem_mem aU);have oZ:=zrq aU hk ht hw;obtain ⟨hp,ba,bb,h1,h2,h3⟩:=X7 hk aU ht hw (Q:=nu fails facts boxes part none) (b:=b - 1) (.bad _ _ _ ⟨f,hf,nI⟩ (Nat.le_refl _)) (.none _ _ (hh.cut ha aU hk hf nI ht) (by omega));exact ⟨i,k / 2,_,by simp only [x9,iN],hp,ba,bb,by omega,h2,h3⟩
  | none=>exact absurd (ti.none l hh.sub.1 hh.wf iN hb) (hr l hh.wf hh.sub)
def CU (r:Option (List Box)) (part:List Nat):Nat:=match r with
 | some N=>fB N part
 | none=>1
theorem zqH {mO:List Box->Int} {QG:Int->List Box->Prop} (QH:∀ l,0<=mO l->QG (mO l) l) (QI:∀ l,mO l < 0->¬ Ak fails facts l) (ha:vg fails facts boxes.length) (hw:Wf boxes) (hr:bN fails facts boxes r) (ti:vv fails facts boxes part loose wide) (n:Nat) (hn:fU boxes < n) :
  oO QG boxes (Ib mO (x9 loose wide) n boxes)/\(Ib mO (x9 loose wide) n boxes).length+1<=2*(fU boxes+CU r part):=by
 refine X4 (Ou:=nu fails facts boxes part r) QH (fun l b h=>h.pos hr ti.lt) (fun l b h hb=>zrf ha hr ti h (QI l hb)) n boxes _ ?_ hn
 cases r with
 | some N=>exact .out N _ _ (.init hw) (by simp only [CU];omega)
 | none=>exact .none _ _ (.init hw) (by simp only [CU];omega)
end
end Go.Proofs.YtmmhnfghklppiaaGreat.Vm
