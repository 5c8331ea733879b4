/- The library's sort of numbers, as the machine of values runs it, by its contract. Contracts of functions of Go's library for the machine of values: slices.Sort, Clone, Delete, Compact, IndexFunc. Appending in a chain: onto an empty literal, and rows of more than one. Maps: what single operations come to; sets of numbers, and tables from numbers. Problems, as data. Narrowing: the greatest boxes no strip of which fails, whichever way they are found. Plain Lean. Trees of cuts: one that grows fits, and how large it is. Plain Lean. How large a refutation's tree is: strips outside of what narrowing leaves, then a division of what is left. Plain Lean. -/
import Derived.Test.YtmmhnfghklppiaaGreatWk7
import Derived.Sort.Grow
import Derived.Sort.Row
import Derived.CallsIn
namespace Go.Proofs.YtmmhnfghklppiaaGreat.Vm
open Go Go.RowKit
set_option linter.unusedVariables false
def ins (a:Int):List Int->List Int
 | []=>[a]
 | b::l=>if a<=b then a::b::l else b::ins a l
def xH:List Int->List Int
 | []=>[]
 | a::l=>ins a (xH l)
theorem ZT (a:Int):∀ l:List Int,(ins a l).Perm (a::l)
 | []=>List.Perm.refl _
 | b::l=>by
  unfold ins
  split
  .exact List.Perm.refl _
  .exact ((ZT a l).cons b).trans (List.Perm.swap a b l)
theorem ZU:∀ l:List Int,(xH l).Perm l
 | []=>List.Perm.refl _
 | a::l=>(ZT a (xH l)).trans ((ZU l).cons a)
theorem ziN (a:Int):∀ {l:List Int},l.Pairwise (·<=·)->(ins a l).Pairwise (·<=·)
 | [],_=>by simp [ins]
 | b::l,h=>by
  have h1:=List.pairwise_cons.1 h;unfold ins
  split
  .rename_i Ci
   refine List.pairwise_cons.2 ⟨fun x hx=>?_,h⟩
   rcases List.mem_cons.1 hx with rfl|hx
   .exact Ci
   .exact Int.le_trans Ci (h1.1 x hx)
  .rename_i Ci
   refine List.pairwise_cons.2 ⟨fun x hx=>?_,ziN a h1.2⟩
   rcases List.mem_cons.1 ((ZT a l).mem_iff.1 hx) with rfl|hx
   .omega
   .exact h1.1 x hx
theorem zgo:∀ l:List Int,(xH l).Pairwise (·<=·)
 | []=>List.Pairwise.nil
 | a::l=>ziN a (zgo l)
theorem zgz (l:List Int):(xH l).length=l.length:=(ZU l).length_eq
theorem zhG (l:List Int):(l.mergeSort fun x y=>decide (x<=y))=xH l:=by
 have h1:(l.mergeSort fun x y=>decide (x<=y)).Pairwise (fun a b=>decide (a<=b)=true):=List.pairwise_mergeSort (fun a b c h h'=>by simp at *;omega) (fun a b=>by simp;omega) l
 refine List.Perm.eq_of_pairwise (le:=fun a b=>a<=b) (fun a b _ _ h h'=>Int.le_antisymm h h') (h1.imp fun h=>by simpa using h) (zgo l) ((List.mergeSort_perm l _).trans (ZU l).symm)
def Tu:List AV->Option (List Int)
 | []=>some []
 | .pure (.int .i64 z)::l=>(Tu l).map (z :: ·)
 | _=>none
theorem zj3:∀ {l:List AV} {zs:List Int},Tu l=some zs->l=zs.map fun z=>.pure (.int .i64 z)
 | [],zs,h=>by simp [Tu] at h;subst h;rfl
 | c::l,zs,h=>by
  unfold Tu at h
  split at h
  .rename_i h0;cases h0
  .rename_i z l' h0;simp only [List.cons.injEq] at h0;obtain ⟨rfl,rfl⟩:=h0;rw [Option.map_eq_some_iff] at h;obtain ⟨ys,hy,rfl⟩:=h;rw [zj3 hy];rfl
  .simp at h
def ZV (args:List AV) (H:Heap):Option (AV×Heap) :=
 match args with
 | [.row id 1 off n]=>match H.get id with
  | .cells true cs=>if off+n<=cs.length/\n<=zo then match Tu ((cs.drop off).take n) with
    | some zs=>some (.aQ [],H.set id (.cells true (cs.take off++(xH zs).map (fun z=>AV.pure (.int .i64 z))++cs.drop (off+n))))
    | none=>none else none
  | _=>none
 | _=>none
theorem zor {C:jH} {P:Program} {f:Nat} (hf:G8 P f)
  (hc:∀ (blk off cap:Nat) (zs:List Int) (w:World),Sort.Holds (Value.int .i64) w blk off zs.toArray->blk < w.heap.size->zs.length < 4611686018427387904 ->
   Calls P f #[.slice (some ⟨blk,off,none⟩) zs.length cap] w fun e w'=>e=.returned (.tuple #[])/\∃ n os,w'=Sort.grow (Sort.putRow (Value.int .i64) (Sort.ahead w n) blk off (zs.mergeSort fun x y=>decide (x<=y)).toArray) os)
  {args:List AV} {H H':Heap} {r:AV} (h:ZV args H=some (r,H')):R9 C P f args H r H':=by
 refine ⟨hf,fun k S base φ w vals hH hv=>?_⟩
 unfold ZV at h
 split at h
 .rename_i id off n
  split at h
  .rename_i cs hg
   split at h
   .rename_i aH
    split at h
    .rename_i zs hz;simp only [Option.some.injEq,Prod.mk.injEq] at h;obtain ⟨rfl,rfl⟩:=h;obtain ⟨v,vs',rfl,h1,h2⟩:=hv.cons_inv;have:=h2.nk;subst this;obtain ⟨b,m,cap,au,rfl,vR,uE⟩:=h1.iY;have ho:=hH.obj _ _ _ au;rw [hg] at ho;obtain ⟨c,e,fz,q1,q2,q3,q4,q5⟩:=ho;have Yl:=zj3 hz;have r9:zs.length=n:=by
      have:((cs.drop off).take n).length=n:=by simp;omega
      rw [Yl] at this
      simpa using this
     have wT:∀ j,j < zs.length->c[off+j]?=some (.int .i64 zs[j]!):=fun j hj=>by
      have ha:cs[off+j]?=some (.pure (.int .i64 zs[j]!)):=by
       have h3:((cs.drop off).take n)[j]?=some (.pure (.int .i64 zs[j]!)):=by
        rw [Yl,List.getElem?_map,List.getElem?_eq_getElem hj];simp [hj]
       rw [List.getElem?_take_of_lt (by omega),List.getElem?_drop] at h3;exact h3
      have tZ:off+j < c.size:=by omega
      have JQ:c[off+j]?=some c[off+j]:=Array.getElem?_eq_getElem tZ;have:=(q5 _ _ _ ha JQ).bF;rw [JQ,this]
     have Oz:Sort.Holds (Value.int .i64) w b off zs.toArray:=fun j hj=>by
      have oZ:j < zs.length:=by simpa using hj
      refine ⟨?_,?_⟩
      .simp only [World.cell?,q1];rw [wT j oZ];simp
      .have tZ:off+j < c.size:=by omega
       simp only [World.frozen?,q1];have:=q4 (off+j) (by omega)
       simpa using this
     have oW:b < w.heap.size:=(hH.lt _ _ _ au).2;have bP:=hc b off cap zs w Oz oW (by rw [r9];have:=aH.2;simp only [zo] at this;omega);rw [r9] at bP;rw [Nat.mul_one]
     refine (callsIn_wide.2 bP).mono ?_
     rintro e' w' ⟨rfl,n',os,rfl⟩;rw [zhG];have lV:(Sort.putRow (Value.int .i64) (Sort.ahead w n') b off (xH zs).toArray).heap[b]?=some (.cells (Sort.putCells (Value.int .i64) off (xH zs).toArray c) e fz):=by
      simp [Sort.putRow,Sort.mapBlock,Sort.ahead,Array.getElem?_modify,q1,Sort.onCells]
     have J5:=hH.write (o:=.cells true (cs.take off++(xH zs).map (fun z=>AV.pure (.int .i64 z))++cs.drop (off+n))) (w':=Sort.putRow (Value.int .i64) (Sort.ahead w n') b off (xH zs).toArray) au (by rw [hg];rfl) rfl rfl rfl (by simp [Sort.ahead]) (fun c' uD=>by
       simp [Sort.putRow,Sort.mapBlock,Sort.ahead,Array.getElem?_modify,uD.symm]) ⟨_,e,fz,lV,by simp [Sort.putCells,q2],by
       have:=zgz zs;simp only [List.length_append,List.length_take,List.length_map,List.length_drop];omega,q4,fun j a v ha hv=>?_⟩
     .have yV:Below (Sort.putRow (Value.int .i64) (Sort.ahead w n') b off (xH zs).toArray).heap.size (Sort.putRow (Value.int .i64) (Sort.ahead w n') b off (xH zs).toArray) (Sort.grow (Sort.putRow (Value.int .i64) (Sort.ahead w n') b off (xH zs).toArray) os):=by
       refine ⟨rfl,rfl,rfl,by simp [Sort.grow],fun c' uD=>?_⟩
       simp only [Sort.grow];rw [Array.getElem?_append_left uD]
      exact ⟨_,φ,rfl,J5.1.trans (ig.of_below yV),J5.2.below yV,.aQ [] #[] rfl fun i p v h=>by simp at h⟩
     ·-- each cell
      have j4:=(List.getElem?_eq_some_iff.1 ha).1;have aX:=zgz zs;simp only [List.length_append,List.length_take,List.length_map,List.length_drop] at j4;have tZ:j < c.size:=by omega
      have hcj:c[j]?=some c[j]:=Array.getElem?_eq_getElem tZ;have ah:∀ k b',aW S base φ H w k b'->aW S base φ H w k b'/\(Sort.putRow (Value.int .i64) (Sort.ahead w n') b off (xH zs).toArray).heap[b']?=w.heap[b']?:=fun k b' jR=>⟨jR,by
       have bJ:b≠b':=fun e=>jR.2.2 ⟨id,m,by rw [<- e];exact au,by rw [hg];rfl⟩;simp [Sort.putRow,Sort.mapBlock,Sort.ahead,Array.getElem?_modify,bJ]⟩
      simp only [Sort.putCells,Array.getElem?_mapIdx,hcj,Option.map_some,Option.some.injEq] at hv
      by_cases bD:off<=j/\j < off+n
      .rw [if_pos ⟨bD.1,by simp [aX,r9];exact bD.2⟩] at hv;have jo:¬ j < (cs.take off).length:=by simp;omega
       rw [List.append_assoc,List.getElem?_append_right (by simp;omega)] at ha;have e1:j - (cs.take off).length=j - off:=by simp;omega
       rw [e1,List.getElem?_append_left (by simp;omega),List.getElem?_map,List.getElem?_eq_getElem (by omega)] at ha;simp only [Option.map_some,Option.some.injEq] at ha;subst ha;subst hv;have aO:j - off < (xH zs).length:=by omega
       have:((xH zs).toArray[j - off]! : Int)=(xH zs)[j - off]:=by simp [aO]
       rw [this];exact .pure _ _ (.int _ _)
      .rw [if_neg (by simp [aX,r9];omega)] at hv;subst hv;have haj:cs[j]?=some a:=by
        by_cases jo:j < off
        .rw [List.append_assoc,List.getElem?_append_left (by simp;omega),List.getElem?_take_of_lt jo] at ha;exact ha
        .rw [List.getElem?_append_right (by simp;omega)] at ha;rw [List.getElem?_drop] at ha;have e2:off+n+(j - (cs.take off++(xH zs).map (fun z=>AV.pure (.int .i64 z))).length)=j:=by simp;omega
         rw [e2] at ha;exact ha
       exact (q5 j a c[j] haj hcj).mono ah (fun _ _ h=>h)
    .simp at h
   .simp at h
  .simp at h
 .simp at h
open Go
set_option linter.unusedSimpArgs false
set_option maxHeartbeats 4000000
def wpS (rs:List mK) (k:AV->Heap->Prop) (x:fZ) (env:Env) (H:Heap):Prop:=(∀ i,x≠.exit i)/\∃ v,results env H rs=some v/\k v H
@[simp] theorem zws {rs:List mK} {k:AV->Heap->Prop} {env:Env} {H:Heap}:wpS rs k .ret env H↔∃ v,results env H rs=some v/\k v H:=by simp [wpS]
@[simp] theorem ztY {rs:List mK} {k:AV->Heap->Prop} {env:Env} {H:Heap}:wpS rs k .normal env H↔∃ v,results env H rs=some v/\k v H:=by simp [wpS]
section
variable {G:Prog} {n:Nat} {H:Heap}
theorem Jl {f:Nat} {fn:ai} {args:List AV} {k:AV->Heap->Prop} (hr:G.lC f args H=none) (hf:G.func f=some fn) (hl:args.length=fn.wQ)
  (h:wp (zu G n) fn.body (zb args) H (wpS fn.results k) .mk):∃ v H',Vm.call G (n+1) (.fn f) args H=some (v,H')/\k v H':=by
 obtain ⟨x,e,h',h1,h2,v,h3,h4⟩:=h
 refine ⟨v,h',?_,h4⟩
 rw [ZF,hr,hf];simp only [hl,if_true,h1]
 cases x with
 | exit i=>exact absurd rfl (h2 i)
 | normal=>simp only [h3]
 | ret=>simp only [h3]
theorem QF {f:Nat} {caps:List PV} {args:List AV} {k:AV->Heap->Prop} {u} (hs:G.shared f=true) (h:∃ v H',Vm.call G (n+1) (.fn f) (args++caps.map .pure) H=some (v,H')/\k v H') :
  wpE 0 (zH (zu G (n+1)) H (.pure (.func f caps)) args) H k u:=by
 obtain ⟨v,H',h1,h2⟩:=h
 refine ⟨.upd v H',?_,by simp,h2⟩
 have oC:(zu G (n+1)).shared f=true:=hs;have tO:(zu G (n+1)).run f (args++caps.map .pure) H=some (v,H'):=h1;simp only [zH,oC,if_true,tO]
theorem OA {f:Nat} {caps:List PV} {args:List AV} {ps:List PV} {r:PV} {pre:Nat} {k:AV->Heap->Prop} {u} (hs:G.shared f=false) (ha:FrzL H true qw (args++caps.map .pure) ps) (h:zK G n f ps=some r) (hc:r.cold=true)
  (hk:k (.pure r) H):wpE pre (zH (zu G n) H (.pure (.func f caps)) args) H k u:=by
 obtain ⟨ids,ha⟩:=ha
 refine ⟨.val (.pure r),?_,by simp [sG],hk⟩
 have oC:(zu G n).shared f=false:=hs;have h':(zu G n).pure f ps=some r:=h;simp only [zH,oC,Bool.false_eq_true,if_false,ha,h',hc,Bool.or_true,if_true]
end
section
variable {α:Type} {f:α->List PV} {sz:Nat} {H:Heap} {v:AV} {l:List α}
theorem QG:zq f ([]:List α)=[]:=rfl
theorem OB (a:α) (l:List α):zq f (a::l)=(f a).map .pure++zq f l:=by simp [zq]
theorem ZW (hf:∀ a,(f a).length=sz):∀ (l:List α) (i:Nat),(zq f l).take (i*sz)=zq f (l.take i)
 | [],i=>by simp [zq]
 | a::l,0=>by simp [zq]
 | a::l,i+1=>by
  have h3:(List.map AV.pure (f a)).length=sz:=by rw [List.length_map,hf]
  rw [List.take_succ_cons,OB,OB,Nat.add_mul,Nat.one_mul,Nat.add_comm,<- h3,List.take_length_add_append,h3,ZW hf l i]
theorem ZX (hf:∀ a,(f a).length=sz):∀ (l:List α) (i:Nat),(zq f l).drop (i*sz)=zq f (l.drop i)
 | [],i=>by simp [zq]
 | a::l,0=>by simp [zq]
 | a::l,i+1=>by
  have h3:(List.map AV.pure (f a)).length=sz:=by rw [List.length_map,hf]
  rw [List.drop_succ_cons,OB,Nat.add_mul,Nat.one_mul,Nat.add_comm,<- h3,List.drop_length_add_append,h3,ZX hf l i]
theorem Tv (bG:∀ a,(f a).all PV.one=true) (l:List α):(zq f l).all AV.one=true:=by
 induction l with
 | nil=>rfl
 | cons a l ih=>rw [OB,List.all_append,ih,Tm _ (bG a)];rfl
theorem ZY (l:List α):zq f l=((l.map f).flatten).map .pure:=by simp [zq,List.map_flatten,Function.comp_def]
theorem Kr (hf:∀ a,(f a).length=sz) (s:Sl α):zO H sz (.pure (s.pv f sz))=some (zq f s.xs,s.xs.length):=by
 rw [zjs hf,ZY]
theorem bL.slice (hf:∀ a,(f a).length=sz) (h:bL f sz H v l):zO H sz v=some (zq f l,l.length):=by
 rcases h with ⟨rfl,rfl⟩|⟨id,rfl,hg⟩
 .rfl
 .rw [ZP,hg];have:=BB hf l;simp only [QC];rw [if_pos (by omega),Nat.zero_mul,List.drop_zero,<- this,List.take_length]
def wZ {α:Type} (f:α->List PV) (sz:Nat) (H:Heap) (v:AV) (l:List α):Prop:=∃ id rest,v=.row id sz 0 l.length/\H.get id=.cells true (zq f l++rest)
theorem wZ.frz {k:Bool} {n:Nat} (hf:∀ a,(f a).length=sz) (h:wZ f sz H v l):FrzK H k (n+2) v (.slice k sz (l.map f)):=by
 obtain ⟨id,rest,rfl,hg⟩:=h;have hlen:=BB hf l;have pU:∀ l:List α,chunks sz l.length ((l.map f).flatten)=l.map f:=by
  intro l
  induction l with
  | nil=>rfl
  | cons a l ih =>
   simp only [List.length_cons,chunks,List.map_cons,List.flatten_cons];rw [List.take_left' (hf a),List.drop_left' (hf a),ih]
 have Tz:((l.map f).flatten).length=l.length*sz:=by
  rw [<- hlen,ZY,List.length_map]
 refine ⟨[id],?_⟩
 have h1:((zq f l++rest).drop (0*sz)).take (l.length*sz)=((l.map f).flatten).map .pure:=by
  rw [Nat.zero_mul,List.drop_zero,<- hlen,List.take_left',ZY];rfl
 have HZ:zS (freeze H k (n+1)) (((l.map f).flatten).map .pure)=some ((l.map f).flatten,[]):=by
  generalize (l.map f).flatten=q
  induction q with
  | nil=>rfl
  | cons p ps ih=>rw [List.map_cons,zS,ih];rfl
 unfold freeze;simp only [hg,h1,HZ,Tz,if_true,pU]
theorem bL.head (h:bL f sz H v l):(l=[]/\v=.pure .nils)\/wZ f sz H v l:=by
 rcases h with h|⟨id,h1,h2⟩
 .exact .inl h
 .exact .inr ⟨id,[],h1,by rw [List.append_nil];exact h2⟩
end
theorem Jm {α:Type} {f:α->List PV} {sz n:Nat} {H:Heap} {id m:Nat} {l:List α} (hf:∀ a,(f a).length=sz) (hg:H.get id=.cells true (zq f l)) (hl:l.length=m):∃ s:Sl α,s.xs=l/\FrzK H true (n+2) (.row id sz 0 m) (s.pv f sz):=by
 subst hl;exact ⟨.mk true l,rfl,wZ.frz hf ⟨id,[],rfl,by rw [List.append_nil];exact hg⟩⟩
theorem sO {α:Type} {f:α->List PV} {sz n:Nat} {H:Heap} {id m:Nat} {l:List α} (hf:∀ a,(f a).length=sz) (hg:H.get id=.cells true (zq f l)) (hl:l.length=m):FrzK H false (n+2) (.row id sz 0 m) ((Sl.mk false l).pv f sz):=by
 subst hl;exact wZ.frz hf ⟨id,[],rfl,by rw [List.append_nil];exact hg⟩
def zqz (sz bytes:Nat):ai:=⟨1,8,[(.tmp 2)],(.seq (.region none [⟨(some 2),(.iL (.const .nils)),none⟩]) (.seq (.seq (.region none [⟨(some 3),(.iL (.tmp 0)),none⟩,⟨(some 4),(.bin .eql .slice (.tmp 3) (.const .nils)),none⟩]) (.cond (.tmp 4) (.seq (.region none [⟨(some 2),(.iL (.const .nils)),none⟩]) .ret) .skip)) (.seq (.region none [⟨(some 5),(.buildSlice sz [] []),none⟩,⟨(some 6),(.iL (.tmp 0)),none⟩,⟨(some 7),(.append sz bytes (.tmp 5) (.tmp 6)),none⟩,⟨(some 2),(.iL (.tmp 7)),none⟩]) .ret)))⟩
theorem ZZ {v:AV} {b:Bool} (h:isNil .slice v=some b):iM .eql .slice v (.pure .nils)=some (.pure (.bool b)):=by
 have h1:Lt .slice v (.pure .nils)=some b:=by
  have h0:isNil .slice (.pure .nils)=some true:=rfl
  cases b<;>simp only [Lt,h,h0]
 cases v with
 | pure p=>cases p<;>simp only [iM,h1,Option.map_some]<;>simp [isNil] at h
 | _=>simp only [iM,h1,Option.map_some]
section
variable {α:Type} {f:α->List PV} {sz:Nat} {H:Heap} {v:AV} {l:List α} {G:Prog} {n:Nat}
theorem ziG {g bytes:Nat} {b:Bool} {k:AV->Heap->Prop} (hx:∀ H,G.lC g [v] H=none) (hg:G.func g=some (zqz sz bytes)) (hv:zO H sz v=some (zq f l,l.length)) (hn:isNil .slice v=some b) (yU:b=true->l=[])
  (hf:∀ a,(f a).length=sz) (h0:0 < sz) (bG:∀ a,(f a).all PV.one=true) (hm:l.length*sz<=zo/\l.length*bytes<=zo)
  (hk:∀ v' H',bL f sz H' v' l->isNil .slice v'=some b->H.nx<=H'.nx->(∀ id,id < H.nx->H'.get id=H.get id)->(∀ id,Names v' id->H.nx<=id)->k v' H') :
  ∃ v' H',Vm.call G (n+1) (.fn g) [v] H=some (v',H')/\k v' H':=by
 refine Jl (hx H) hg rfl ?_
 simp only [zqz];have h1:=ZZ hn
 cases b with
 | true =>
  have hl:=yU rfl;subst hl;have:=hk (.pure .nils) H bL.nil rfl (Nat.le_refl _) (fun _ _=>rfl) (fun id ⟨_,_,_,h⟩=>by simp at h);simp [zb,h1,this]
 | false =>
  simp only [zrQ,zj0,zlp,zhq,zt7,Ta,Option.getD_none,ziu,zh4,zoI,zmW,zjJ,zb,ztU,zoz];simp [h1];have ah:zO (H.alloc (.cells true [])) sz v=some (zq f l,l.length):=by
   cases v with
   | row id s o m =>
    simp only [zO] at hv ⊢
    split at hv
    .rename_i hs;rw [if_pos hs]
     split at hv
     .rename_i cs hc;rw [zg (zx hc),hc];exact hv
     .simp at hv
    .simp at hv
   | pure p=>cases p<;>exact hv
   | _=>exact hv
  have ho:=Tv bG l;have hz:(if sz=0 then 0 else 0 / sz)=0:=by split<;>simp
  try rw [hz]
  have Wl:zb [v] 0=v:=rfl;rw [Wl];have hlen:=BB hf l
  cases l with
  | nil =>
   have QH:zm (H.alloc (.cells true [])) sz bytes (.row H.nx sz 0 0) v=some (.upd (.row H.nx sz 0 0) ((H.alloc (.cells true [])).set H.nx (.cells true []))):=by
    simp only [zm,ah,ho,CQ];simp [zq]
   rw [QH];simp
   refine hk _ _ (.inr ⟨H.nx,rfl,?_⟩) rfl (by simp) (fun id au=>?_) (fun id ⟨_,_,_,h⟩=>?_)
   .rw [zn (by simp)];rfl
   .rw [zf (by omega),zg au]
   .simp at h;omega
  | cons a l =>
   have QH:zm (H.alloc (.cells true [])) sz bytes (.row H.nx sz 0 0) v=some (.upd (.row (H.nx+1) sz 0 (a::l).length) (((H.alloc (.cells true [])).set H.nx .dead).alloc (.cells true (zq f (a::l))))):=by
    simp only [zm,ah,ho,CQ];have hp:0 < (a::l).length*sz:=Nat.mul_pos (by simp) h0;simp only [Bool.not_true,Bool.false_eq_true,if_false,if_true,Nat.zero_mul,Nat.zero_add,List.length_nil];rw [if_neg (by omega)];simp only [true_and,rC,List.nil_append];rw [if_pos hm]
   rw [QH];simp
   refine hk _ _ (.inr ⟨H.nx+1,by simp,?_⟩) rfl (by simp;omega) (fun id au=>?_) (fun id ⟨_,_,_,h⟩=>?_)
   .exact zhF (by simp)
   .rw [zg (by simp;omega),zf (by omega),zg au]
   .simp at h;omega
end
section
variable {H:Heap} {v:AV} {l:List Int} {G:Prog} {n:Nat}
end
section
variable {α:Type} {f:α->List PV} {sz:Nat} {G:Prog} {n:Nat}
end
section
variable {H:Heap} {v:AV} {l:List Int} {G:Prog} {n:Nat}
@[simp] theorem ziE {l:List Int} {i:Nat} {x:Int} (h:i < l.length):uQ (.cells true (zq aI l)) 1 i [.pure (.int .i64 x)]=some (.cells true (zq aI (l.set i x))):=by
 have hlen:∀ l:List Int,(zq aI l).length=l.length:=fun l=>by rw [BB (sz:=1) (fun _=>rfl)];omega
 simp only [uQ];rw [if_pos ⟨rfl,by simp,rfl,by rw [hlen];omega⟩];have h1:=ZW (f:=aI) (sz:=1) (fun _=>rfl) l i;have h2:=ZX (f:=aI) (sz:=1) (fun _=>rfl) l (i+1);rw [Nat.mul_one] at h1 h2;rw [h1,h2,List.set_eq_take_append_cons_drop,if_pos h,Ep,OB,List.append_assoc];rfl
end
section
variable {G:Prog} {n:Nat} {H:Heap} {env:Env}
theorem zm5 {id:Nat} {r:DU} {args:List AV} {k:AV->Heap->Prop} {u} (hg:H.get id=.loop r) (hs:r.state=.ready) (hl:args.length=r.params.length)
  (h:wp (zu G n) r.assign ((r.params.zip args).foldl (fun e x=>upd e x.1 x.2) r.env) H (fun x ji H2=>x=.normal/\H2.get id=.loop r /\
   wp (zu G n) r.body ji (H2.set id (.loop { r with state:=.busy })) (fun x _ H3=>x=.normal/\H3.get id=.loop { r with state:=.busy }/\k (.pure (.bool true)) (H3.set id (.loop { r with state:=.ready,pending:=.normal }))) .mk) .mk) :
  wpE 0 (zH (zu G (n+1)) H (.yield id) args) H k u:=by
 obtain ⟨x,ji,H2,h1,rfl,uR,x3,e3,H3,h3,rfl,h4,h5⟩:=h
 refine ⟨.upd (.pure (.bool true)) (H3.set id (.loop { r with state:=.ready,pending:=.normal })),?_,by simp,h5⟩
 have hy:(zu G (n+1)).yield id args H=some (.pure (.bool true),H3.set id (.loop { r with state:=.ready,pending:=.normal })):=by
  show Vm.call G (n+1) (.yield id) args H=_;have e0:Vm.call G (n+1) (.yield id) args H=(match H.get id with
   | .loop r =>
    if args.length=r.params.length then
     match exec (zu G n) r.assign ((r.params.zip args).foldl (fun e x=>upd e x.1 x.2) r.env) H with
     | some (.normal,ji,H2)=>match H2.get id with
      | .loop r2=>match r2.state with
       | .ready=>match exec (zu G n) r.body ji (H2.set id (.loop { r2 with state:=.busy })) with
        | some (x,_,H3)=>match H3.get id with
         | .loop r3=>match x with
          | .normal=>some (.pure (.bool true),H3.set id (.loop { r3 with state:=.ready,pending:=.normal }))
          | x=>some (.pure (.bool false),H3.set id (.loop { r3 with state:=.done,pending:=x }))
         | _=>none
        | none=>none
       | _=>none
      | _=>none
     | _=>none
    else none
   | _=>none):=rfl
  rw [e0,hg];simp only [hl,if_true,h1,hg,uR,hs,h3,h4]
 simp only [zH,hy]
theorem zkI {f:aa} {params:List Nat} {assign body:aV} {Q:fZ->Env->Heap->Prop} {g:Nat} {caps:List PV} {u} (hf:f.eval env=.pure (.func g caps))
  (h:∃ v H2,Vm.call G (n+1) (.fn g) (.yield H.nx::caps.map .pure) (H.alloc (.loop { env,params,assign,body,state:=.ready,pending:=.normal }))=some (v,H2) /\
   H2.get H.nx=.loop { env,params,assign,body,state:=.ready,pending:=.normal }/\Q .normal env (H2.set H.nx .dead)) :
  wp (zu G (n+1)) (.rangeFunc f params assign body) env H Q u:=by
 obtain ⟨v,H2,h1,h2,h3⟩:=h
 refine ⟨.normal,env,H2.set H.nx .dead,?_,h3⟩
 have tO:(zu G (n+1)).run g (.yield H.nx::caps.map .pure) (H.alloc (.loop { env,params,assign,body,state:=.ready,pending:=.normal }))=some (v,H2):=h1;simp only [exec,hf,tO,h2]
end
def WG (H:Heap) (sz bytes:Nat) (a b:AV):Option Eff:=match zO H sz b with
  | none=>none
  | some (new,m)=>if !new.all AV.one then none else match a with
   | .void id s=>if s=sz then (if m=0 then some (.val (.row id sz 0 0)) else
     if m*sz<=zo/\m*bytes<=zo then some (.new (.cells true new) fun id=>.row id sz 0 m) else none) else none
   | _=>none
@[simp] theorem ztq {cl:Callee} {env:Env} {H:Heap} (sz bytes:Nat) (a b:aa):step cl env H (.jZ sz bytes a b)=WG H sz bytes (a.eval env) (b.eval env):=by simp only [step,WG];rfl
section
variable {α:Type} {f:α->List PV} {sz:Nat} {H:Heap} {v:AV} {l:List α}
theorem WH {bytes pre id:Nat} {b:AV} {k:AV->Heap->Prop} {u} (hb:zO H sz b=some (zq f l,l.length)) (au:H.get id=.cells true []) (bG:∀ a,(f a).all PV.one=true)
  (hm:l.length*sz<=zo/\l.length*bytes<=zo)
  (hk:∀ v' H',bL f sz H' v' l->H.nx<=H'.nx->(∀ i,i < H.nx->H'.get i=H.get i)->(∀ i,Names v' i->i=id\/H.nx<=i)->k v' H'):wpE pre (WG H sz bytes (.void id sz) b) H k u:=by
 have ho:=Tv bG l;simp only [WG,hb,ho];simp only [Bool.not_true,Bool.false_eq_true,if_false,if_true]
 by_cases h0:l.length=0
 .have hl:l=[]:=List.eq_nil_of_length_eq_zero h0;subst hl;rw [if_pos (show ([]:List α).length=0 from rfl),Ta];exact hk _ _ (.inr ⟨id,rfl,by rw [au];rfl⟩) (Nat.le_refl _) (fun _ _=>rfl) fun i ⟨_,_,_,h⟩=>by simp at h;exact .inl h.1.symm
 .rw [if_neg h0,if_pos hm,QB]
  refine hk _ _ (.inr ⟨H.nx,rfl,CQ _⟩) (Nat.le_succ _) (fun i hi=>zg hi) fun i ⟨_,_,_,h⟩=>?_
  simp at h;exact .inr (by omega)
theorem Z0 {bytes:Nat} {b:AV} {m:List α} {k:AV->Heap->Prop} {u} (hv:bL f sz H v l) (hf:∀ a,(f a).length=sz) (h0:0 < sz) (bG:∀ a,(f a).all PV.one=true)
  (hb:zO H sz b=some (zq f m,m.length)) (hm:(l.length+m.length)*sz<=zo/\(l.length+m.length)*bytes<=zo)
  (hk:∀ v' H',bL f sz H' v' (l++m)->H.nx<=H'.nx->(∀ i,i < H.nx->¬ Names v i->H'.get i=H.get i)->(∀ i,Names v' i->Names v i\/H.nx<=i)->k v' H'):wpE 0 (zm H sz bytes v b) H k u:=by
 have ho:=Tv bG m;rcases hv with ⟨rfl,rfl⟩|⟨id,rfl,au⟩
 .simp only [List.length_nil,Nat.zero_add] at hm
  by_cases Br:m.length=0
  .have hl:m=[]:=List.eq_nil_of_length_eq_zero Br;subst hl;have:zm H sz bytes (.pure .nils) b=some (.val (.pure .nils)):=by
    simp only [zm,hb,ho];simp
   rw [this,Ta];exact hk _ _ (.inl ⟨rfl,rfl⟩) (Nat.le_refl _) (fun _ _ _=>rfl) fun i h=>.inl h
  .have:zm H sz bytes (.pure .nils) b=some (.new (.cells true (zq f m)) fun id=>.row id sz 0 m.length):=by
    simp only [zm,hb,ho];simp only [Bool.not_true,Bool.false_eq_true,if_false];rw [if_neg Br,if_pos hm]
   rw [this,QB]
   refine hk _ _ (.inr ⟨H.nx,by simp,by rw [List.nil_append];exact CQ _⟩) (Nat.le_succ _) (fun i hi _=>zg hi) fun i ⟨_,_,_,h⟩=>.inr ?_
   simp at h;omega
 .have hlen:=BB hf l
  by_cases Br:m.length=0
  .have hl:m=[]:=List.eq_nil_of_length_eq_zero Br;subst hl;have:zm H sz bytes (.row id sz 0 l.length) b=some (.upd (.row id sz 0 l.length) (H.set id (.cells true (zq f l)))):=by
    simp only [zm,hb,ho,au,QG];simp only [Bool.not_true,Bool.false_eq_true,if_false,if_true,List.all_nil,List.length_nil,Nat.add_zero,Nat.zero_mul,Nat.zero_add,List.append_nil];rw [if_pos (by rw [hlen];exact Nat.le_refl _),List.take_of_length_le (by rw [hlen];exact Nat.le_refl _),List.drop_eq_nil_of_le (by rw [hlen];exact Nat.le_refl _),List.append_nil]
   rw [this,J6]
   refine hk _ _ (.inr ⟨id,by simp,?_⟩) (Nat.le_refl _) (fun i hi hn=>zf fun e=>hn (by subst e;exact ⟨_,_,_,rfl⟩)) fun i h=>?_
   .rw [LB (zx au),List.append_nil]
   .obtain ⟨_,_,_,h⟩:=h;simp at h;exact .inl ⟨_,_,_,by rw [h.1]⟩
  .have uN:¬ (0*sz+(l.length+m.length)*sz<=(zq f l).length):=by
    rw [hlen,Nat.add_mul];have:=Nat.mul_pos (Nat.pos_of_ne_zero Br) h0;omega
   have:zm H sz bytes (.row id sz 0 l.length) b=some (.upd (.row H.nx sz 0 (l.length+m.length)) ((H.set id .dead).alloc (.cells true (zq f l++zq f m)))):=by
    simp only [zm,hb,ho,au];simp only [Bool.not_true,Bool.false_eq_true,if_false,if_true];rw [if_neg uN];simp only [true_and];rw [if_pos ⟨hlen.symm,hm⟩]
   rw [this,J6]
   refine hk _ _ (.inr ⟨H.nx,by simp,?_⟩) (Nat.le_succ _) (fun i hi hn=>?_) fun i ⟨_,_,_,h⟩=>.inr ?_
   .have:(H.set id .dead).nx=H.nx:=rfl;rw [<- this,CQ,Ep]
   .rw [zg (by exact hi),zf];intro e;subst e;exact hn ⟨_,_,_,rfl⟩
   .simp at h;omega
end
section
variable {cl:Callee} {env:Env} {H:Heap}
@[simp] theorem zuf:step cl env H .makeMap=some (.new (.jh []) fun id=>.lq id):=rfl
@[simp] theorem zt6 (id:Nat):AV.cells (.lq id)=[.lq id]:=rfl
@[simp] theorem zvc (id:Nat):AV.one (.lq id)=true:=rfl
end
structure Span where
 lo:Int
 hi:Int
 deriving Inhabited
@[simp] def Span.cells (s:Span):List PV:=[.int .i64 s.lo,.int .i64 s.hi]
@[simp] theorem Span.eta (s:Span):(⟨s.lo,s.hi⟩:Span)=s:=rfl
structure Box where
 x:Span
 y:Span
 deriving Inhabited
@[simp] def Box.cells (s:Box):List PV:=[.int .i64 s.x.lo,.int .i64 s.x.hi,.int .i64 s.y.lo,.int .i64 s.y.hi]
@[simp] theorem Box.eta (s:Box):(⟨s.x,s.y⟩:Box)=s:=rfl
@[simp] theorem zwl (x0:Int) (x1:Int) (x2:Int) (x3:Int) (P:Box->Prop) {u}:Tt Box.cells [.pure (.int .i64 x0),.pure (.int .i64 x1),.pure (.int .i64 x2),.pure (.int .i64 x3)] P u↔P ⟨⟨x0,x1⟩,⟨x2,x3⟩⟩:=by
 constructor
 .rintro ⟨a,h,hp⟩;simp [Box.cells] at h;obtain ⟨rfl,rfl,rfl,rfl⟩:=h;exact hp
 .intro h;exact ⟨_,rfl,h⟩
structure Pt where
 x:Int
 y:Int
 deriving Inhabited
@[simp] def Pt.cells (s:Pt):List PV:=[.int .i64 s.x,.int .i64 s.y]
@[simp] theorem Pt.eta (s:Pt):(⟨s.x,s.y⟩:Pt)=s:=rfl
structure Fact where
 id:Int
 kind:Int
 nt:Bool
 a:Int
 b:Int
 c:Int
 span:Span
 quarter:Int
 deriving Inhabited
@[simp] def Fact.cells (s:Fact):List PV:=[.int .i64 s.id,.int .i64 s.kind,.bool s.nt,.int .i64 s.a,.int .i64 s.b,.int .i64 s.c,.int .i64 s.span.lo,.int .i64 s.span.hi,.int .i64 s.quarter]
@[simp] theorem Fact.eta (s:Fact):(⟨s.id,s.kind,s.nt,s.a,s.b,s.c,s.span,s.quarter⟩:Fact)=s:=rfl
structure Problem where
 boxes:Sl Box
 facts:Sl Fact
 deriving Inhabited
@[simp] def Problem.cells (s:Problem):List PV:=[(s.boxes).pv Box.cells 4,(s.facts).pv Fact.cells 9]
@[simp] theorem Problem.eta (s:Problem):(⟨s.boxes,s.facts⟩:Problem)=s:=rfl
def fG (s t:Span):Prop:=t.lo<=s.lo/\s.hi<=t.hi
def fH (a b:Box):Prop:=fG a.x b.x/\fG a.y b.y
def jl (b:Box):Prop:=b.x.lo<=b.x.hi/\b.y.lo<=b.y.hi
def aP (l m:List Box):Prop:=l.length=m.length/\∀ i (h:i < l.length) (h':i < m.length),fH l[i] m[i]
def Wf (l:List Box):Prop:=∀ b∈l,jl b
theorem zjL (b:Box):fH b b:=⟨⟨Int.le_refl _,Int.le_refl _⟩,⟨Int.le_refl _,Int.le_refl _⟩⟩
theorem ziR {a b c:Box} (h:fH a b) (h':fH b c):fH a c:=by unfold fH fG at *;omega
theorem zjn {a b:Box} (h:fH a b) (h':fH b a):a=b:=by
 obtain ⟨⟨a1,a2⟩,a3,a4⟩:=a;obtain ⟨⟨b1,b2⟩,b3,b4⟩:=b;unfold fH fG at *;simp only [Box.mk.injEq,Span.mk.injEq] at *;omega
theorem aP.refl (l:List Box):aP l l:=⟨rfl,fun i h h'=>zjL _⟩
theorem aP.trans {l m k:List Box} (h:aP l m) (h':aP m k):aP l k:=⟨h.1.trans h'.1,fun i a b=>ziR (h.2 i a (by rw [<- h.1];exact a)) (h'.2 i _ b)⟩
theorem aP.antisymm {l m:List Box} (h:aP l m) (h':aP m l):l=m :=
 List.ext_getElem h.1 fun i a b=>zjn (h.2 i a b) (h'.2 i b a)
theorem aP.set {l m:List Box} (h:aP l m) {i:Nat} {a b:Box} (Ci:fH a b):aP (l.set i a) (m.set i b) :=
 ⟨by simp [h.1],fun j h1 h2=>by
  rw [List.getElem_set,List.getElem_set]
  split
  .exact Ci
  .exact h.2 j (by simpa using h1) (by simpa using h2)⟩
theorem Wf.set {l:List Box} (h:Wf l) {i:Nat} {a:Box} (ha:jl a):Wf (l.set i a):=fun b hb=>by
 rcases List.mem_or_eq_of_mem_set hb with h1|rfl
 .exact h b h1
 .exact ha
def vZ (b:Box) (k:Nat):Box:=match k with
 | 0=>⟨⟨b.x.lo,b.x.lo⟩,b.y⟩
 | 1=>⟨⟨b.x.hi,b.x.hi⟩,b.y⟩
 | 2=>⟨b.x,⟨b.y.lo,b.y.lo⟩⟩
 | _=>⟨b.x,⟨b.y.hi,b.y.hi⟩⟩
def qU (b:Box) (k:Nat):Box:=match k with
 | 0=>⟨⟨b.x.lo+1,b.x.hi⟩,b.y⟩
 | 1=>⟨⟨b.x.lo,b.x.hi - 1⟩,b.y⟩
 | 2=>⟨b.x,⟨b.y.lo+1,b.y.hi⟩⟩
 | _=>⟨b.x,⟨b.y.lo,b.y.hi - 1⟩⟩
def nS (b:Box) (k:Nat):Prop:=if k < 2 then b.x.lo=b.x.hi else b.y.lo=b.y.hi
instance (b:Box) (k:Nat):Decidable (nS b k):=by unfold nS;infer_instance
theorem QI {b:Box} (h:jl b) (k:Nat):jl (vZ b k):=by
 unfold jl vZ at *
 split<;>(simp only;omega)
theorem zj6 {b:Box} (h:jl b) (k:Nat):fH (vZ b k) b:=by
 unfold jl vZ fH fG at *
 split<;>(simp only;omega)
theorem zue {b:Box} (h:jl b) {k:Nat} (hk:k < 4) (ht:¬ nS b k):jl (qU b k):=by
 unfold jl qU nS at *;have:k=0\/k=1\/k=2\/k=3:=by omega
 rcases this with rfl|rfl|rfl|rfl<;>simp at *<;>omega
theorem zsV (b:Box) (k:Nat):fH (qU b k) b:=by
 unfold qU fH fG
 split<;>(simp only;omega)
theorem zlk {a b:Box} (h:fH a b) (ha:jl a) {k:Nat} (hk:k < 4):fH a (qU b k)\/fH (vZ a k) (vZ b k):=by
 unfold fH fG qU vZ jl at *;have:k=0\/k=1\/k=2\/k=3:=by omega
 rcases this with rfl|rfl|rfl|rfl<;>simp only<;>omega
theorem zov {a b:Box} (h:fH a b) (ha:jl a) {k:Nat} (hk:k < 4) (ht:nS b k):fH (vZ a k) (vZ b k):=by
 unfold fH fG vZ jl nS at *;have:k=0\/k=1\/k=2\/k=3:=by omega
 rcases this with rfl|rfl|rfl|rfl<;>simp at *<;>omega
section
variable {F:Type} {fails:F->List Box->Prop} {facts:List F} {boxes:List Box}
def xI (fails:F->List Box->Prop) (facts:List F) (n:Nat):Prop:=∀ f∈facts,∀ l m,m.length=n->Wf m->aP l m->Wf l->fails f m->fails f l
def jW (l:List Box) (i k:Nat):List Box:=match l[i]? with
 | some b=>l.set i (vZ b k)
 | none=>l
def qV (l:List Box) (i k:Nat):List Box:=match l[i]? with
 | some b=>l.set i (qU b k)
 | none=>l
theorem CR {l:List Box} {i:Nat} (h:i < l.length) (k:Nat):jW l i k=l.set i (vZ l[i] k):=by simp [jW,h]
theorem Jn {l:List Box} {i:Nat} (h:i < l.length) (k:Nat):qV l i k=l.set i (qU l[i] k):=by simp [qV,h]
def Stable (fails:F->List Box->Prop) (facts:List F) (l:List Box):Prop:=∀ i,i < l.length->∀ k,k < 4->∀ f∈facts,¬ fails f (jW l i k)
structure Holds' (fails:F->List Box->Prop) (facts:List F) (boxes l:List Box):Prop where
 wf:Wf l
 sub:aP l boxes
 all:∀ m,Wf m->aP m boxes->Stable fails facts m->aP m l
def bM (fails:F->List Box->Prop) (facts:List F) (boxes:List Box):Option (List Box)->Prop
 | some l=>Holds' fails facts boxes l/\Stable fails facts l
 | none=>∀ m,Wf m->aP m boxes->¬ Stable fails facts m
theorem bM.unique {r s:Option (List Box)} (h:bM fails facts boxes r) (h':bM fails facts boxes s):r=s:=by
 cases r with
 | none=>cases s with
  | none=>rfl
  | some m=>exact absurd h'.2 (h m h'.1.wf h'.1.sub)
 | some l=>cases s with
  | none=>exact absurd h.2 (h' l h.1.wf h.1.sub)
  | some m=>rw [(h'.1.all l h.1.wf h.1.sub h.2).antisymm (h.1.all m h'.1.wf h'.1.sub h'.2)]
theorem Holds'.init (h:Wf boxes):Holds' fails facts boxes boxes:=⟨h,aP.refl _,fun m _ hs _=>hs⟩
theorem Holds'.cut {l:List Box} (ha:xI fails facts boxes.length) (h:Holds' fails facts boxes l) {i k:Nat} (hi:i < l.length) (hk:k < 4) {f:F} (hf:f∈facts) (hb:fails f (jW l i k)) (ht:¬ nS l[i] k) :
  Holds' fails facts boxes (qV l i k):=by
 have hw:=h.wf _ (List.getElem_mem hi);rw [Jn hi]
 refine ⟨h.wf.set (zue hw hk ht),⟨by simp [h.sub.1],fun j h1 h2=>?_⟩,fun m hm hs fA=>?_⟩
 .rw [List.getElem_set]
  split
  .rename_i e;subst e;exact ziR (zsV _ _) (h.sub.2 i hi h2)
  .exact h.sub.2 j (by simpa using h1) h2
 .have vE:=h.all m hm hs fA;have BC:i < m.length:=by rw [vE.1];exact hi
  refine ⟨by simp [vE.1],fun j h1 h2=>?_⟩
  rw [List.getElem_set]
  split
  .rename_i e;subst e;rcases zlk (vE.2 i BC hi) (hm _ (List.getElem_mem BC)) hk with h3|h3
   .exact h3
   .exfalso;have h4:=fA i BC k hk f hf;rw [CR BC] at h4;rw [CR hi] at hb;exact h4 (ha f hf _ _ (by simp [h.sub.1]) (h.wf.set (QI hw k)) (vE.set h3) (hm.set (QI (hm _ (List.getElem_mem BC)) k)) hb)
  .exact vE.2 j h1 (by simpa using h2)
theorem Holds'.empty {l:List Box} (ha:xI fails facts boxes.length) (h:Holds' fails facts boxes l) {i k:Nat} (hi:i < l.length) (hk:k < 4) {f:F} (hf:f∈facts) (hb:fails f (jW l i k)) (ht:nS l[i] k) :
  bM fails facts boxes none:=by
 intro m hm hs fA;have hw:=h.wf _ (List.getElem_mem hi);have vE:=h.all m hm hs fA;have BC:i < m.length:=by rw [vE.1];exact hi
 have h4:=fA i BC k hk f hf;rw [CR BC] at h4;rw [CR hi] at hb;exact h4 (ha f hf _ _ (by simp [h.sub.1]) (h.wf.set (QI hw k)) (vE.set (zov (vE.2 i BC hi) (hm _ (List.getElem_mem BC)) hk ht)) (hm.set (QI (hm _ (List.getElem_mem BC)) k)) hb)
theorem Holds'.fail {l:List Box} (ha:xI fails facts boxes.length) (h:Holds' fails facts boxes l) (h0:0 < l.length) {f:F} (hf:f∈facts) (hb:fails f l):bM fails facts boxes none:=by
 intro m hm hs fA;have vE:=h.all m hm hs fA;have BC:0 < m.length:=by rw [vE.1];exact h0
 refine fA 0 BC 0 (by decide) f hf ?_
 rw [CR BC];have pM:aP (m.set 0 (vZ m[0] 0)) l:=by
  refine aP.trans ⟨by simp,fun j h1 h2=>?_⟩ vE
  rw [List.getElem_set]
  split
  .rename_i e;subst e;exact zj6 (hm _ (List.getElem_mem BC)) 0
  .exact zjL _
 exact ha f hf _ _ h.sub.1 h.wf pM (hm.set (QI (hm _ (List.getElem_mem BC)) 0)) hb
def QJ (b:Box):Nat:=(b.x.hi - b.x.lo).toNat+(b.y.hi - b.y.lo).toNat
def uS (l:List Box):Nat:=(l.map QJ).sum
theorem zri {b:Box} (h:jl b) {k:Nat} (hk:k < 4) (ht:¬ nS b k):QJ (qU b k) < QJ b:=by
 unfold jl qU nS QJ at *;have:k=0\/k=1\/k=2\/k=3:=by omega
 rcases this with rfl|rfl|rfl|rfl<;>simp at *<;>omega
theorem zo0:∀ (l:List Nat) (i a:Nat) (h:i < l.length),a < l[i]->(l.set i a).sum < l.sum
 | b::l,0,a,_,ha=>by simp at ha ⊢;omega
 | b::l,i+1,a,h,ha=>by
  have:=zo0 l i a (by simpa using h) (by simpa using ha);simp;omega
theorem WI {l:List Box} (hw:Wf l) {i k:Nat} (hi:i < l.length) (hk:k < 4) (ht:¬ nS l[i] k):uS (qV l i k) < uS l:=by
 rw [Jn hi];unfold uS;rw [List.map_set];exact zo0 _ i _ (by simpa using hi) (by simpa using zri (hw _ (List.getElem_mem hi)) hk ht)
theorem ztd (ha:xI fails facts boxes.length):∀ (N:Nat) (l:List Box),uS l<=N->Holds' fails facts boxes l->∃ r,bM fails facts boxes r:=by
 intro N
 induction N with
 | zero =>
  intro l hN h
  by_cases hs:Stable fails facts l
  .exact ⟨some l,h,hs⟩
  .have:∃ i,∃ hi:i < l.length,∃ k,k < 4/\∃ f∈facts,fails f (jW l i k):=by
    refine Classical.byContradiction fun hc=>hs fun i hi k hk f hf hb=>hc ⟨i,hi,k,hk,f,hf,hb⟩
   obtain ⟨i,hi,k,hk,f,hf,hb⟩:=this
   by_cases ht:nS l[i] k
   .exact ⟨none,h.empty ha hi hk hf hb ht⟩
   .have:=WI h.wf hi hk ht;omega
 | succ N ih =>
  intro l hN h
  by_cases hs:Stable fails facts l
  .exact ⟨some l,h,hs⟩
  .have:∃ i,∃ hi:i < l.length,∃ k,k < 4/\∃ f∈facts,fails f (jW l i k):=by
    refine Classical.byContradiction fun hc=>hs fun i hi k hk f hf hb=>hc ⟨i,hi,k,hk,f,hf,hb⟩
   obtain ⟨i,hi,k,hk,f,hf,hb⟩:=this
   by_cases ht:nS l[i] k
   .exact ⟨none,h.empty ha hi hk hf hb ht⟩
   .have:=WI h.wf hi hk ht;exact ih _ (by omega) (h.cut ha hi hk hf hb ht)
theorem TA (ha:xI fails facts boxes.length) (hw:Wf boxes):∃ r,bM fails facts boxes r:=ztd ha _ boxes (Nat.le_refl _) (Holds'.init hw)
theorem Holds'.stop {l:List Box} (h:Holds' fails facts boxes l) (hs:Stable fails facts l) {r:Option (List Box)} (hr:bM fails facts boxes r):r=some l:=hr.unique (s:=some l) ⟨h,hs⟩
end
structure Node where
 fact:Int
 point:Int
 jT:Int
 at_:Int
 deriving Inhabited
@[simp] def Node.cells (s:Node):List PV:=[.int .i64 s.fact,.int .i64 s.point,.int .i64 s.jT,.int .i64 s.at_]
@[simp] theorem Node.eta (s:Node):(⟨s.fact,s.point,s.jT,s.at_⟩:Node)=s:=rfl
@[simp] theorem zuv {l:List Node} {i:Nat} (x0:Int) (x1:Int) (x2:Int) (x3:Int) (h:i < l.length):uQ (.cells true (zq Node.cells l)) 4 (i*4) [.pure (.int .i64 x0),.pure (.int .i64 x1),.pure (.int .i64 x2),.pure (.int .i64 x3)]=some (.cells true (zq Node.cells (l.set i ⟨x0,x1,x2,x3⟩))):=H7 (f:=Node.cells) (a:=⟨x0,x1,x2,x3⟩) (fun _=>rfl) (fun _=>by first|rfl|simp) (by decide) h
def bz (b:Box) (ax:Nat):Span:=if ax=0 then b.x else b.y
def mG (b:Box) (ax:Nat) (s:Span):Box:=if ax=0 then ⟨s,b.y⟩ else ⟨b.x,s⟩
def pg (b:Box) (ax:Nat) (t:Int):Box:=mG b ax ⟨(bz b ax).lo,t⟩
def BD (b:Box) (ax:Nat) (t:Int):Box:=mG b ax ⟨t+1,(bz b ax).hi⟩
def fU (l:List Box) (i ax:Nat) (t:Int):List Box:=match l[i]? with
 | some b=>l.set i (pg b ax t)
 | none=>l
def pq (l:List Box) (i ax:Nat) (t:Int):List Box:=match l[i]? with
 | some b=>l.set i (BD b ax t)
 | none=>l
theorem Gi {l:List Box} {i:Nat} (h:i < l.length) (ax:Nat) (t:Int):fU l i ax t=l.set i (pg l[i] ax t):=by simp [fU,h]
theorem Gj {l:List Box} {i:Nat} (h:i < l.length) (ax:Nat) (t:Int):pq l i ax t=l.set i (BD l[i] ax t):=by simp [pq,h]
structure jI (l:List Box) (i ax:Nat) (t:Int):Prop where
 il:i < l.length
 al:ax < 2
 lo:(bz (l[i]'il) ax).lo<=t
 hi:t < (bz (l[i]'il) ax).hi
def E8 (b:Box):Nat:=(b.x.hi - b.x.lo).toNat+(b.y.hi - b.y.lo).toNat
def iq (l:List Box):Nat:=(l.map E8).sum
theorem zmr:∀ {l:List Nat} {i a:Nat} (h:i < l.length),(l.set i a).sum+l[i]=l.sum+a
 | [],i,a,h=>by simp at h
 | x::l,0,a,h=>by simp;omega
 | x::l,i+1,a,h=>by
  have:=zmr (l:=l) (i:=i) (a:=a) (by simpa using h);simp only [List.set_cons_succ,List.sum_cons,List.getElem_cons_succ];omega
theorem Z4 {l:List Box} {i:Nat} (h:i < l.length) (b:Box):iq (l.set i b)+E8 l[i]=iq l+E8 b:=by
 unfold iq;have:=zmr (l:=l.map E8) (i:=i) (a:=E8 b) (by simpa using h);rw [List.map_set]
 simpa using this
theorem TB {l:List Box} {i ax:Nat} {t:Int} (h:jI l i ax t):iq (fU l i ax t) < iq l:=by
 have aX:=h.il;rw [Gi aX];have h1:=Z4 aX (pg l[i] ax t);have h2:=h.lo;have h3:=h.hi;have h4:=h.al;unfold E8 pg mG bz at *
 by_cases e:ax=0
 .simp only [e,if_true] at *;omega
 .simp only [e,if_false] at *;omega
theorem TC {l:List Box} {i ax:Nat} {t:Int} (h:jI l i ax t):iq (pq l i ax t) < iq l:=by
 have aX:=h.il;rw [Gj aX];have h1:=Z4 aX (BD l[i] ax t);have h2:=h.lo;have h3:=h.hi;have h4:=h.al;unfold E8 BD mG bz at *
 by_cases e:ax=0
 .simp only [e,if_true] at *;omega
 .simp only [e,if_false] at *;omega
inductive qW (bad:Int->List Box->Prop):List Box->List Node->Prop
 | leaf (l:List Box) (f:Int) (h:bad f l):qW bad l [⟨f,0,0,0⟩]
 | node (l:List Box) (i ax:Nat) (t:Int) (ta tb:List Node) (h:jI l i ax t) (ha:qW bad (fU l i ax t) ta) (hb:qW bad (pq l i ax t) tb):qW bad l (⟨-1,i,ax,t⟩::(ta++tb))
def Kt (oD:List Box->Int) (ch:List Box->Option (Nat×Nat×Int)):Nat->List Box->List Node
 | 0,_=>[]
 | n+1,l=>if 0<=oD l then [⟨oD l,0,0,0⟩] else match ch l with
  | none=>[]
  | some c=>⟨-1,c.1,c.2.1,c.2.2⟩::(Kt oD ch n (fU l c.1 c.2.1 c.2.2)++Kt oD ch n (pq l c.1 c.2.1 c.2.2))
theorem Z7 {oD:List Box->Int} {ch:List Box->Option (Nat×Nat×Int)} {bad:Int->List Box->Prop} (xJ:∀ l,0<=oD l->bad (oD l) l) {QK:List Box->Nat->Prop} (h1:∀ l b,QK l b->1<=b)
  (hs:∀ l b,QK l b->oD l < 0->∃ i ax t,ch l=some (i,ax,t)/\jI l i ax t/\∃ ba bb,ba+bb<=b/\QK (fU l i ax t) ba/\QK (pq l i ax t) bb) :
  ∀ n l b,QK l b->iq l < n->qW bad l (Kt oD ch n l)/\(Kt oD ch n l).length+1<=2*b
 | 0,l,b,_,h=>by omega
 | n+1,l,b,hp,hm=>by
  unfold Kt
  by_cases h0:0<=oD l
  .rw [if_pos h0];exact ⟨.leaf l _ (xJ l h0),by have:=h1 l b hp;simp only [List.length_cons,List.length_nil];omega⟩
  .rw [if_neg h0];obtain ⟨i,ax,t,hc,QL,ba,bb,hb,hpa,TD⟩:=hs l b hp (by omega);rw [hc];have ma:=TB QL;have mb:=TC QL;obtain ⟨fa,la⟩:=Z7 xJ h1 hs n (fU l i ax t) ba hpa (by omega);obtain ⟨fb,lb⟩:=Z7 xJ h1 hs n (pq l i ax t) bb TD (by omega)
   refine ⟨.node l i ax t _ _ QL fa fb,?_⟩
   simp only [List.length_cons,List.length_append];omega
def vG (b:Box):Nat:=(b.x.hi - b.x.lo+1).toNat*(b.y.hi - b.y.lo+1).toNat
def fB (l:List Box):List Nat->Nat
 | []=>1
 | i::r=>vG l[i]! * fB l r
theorem Z8 {b:Box} (h:jl b):1<=vG b:=by
 unfold vG;unfold jl at h;exact Nat.mul_pos (by omega) (by omega)
theorem Z9 {l:List Box} (hw:Wf l):∀ {part:List Nat},(∀ i∈part,i < l.length)->1<=fB l part
 | [],_=>Nat.le_refl _
 | i::r,h=>by
  have hi:=h i List.mem_cons_self;have h1:=Z8 (hw _ (List.getElem_mem hi));have h2:=Z9 hw (part:=r) fun j hj=>h j (List.mem_cons_of_mem _ hj);simp only [fB,getElem!_pos l i hi];exact Nat.mul_pos h1 h2
theorem zmc {l:List Box} {i:Nat} {b:Box}:∀ {part:List Nat},i ∉ part->fB (l.set i b) part=fB l part
 | [],_=>rfl
 | j::r,h=>by
  have hj:i≠j:=fun e=>h (e ▸ List.mem_cons_self);simp only [fB,List.getElem!_eq_getElem?_getD,List.getElem?_set_ne hj];rw [zmc fun hm=>h (List.mem_cons_of_mem _ hm)]
theorem zi5 {l:List Box} {i:Nat} (hi:i < l.length) {b1 b2:Box} (ha:vG b1+vG b2=vG l[i]):∀ {part:List Nat},part.Nodup->i∈part->fB (l.set i b1) part+fB (l.set i b2) part=fB l part
 | [],_,h=>by simp at h
 | j::r,hn,h=>by
  have jD:=List.nodup_cons.1 hn
  by_cases e:i=j
  .subst e;simp only [fB,zmc jD.1];rw [getElem!_pos (l.set i b1) i (by simpa using hi),getElem!_pos (l.set i b2) i (by simpa using hi),getElem!_pos l i hi,List.getElem_set_self,List.getElem_set_self,<- Nat.add_mul,ha]
  .have hir:i∈r:=by
    rcases List.mem_cons.1 h with h|h
    .exact absurd h e
    .exact h
   have ih:=zi5 hi ha jD.2 hir;simp only [fB,List.getElem!_eq_getElem?_getD,List.getElem?_set_ne e];rw [<- Nat.mul_add,ih]
theorem zom {b:Box} {ax:Nat} {t:Int} (h1:(bz b ax).lo<=t) (h2:t < (bz b ax).hi):vG (pg b ax t)+vG (BD b ax t)=vG b:=by
 unfold vG pg BD mG bz at *
 by_cases e:ax=0
 .simp only [e,if_true] at *;rw [<- Nat.add_mul]
  congr 1
  omega
 .simp only [e,if_false] at *;rw [<- Nat.mul_add]
  congr 1
  omega
theorem WK {b:Box} {ax:Nat} {t:Int} (hw:jl b) (h1:(bz b ax).lo<=t) (h2:t < (bz b ax).hi):jl (pg b ax t)/\jl (BD b ax t)/\fH (pg b ax t) b/\fH (BD b ax t) b:=by
 unfold jl pg BD mG bz fH fG at *
 by_cases e:ax=0
 .simp only [e,if_true] at *;omega
 .simp only [e,if_false] at *;omega
theorem zq2 {l:List Box} {i ax:Nat} (hi:i < l.length) (ha:ax < 2):fU l i ax (bz l[i] ax).lo=jW l i (2*ax)/\pq l i ax (bz l[i] ax).lo=qV l i (2*ax):=by
 rw [Gi hi,Gj hi,CR hi,Jn hi];have:ax=0\/ax=1:=by omega
 rcases this with rfl|rfl<;>simp [pg,BD,mG,bz,vZ,qU]
theorem zpV {l:List Box} {i ax:Nat} (hi:i < l.length) (ha:ax < 2):fU l i ax ((bz l[i] ax).hi - 1)=qV l i (2*ax+1)/\pq l i ax ((bz l[i] ax).hi - 1)=jW l i (2*ax+1):=by
 rw [Gi hi,Gj hi,CR hi,Jn hi];have:ax=0\/ax=1:=by omega
 rcases this with rfl|rfl<;>simp [pg,BD,mG,bz,vZ,qU]
section
variable {F:Type} {fails:F->List Box->Prop} {facts:List F} {boxes:List Box}
def CS (fails:F->List Box->Prop) (facts:List F) (l:List Box):Prop:=∃ f∈facts,fails f l
inductive pE (fails:F->List Box->Prop) (facts:List F) (boxes:List Box) (part:List Nat):Option (List Box)->List Box->Nat->Prop
 | bad (r:Option (List Box)) (l:List Box) (b:Nat) (h:CS fails facts l) (hb:1<=b):pE fails facts boxes part r l b
 | out (N l:List Box) (b:Nat) (h:Holds' fails facts boxes l) (hb:iq l+fB N part<=b+iq N):pE fails facts boxes part (some N) l b
 | xK (N l:List Box) (b:Nat) (h:aP l N) (hw:Wf l) (hb:fB l part<=b):pE fails facts boxes part (some N) l b
 | none (l:List Box) (b:Nat) (h:Holds' fails facts boxes l) (hb:iq l+1<=b):pE fails facts boxes part none l b
theorem zqO:∀ {l m:List Box},aP l m->iq l<=iq m:=by
 intro l
 induction l with
 | nil=>intro m h;simp [iq]
 | cons a l ih =>
  intro m h
  cases m with
  | nil=>have:=h.1;simp at this
  | cons b m =>
   have h0:=h.2 0 (by simp) (by simp);have hs:aP l m:=⟨by simpa using h.1,fun i h1 h2=>h.2 (i+1) (by simpa using h1) (by simpa using h2)⟩
   have:=ih hs;unfold fH fG at h0;simp only [List.getElem_cons_zero] at h0;have hm:E8 a<=E8 b:=by unfold E8;omega
   unfold iq at *;simp only [List.map_cons,List.sum_cons];omega
theorem zrO {l:List Box} {i k:Nat} (hi:i < l.length) (hk:k < 4) (ht:¬ nS l[i] k) (hw:jl l[i]):iq (qV l i k)+1=iq l:=by
 rw [Jn hi];have h1:=Z4 hi (qU l[i] k);have nW:k=0\/k=1\/k=2\/k=3:=by omega
 unfold E8 qU nS jl at *;rcases nW with rfl|rfl|rfl|rfl<;>simp at *<;>omega
def BF (loose:List Box->Option (Nat×Nat)) (wide:List Box->Nat×Nat) (l:List Box):Option (Nat×Nat×Int):=match loose l with
 | some s=>some (s.1,s.2 / 2,if s.2 % 2=0 then (bz l[s.1]! (s.2 / 2)).lo else (bz l[s.1]! (s.2 / 2)).hi - 1)
 | none=>if (bz l[(wide l).1]! (wide l).2).lo=(bz l[(wide l).1]! (wide l).2).hi then none else
   some ((wide l).1,(wide l).2,(bz l[(wide l).1]! (wide l).2).lo+((bz l[(wide l).1]! (wide l).2).hi - (bz l[(wide l).1]! (wide l).2).lo) / 2)
structure xL (fails:F->List Box->Prop) (facts:List F) (boxes:List Box) (part:List Nat) (loose:List Box->Option (Nat×Nat)) (wide:List Box->Nat×Nat):Prop where
 nodup:part.Nodup
 lt:∀ i∈part,i < boxes.length
 some:∀ l i k,l.length=boxes.length->Wf l->loose l=some (i,k)->i∈part/\k < 4/\∃ h:i < l.length,¬ nS l[i] k/\∃ f∈facts,fails f (jW l i k)
 none:∀ l,l.length=boxes.length->Wf l->loose l=none->¬ CS fails facts l->Stable fails facts l
 wide:∀ l,l.length=boxes.length->Wf l->aP l boxes->¬ CS fails facts l->(wide l).1∈part/\(wide l).2 < 2/\∃ h:(wide l).1 < l.length,(bz l[(wide l).1] (wide l).2).lo < (bz l[(wide l).1] (wide l).2).hi
variable {part:List Nat} {loose:List Box->Option (Nat×Nat)} {wide:List Box->Nat×Nat} {r:Option (List Box)}
theorem pE.pos {l:List Box} {b:Nat} (hr:bM fails facts boxes r) (aO:∀ i∈part,i < boxes.length) (h:pE fails facts boxes part r l b):1<=b:=by
 cases h with
 | bad _ _ _ _ hb=>exact hb
 | out N _ _ h hb =>
  have hs:aP N l:=h.all N hr.1.wf hr.1.sub hr.2;have h1:=zqO hs;have h2:=Z9 hr.1.wf (part:=part) fun i hi=>by rw [hr.1.sub.1];exact aO i hi
  omega
 | xK N _ _ h hw hb =>
  have h2:=Z9 hw (part:=part) fun i hi=>by rw [h.1,hr.1.sub.1];exact aO i hi
  omega
 | none _ _ h hb=>omega
theorem zga {l:List Box} {i k:Nat} (hk:k < 4) (hi:i < l.length) (ht:¬ nS l[i] k) (hw:jl l[i]) {Q:List Box->Nat->Prop} {b:Nat} (h1:Q (jW l i k) 1) (h2:Q (qV l i k) b) :
  jI l i (k / 2) (if k % 2=0 then (bz l[i]! (k / 2)).lo else (bz l[i]! (k / 2)).hi - 1)/\∃ ba bb,ba+bb<=b+1/\Q (fU l i (k / 2) (if k % 2=0 then (bz l[i]! (k / 2)).lo else (bz l[i]! (k / 2)).hi - 1)) ba/\Q (pq l i (k / 2) (if k % 2=0 then (bz l[i]! (k / 2)).lo else (bz l[i]! (k / 2)).hi - 1)) bb:=by
 rw [getElem!_pos l i hi];have jo:(bz l[i] (k / 2)).lo < (bz l[i] (k / 2)).hi:=by
  unfold nS at ht;unfold jl at hw;unfold bz;have nW:k=0\/k=1\/k=2\/k=3:=by omega
  rcases nW with rfl|rfl|rfl|rfl<;>simp at *<;>omega
 by_cases e:k % 2=0
 .rw [if_pos e];obtain ⟨s1,s2⟩:=zq2 (l:=l) (i:=i) (ax:=k / 2) hi (by omega);rw [show 2*(k / 2)=k by omega] at s1 s2;exact ⟨⟨hi,by omega,Int.le_refl _,jo⟩,1,b,by omega,by rw [s1];exact h1,by rw [s2];exact h2⟩
 .rw [if_neg e];obtain ⟨s1,s2⟩:=zpV (l:=l) (i:=i) (ax:=k / 2) hi (by omega);rw [show 2*(k / 2)+1=k by omega] at s1 s2;exact ⟨⟨hi,by omega,by omega,by omega⟩,b,1,by omega,by rw [s1];exact h2,by rw [s2];exact h1⟩
theorem zs8 {N l:List Box} {i ax:Nat} {t:Int} (hn:part.Nodup) (hs:aP l N) (hw:Wf l) (hp:jI l i ax t) (hi:i∈part):fB (fU l i ax t) part+fB (pq l i ax t) part=fB l part/\aP (fU l i ax t) N/\aP (pq l i ax t) N/\Wf (fU l i ax t)/\Wf (pq l i ax t):=by
 have aX:=hp.il;obtain ⟨w1,w2,s1,s2⟩:=WK (hw _ (List.getElem_mem aX)) hp.lo hp.hi;rw [Gi aX,Gj aX];have g1:=(aP.refl l).set (i:=i) s1;have g2:=(aP.refl l).set (i:=i) s2;rw [List.set_getElem_self] at g1 g2;exact ⟨zi5 aX (zom hp.lo hp.hi) hn hi,g1.trans hs,g2.trans hs,hw.set w1,hw.set w2⟩
theorem zmX {N l:List Box} {b:Nat} (hr:bM fails facts boxes (some N)) (ti:xL fails facts boxes part loose wide) (hs:aP l N) (hw:Wf l) (hv:fB l part<=b) (hb:¬ CS fails facts l) :
  ∃ i ax t,BF loose wide l=some (i,ax,t)/\jI l i ax t/\∃ ba bb,ba+bb<=b/\pE fails facts boxes part (some N) (fU l i ax t) ba/\pE fails facts boxes part (some N) (pq l i ax t) bb:=by
 have hl:l.length=boxes.length:=hs.1.trans hr.1.sub.1;have fin:∀ i ax t,jI l i ax t->i∈part->∃ ba bb,ba+bb<=b/\pE fails facts boxes part (some N) (fU l i ax t) ba/\pE fails facts boxes part (some N) (pq l i ax t) bb:=fun i ax t hp hi=>by
  obtain ⟨h1,h2,h3,h4,h5⟩:=zs8 ti.nodup hs hw hp hi;exact ⟨_,_,by omega,.xK N _ _ h2 h4 (Nat.le_refl _),.xK N _ _ h3 h5 (Nat.le_refl _)⟩
 cases jo:loose l with
 | some s =>
  obtain ⟨i,k⟩:=s;obtain ⟨hi,hk,aX,ht,_⟩:=ti.some l i k hl hw jo;have hp:=(zga hk aX ht (hw _ (List.getElem_mem aX)) (Q:=fun _ _=>True) (b:=0) trivial trivial).1;exact ⟨i,k / 2,_,by simp only [BF,jo],hp,fin _ _ _ hp hi⟩
 | none =>
  obtain ⟨hi,Cj,aX,aO⟩:=ti.wide l hl hw (hs.trans hr.1.sub) hb;have hp:jI l (wide l).1 (wide l).2 ((bz l[(wide l).1]! (wide l).2).lo+((bz l[(wide l).1]! (wide l).2).hi - (bz l[(wide l).1]! (wide l).2).lo) / 2):=by
   rw [getElem!_pos l _ aX];exact ⟨aX,Cj,by omega,by omega⟩
  refine ⟨(wide l).1,(wide l).2,_,?_,hp,fin _ _ _ hp hi⟩
  simp only [BF,jo];rw [if_neg];rw [getElem!_pos l _ aX];omega
theorem zq0 {l:List Box} {b:Nat} (ha:xI fails facts boxes.length) (hr:bM fails facts boxes r) (ti:xL fails facts boxes part loose wide) (h:pE fails facts boxes part r l b) (hb:¬ CS fails facts l) :
  ∃ i ax t,BF loose wide l=some (i,ax,t)/\jI l i ax t/\∃ ba bb,ba+bb<=b/\pE fails facts boxes part r (fU l i ax t) ba/\pE fails facts boxes part r (pq l i ax t) bb:=by
 have pY:=h.pos hr ti.lt
 cases h with
 | bad _ _ _ h _=>exact absurd h hb
 | xK N _ _ hs hw hv=>exact zmX hr ti hs hw hv hb
 | out N _ _ hh hm =>
  cases jo:loose l with
  | some s =>
   obtain ⟨i,k⟩:=s;obtain ⟨hi,hk,aX,ht,f,hf,pR⟩:=ti.some l i k hh.sub.1 hh.wf jo;have hw:=hh.wf _ (List.getElem_mem aX);have nX:=zrO aX hk ht hw;obtain ⟨hp,ba,bb,h1,h2,h3⟩:=zga hk aX ht hw (Q:=pE fails facts boxes part (some N)) (b:=b - 1) (.bad _ _ _ ⟨f,hf,pR⟩ (Nat.le_refl _)) (.out N _ _ (hh.cut ha aX hk hf pR ht) (by omega));exact ⟨i,k / 2,_,by simp only [BF,jo],hp,ba,bb,by omega,h2,h3⟩
  | none =>
   have fA:=ti.none l hh.sub.1 hh.wf jo hb;have e:=bM.unique (r:=some l) (s:=some N) ⟨hh,fA⟩ hr;simp only [Option.some.injEq] at e;subst e;exact zmX hr ti (aP.refl _) hh.wf (by omega) hb
 | none _ _ hh hm =>
  cases jo:loose l with
  | some s =>
   obtain ⟨i,k⟩:=s;obtain ⟨hi,hk,aX,ht,f,hf,pR⟩:=ti.some l i k hh.sub.1 hh.wf jo;have hw:=hh.wf _ (List.getElem_mem aX);have nX:=zrO aX hk ht hw;obtain ⟨hp,ba,bb,h1,h2,h3⟩:=zga hk aX ht hw (Q:=pE fails facts boxes part none) (b:=b - 1) (.bad _ _ _ ⟨f,hf,pR⟩ (Nat.le_refl _)) (.none _ _ (hh.cut ha aX hk hf pR ht) (by omega));exact ⟨i,k / 2,_,by simp only [BF,jo],hp,ba,bb,by omega,h2,h3⟩
  | none=>exact absurd (ti.none l hh.sub.1 hh.wf jo hb) (hr l hh.wf hh.sub)
def uT (r:Option (List Box)) (part:List Nat):Nat:=match r with
 | some N=>fB N part
 | none=>1
theorem zq5 {oD:List Box->Int} {TE:Int->List Box->Prop} (TF:∀ l,0<=oD l->TE (oD l) l) (TG:∀ l,oD l < 0->¬ CS fails facts l) (ha:xI fails facts boxes.length) (hw:Wf boxes) (hr:bM fails facts boxes r) (ti:xL fails facts boxes part loose wide) (n:Nat) (hn:iq boxes < n) :
  qW TE boxes (Kt oD (BF loose wide) n boxes)/\(Kt oD (BF loose wide) n boxes).length+1<=2*(iq boxes+uT r part):=by
 refine Z7 (QK:=pE fails facts boxes part r) TF (fun l b h=>h.pos hr ti.lt) (fun l b h hb=>zq0 ha hr ti h (TG l hb)) n boxes _ ?_ hn
 cases r with
 | some N=>exact .out N _ _ (.init hw) (by simp only [uT];omega)
 | none=>exact .none _ _ (.init hw) (by simp only [uT];omega)
end
end Go.Proofs.YtmmhnfghklppiaaGreat.Vm
