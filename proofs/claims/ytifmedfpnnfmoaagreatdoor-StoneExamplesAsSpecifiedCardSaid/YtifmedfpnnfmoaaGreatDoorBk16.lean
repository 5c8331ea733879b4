/- Contracts of functions of Go's library for the machine of values: slices.Sort, Clone, Delete, Compact, IndexFunc. -/
import Derived.Test.YtifmedfpnnfmoaaGreatDoorBk8
import Derived.Test.YtifmedfpnnfmoaaGreatDoorBk13
namespace Go.Proofs.YtifmedfpnnfmoaaGreatDoor.Vm
open Go
set_option linter.unusedSimpArgs false
set_option linter.unusedVariables false
set_option maxHeartbeats 4000000
def wpS (rs:List VRes) (k:AV->Heap->Prop) (x:VExit) (env:Env) (H:Heap):Prop:=(∀ i,x≠.exit i)/\∃ v,results env H rs=some v/\k v H
@[simp] theorem zpG {rs:List VRes} {k:AV->Heap->Prop} {env:Env} {H:Heap}:wpS rs k .ret env H↔∃ v,results env H rs=some v/\k v H:=by simp [wpS]
section
variable {G:Prog} {n:Nat} {H:Heap}
theorem zhR {f:Nat} {fn:VFunc} {args:List AV} {k:AV->Heap->Prop} (hr:G.extRun f args H=none) (hf:G.func f=some fn) (hl:args.length=fn.nargs)
  (h:wp (zg G n) fn.body (zb args) H (wpS fn.results k) .mk):∃ v H',Vm.call G (n+1) (.fn f) args H=some (v,H')/\k v H':=by
 obtain ⟨x,e,h',h1,h2,v,h3,h4⟩:=h
 refine ⟨v,h',?_,h4⟩
 rw [zfy,hr,hf];simp only [hl,if_true,h1]
 cases x with
 | exit i=>exact absurd rfl (h2 i)
 | normal=>simp only [h3]
 | ret=>simp only [h3]
theorem zd3 {f:Nat} {caps:List PV} {args:List AV} {k:AV->Heap->Prop} {u} (hs:G.shared f=true) (h:∃ v H',Vm.call G (n+1) (.fn f) (args++caps.map .pure) H=some (v,H')/\k v H') :
  wpE 0 (zn (zg G (n+1)) H (.pure (.func f caps)) args) H k u:=by
 obtain ⟨v,H',h1,h2⟩:=h
 refine ⟨.upd v H',?_,by simp,h2⟩
 have hs':(zg G (n+1)).shared f=true:=hs;have h1':(zg G (n+1)).run f (args++caps.map .pure) H=some (v,H'):=h1;simp only [zn,hs',if_true,h1']
theorem zft {f:Nat} {caps:List PV} {args:List AV} {ps:List PV} {r:PV} {pre:Nat} {k:AV->Heap->Prop} {u} (hs:G.shared f=false) (ha:FrzL H true zaB (args++caps.map .pure) ps) (h:zD G n f ps=some r) (hc:r.cold=true)
  (hk:k (.pure r) H):wpE pre (zn (zg G n) H (.pure (.func f caps)) args) H k u:=by
 obtain ⟨ids,ha⟩:=ha
 refine ⟨.val (.pure r),?_,by simp [zaS],hk⟩
 have hs':(zg G n).shared f=false:=hs;have h':(zg G n).pure f ps=some r:=h;simp only [zn,hs',Bool.false_eq_true,if_false,ha,h',hc,Bool.or_true,if_true]
end
section
variable {α:Type} {f:α->List PV} {sz:Nat} {H:Heap} {v:AV} {l:List α}
theorem zbd (a:α) (l:List α):zx f (a::l)=(f a).map .pure++zx f l:=by simp [zx]
theorem zeb (hf:∀ a,(f a).length=sz):∀ (l:List α) (i:Nat),(zx f l).take (i*sz)=zx f (l.take i)
 | [],i=>by simp [zx]
 | a::l,0=>by simp [zx]
 | a::l,i+1=>by
  have h3:(List.map AV.pure (f a)).length=sz:=by rw [List.length_map,hf]
  rw [List.take_succ_cons,zbd,zbd,Nat.add_mul,Nat.one_mul,Nat.add_comm,<- h3,List.take_length_add_append,h3,zeb hf l i]
theorem zfO (hf:∀ a,(f a).length=sz):∀ (l:List α) (i:Nat),(zx f l).drop (i*sz)=zx f (l.drop i)
 | [],i=>by simp [zx]
 | a::l,0=>by simp [zx]
 | a::l,i+1=>by
  have h3:(List.map AV.pure (f a)).length=sz:=by rw [List.length_map,hf]
  rw [List.drop_succ_cons,zbd,Nat.add_mul,Nat.one_mul,Nat.add_comm,<- h3,List.drop_length_add_append,h3,zfO hf l i]
theorem zjt (hone:∀ a,(f a).all PV.one=true) (l:List α):(zx f l).all AV.one=true:=by
 induction l with
 | nil=>rfl
 | cons a l ih=>rw [zbd,List.all_append,ih,zbX _ (hone a)];rfl
theorem zdh (l:List α):zx f l=((l.map f).flatten).map .pure:=by simp [zx,List.map_flatten,Function.comp_def]
theorem zfN (hf:∀ a,(f a).length=sz) (s:Sl α):zI H sz (.pure (s.pv f sz))=some (zx f s.xs,s.xs.length):=by
 rw [zgQ hf,zdh]
theorem OwnV.slice (hf:∀ a,(f a).length=sz) (h:OwnV f sz H v l):zI H sz v=some (zx f l,l.length):=by
 rcases h with ⟨rfl,rfl⟩|⟨id,rfl,hg⟩
 ·rfl
 ·rw [zdW,hg];have:=zX hf l;simp only [zdQ];rw [if_pos (by omega),Nat.zero_mul,List.drop_zero,<- this,List.take_length]
def HeadV {α:Type} (f:α->List PV) (sz:Nat) (H:Heap) (v:AV) (l:List α):Prop:=∃ id rest,v=.row id sz 0 l.length/\H.get id=.cells true (zx f l++rest)
theorem HeadV.frz {k:Bool} {n:Nat} (hf:∀ a,(f a).length=sz) (h:HeadV f sz H v l):FrzK H k (n+2) v (.slice k sz (l.map f)):=by
 obtain ⟨id,rest,rfl,hg⟩:=h;have hlen:=zX hf l;have hch:∀ l:List α,chunks sz l.length ((l.map f).flatten)=l.map f:=by
  intro l
  induction l with
  | nil=>rfl
  | cons a l ih =>
   simp only [List.length_cons,chunks,List.map_cons,List.flatten_cons];rw [List.take_left' (hf a),List.drop_left' (hf a),ih]
 have hlen2:((l.map f).flatten).length=l.length*sz:=by
  rw [<- hlen,zdh,List.length_map]
 refine ⟨[id],?_⟩
 have h1:((zx f l++rest).drop (0*sz)).take (l.length*sz)=((l.map f).flatten).map .pure:=by
  rw [Nat.zero_mul,List.drop_zero,<- hlen,List.take_left',zdh];rfl
 have hids0:zO (freeze H k (n+1)) (((l.map f).flatten).map .pure)=some ((l.map f).flatten,[]):=by
  generalize (l.map f).flatten=q
  induction q with
  | nil=>rfl
  | cons p ps ih=>rw [List.map_cons,zO,ih];rfl
 unfold freeze;simp only [hg,h1,hids0,hlen2,if_true,hch]
theorem OwnV.head (h:OwnV f sz H v l):(l=[]/\v=.pure .nils)\/HeadV f sz H v l:=by
 rcases h with h|⟨id,h1,h2⟩
 ·exact .inl h
 ·exact .inr ⟨id,[],h1,by rw [List.append_nil];exact h2⟩
end
theorem zjv {α:Type} {f:α->List PV} {sz n:Nat} {H:Heap} {id m:Nat} {l:List α} (hf:∀ a,(f a).length=sz) (hg:H.get id=.cells true (zx f l)) (hl:l.length=m):∃ s:Sl α,s.xs=l/\FrzK H true (n+2) (.row id sz 0 m) (s.pv f sz):=by
 subst hl;exact ⟨.mk true l,rfl,HeadV.frz hf ⟨id,[],rfl,by rw [List.append_nil];exact hg⟩⟩
theorem zex {α:Type} {f:α->List PV} {sz n:Nat} {H:Heap} {id m:Nat} {l:List α} (hf:∀ a,(f a).length=sz) (hg:H.get id=.cells true (zx f l)) (hl:l.length=m):FrzK H false (n+2) (.row id sz 0 m) ((Sl.mk false l).pv f sz):=by
 subst hl;exact HeadV.frz hf ⟨id,[],rfl,by rw [List.append_nil];exact hg⟩
def zlJ (sz bytes:Nat):VFunc:=⟨1,8,[(.tmp 2)],(.seq (.region none [⟨(some 2),(.mov (.const .nils)),none⟩]) (.seq (.seq (.region none [⟨(some 3),(.mov (.tmp 0)),none⟩,⟨(some 4),(.bin .eql .slice (.tmp 3) (.const .nils)),none⟩]) (.cond (.tmp 4) (.seq (.region none [⟨(some 2),(.mov (.const .nils)),none⟩]) .ret) .skip)) (.seq (.region none [⟨(some 5),(.buildSlice sz [] []),none⟩,⟨(some 6),(.mov (.tmp 0)),none⟩,⟨(some 7),(.append sz bytes (.tmp 5) (.tmp 6)),none⟩,⟨(some 2),(.mov (.tmp 7)),none⟩]) .ret)))⟩
theorem zjS {v:AV} {b:Bool} (h:isNil .slice v=some b):vbin .eql .slice v (.pure .nils)=some (.pure (.bool b)):=by
 have h1:eqB .slice v (.pure .nils)=some b:=by
  have h0:isNil .slice (.pure .nils)=some true:=rfl
  cases b<;>simp only [eqB,h,h0]
 cases v with
 | pure p=>cases p<;>simp only [vbin,h1,Option.map_some]<;>simp [isNil] at h
 | _=>simp only [vbin,h1,Option.map_some]
section
variable {α:Type} {f:α->List PV} {sz:Nat} {H:Heap} {v:AV} {l:List α} {G:Prog} {n:Nat}
theorem zdr {g bytes:Nat} {b:Bool} {k:AV->Heap->Prop} (hx:∀ H,G.extRun g [v] H=none) (hg:G.func g=some (zlJ sz bytes)) (hv:zI H sz v=some (zx f l,l.length)) (hn:isNil .slice v=some b) (hnl:b=true->l=[])
  (hf:∀ a,(f a).length=sz) (h0:0 < sz) (hone:∀ a,(f a).all PV.one=true) (hm:l.length*sz<=zt/\l.length*bytes<=zt)
  (hk:∀ v' H',OwnV f sz H' v' l->isNil .slice v'=some b->H.nx<=H'.nx->(∀ id,id < H.nx->H'.get id=H.get id)->(∀ id,Names v' id->H.nx<=id)->k v' H') :
  ∃ v' H',Vm.call G (n+1) (.fn g) [v] H=some (v',H')/\k v' H':=by
 refine zhR (hx H) hg rfl ?_
 simp only [zlJ];have h1:=zjS hn
 cases b with
 | true =>
  have hl:=hnl rfl;subst hl;have:=hk (.pure .nils) H OwnV.nil rfl (Nat.le_refl _) (fun _ _=>rfl) (fun id ⟨_,_,_,h⟩=>by simp at h);simp [zb,h1,this]
 | false =>
  simp only [zl8,zhd,zi0,zfe,znr,zkF,Option.getD_none,zf2,zgI,zkH,ziU,zhs,zb,znO,zkG];simp [h1];have hsame:zI (H.alloc (.cells true [])) sz v=some (zx f l,l.length):=by
   cases v with
   | row id s o m =>
    simp only [zI] at hv ⊢
    split at hv
    ·rename_i hs;rw [if_pos hs]
     split at hv
     ·rename_i cs hc;rw [zy (zq hc),hc];exact hv
     ·simp at hv
    ·simp at hv
   | pure p=>cases p<;>exact hv
   | _=>exact hv
  have ho:=zjt hone l;have hz:(if sz=0 then 0 else 0 / sz)=0:=by split<;>simp
  try rw [hz]
  have hi0:zb [v] 0=v:=rfl;rw [hi0];have hlen:=zX hf l
  cases l with
  | nil =>
   have hap:zl (H.alloc (.cells true [])) sz bytes (.row H.nx sz 0 0) v=some (.upd (.row H.nx sz 0 0) ((H.alloc (.cells true [])).set H.nx (.cells true []))):=by
    simp only [zl,hsame,ho,zaL];simp [zx]
   rw [hap];simp
   refine hk _ _ (.inr ⟨H.nx,rfl,?_⟩) rfl (by simp) (fun id hid=>?_) (fun id ⟨_,_,_,h⟩=>?_)
   ·rw [zU (by simp)];rfl
   ·rw [zu (by omega),zy hid]
   ·simp at h;omega
  | cons a l =>
   have hap:zl (H.alloc (.cells true [])) sz bytes (.row H.nx sz 0 0) v=some (.upd (.row (H.nx+1) sz 0 (a::l).length) (((H.alloc (.cells true [])).set H.nx .dead).alloc (.cells true (zx f (a::l))))):=by
    simp only [zl,hsame,ho,zaL];have hp:0 < (a::l).length*sz:=Nat.mul_pos (by simp) h0;simp only [Bool.not_true,Bool.false_eq_true,if_false,if_true,Nat.zero_mul,Nat.zero_add,List.length_nil];rw [if_neg (by omega)];simp only [true_and,zl7,List.nil_append];rw [if_pos hm]
   rw [hap];simp
   refine hk _ _ (.inr ⟨H.nx+1,by simp,?_⟩) rfl (by simp;omega) (fun id hid=>?_) (fun id ⟨_,_,_,h⟩=>?_)
   ·exact zfk (by simp)
   ·rw [zy (by simp;omega),zu (by omega),zy hid]
   ·simp at h;omega
end
section
variable {H:Heap} {v:AV} {l:List Int} {G:Prog} {n:Nat}
theorem zfB:∀ (l:List Int),zed (zx intF l)=some l
 | []=>rfl
 | a::l=>by
  have:=zfB l;rw [zbd];simp only [intF,List.map_cons,List.map_nil,List.singleton_append,zed,this,Option.map_some]
theorem ziu (h:HeadV intF 1 H v l) (hl:l.length<=zt):∃ H',zds [v] H=some (.tup [],H')/\HeadV intF 1 H' v (zaM l)/\H'.nx=H.nx/\(∀ id,¬ Names v id->H'.get id=H.get id)/\(∀ id,v=.row id 1 0 l.length->H.get id=.cells true (zx intF l)->H'.get id=.cells true (zx intF (zaM l))):=by
 obtain ⟨id,rest,rfl,hg⟩:=h;have hlen:(zx intF l).length=l.length:=by rw [zX (sz:=1) (fun _=>rfl)];omega
 have h1:((zx intF l++rest).drop 0).take l.length=zx intF l:=by rw [List.drop_zero,<- hlen,List.take_left'];rfl
 have h2:∀ zs:List Int,zs.map (fun z=>AV.pure (.int .i64 z))=zx intF zs:=by
  intro zs
  induction zs with
  | nil=>rfl
  | cons a l ih=>rw [List.map_cons,zbd,ih];rfl
 have h3:(zx intF l++rest).drop (0+l.length)=rest:=by rw [Nat.zero_add,<- hlen,List.drop_left'];rfl
 refine ⟨H.set id (.cells true (zx intF (zaM l)++rest)),?_,⟨id,rest,by rw [zbL],zU (zq hg)⟩,rfl,fun i hi=>zu fun e=>hi ⟨1,0,l.length,e ▸ rfl⟩,fun i hi hgi=>?_⟩
 ·simp only [zds,hg,h1,zfB,h2,h3];rw [if_pos ⟨by simp [hlen],hl⟩];simp
 ·simp at hi;subst hi;rw [hg] at hgi;simp at hgi;rw [zU (zq hg),hgi,List.append_nil]
end
def zf3 (sz:Nat) (g:Bool):VFunc:=⟨2,19,[(.tmp 4)],(.seq (.region none [⟨(some 4),(.mov (.const (.int .i64 0))),none⟩]) (.seq (.seq (.region none [⟨(some 6),(.mov (.tmp 0)),none⟩,⟨(some 7),(.lenSl (.tmp 6)),none⟩,⟨(some 8),(.mov (.const (.int .i64 0))),none⟩]) (.block 0 (.loop (.seq (.region none [⟨(some 9),(.bin .lss .num (.tmp 8) (.tmp 7)),none⟩]) (.seq (.cond (.tmp 9) .skip (.exit 0)) (.seq (.block 1 (.seq (.region none [⟨(some 10),(.mov (.tmp 8)),none⟩,⟨(some 5),(.mov (.tmp 10)),none⟩]) (.seq (.region none [⟨(some 11),(.mov (.tmp 1)),none⟩,⟨(some 12),(.mov (.tmp 0)),none⟩,⟨(some 13),(.mov (.tmp 5)),none⟩,⟨(some 14),(.indexAddr sz none (.tmp 12) (.tmp 13)),none⟩,⟨(some 15),(.load g sz (.tmp 14)),none⟩,⟨(some 16),(.call (.tmp 11) [(.tmp 15)]),none⟩]) (.cond (.tmp 16) (.seq (.region none [⟨(some 17),(.mov (.tmp 5)),none⟩,⟨(some 4),(.mov (.tmp 17)),none⟩]) .ret) .skip)))) (.region none [⟨(some 18),(.bin .add .num (.tmp 8) (.const (.int .i64 1))),none⟩,⟨(some 8),(.mov (.tmp 18)),none⟩]))))))) (.seq (.region none [⟨(some 4),(.mov (.const (.int .i64 (-1)))),none⟩]) .ret)))⟩
def idxL {α:Type} (q:α->Bool):List α->Nat->Int
 | [],_=>-1
 | a::l,i=>if q a=true then i else idxL q l (i+1)
theorem zhc {α:Type} {q:α->Bool} {l:List α} {i:Nat} (h:i < l.length):idxL q (l.drop i) i=if q l[i]=true then (i:Int) else idxL q (l.drop (i+1)) (i+1):=by
 rw [List.drop_eq_getElem_cons h,idxL]
theorem zi5 {α:Type} (q:α->Bool):∀ (l:List α) (i:Nat),decide (0<=idxL q l i)=l.any q
 | [],i=>by simp [idxL]
 | a::l,i=>by
  rw [idxL,List.any_cons]
  cases h:q a with
  | true=>simp
  | false=>simpa using zi5 q l (i+1)
section
variable {α:Type} {f:α->List PV} {sz:Nat} {G:Prog} {n:Nat}
theorem zgx {t:Nat} {g:Bool} {p:PV} {q:α->Bool} {s:Sl α} (hx:G.ext t=none) (hr:∀ a H,G.extRun t a H=none) (hg:G.func t=some (zf3 sz g)) (hf:∀ a,(f a).length=sz) (hlen:s.xs.length < 1152921504606846975)
  (hc:∀ H a,a∈s.xs->∃ v,zaa g ((f a).map .pure)=some v/\zn (zg G n) H (.pure p) [v]=some (.val (.pure (.bool (q a))))):zD G (n+1) t [s.pv f sz,p]=some (.int .i64 (idxL q s.xs 0)):=by
 refine zo hx (hr _ _) hg rfl ?_
 simp only [zf3];simp [zb]
 refine zF [(4,5),(8,18)] (fun (i:Nat) env H=>env 8=.pure (.int .i64 i)/\i<=s.xs.length/\Hide (idxL q s.xs 0=idxL q (s.xs.drop i) i)) (fun i=>s.xs.length - i) 0 ?_ ?_ ?_ ?_
 ·rfl
 ·simp [zb]
 ·simp only [zB];omega
 rintro i env H ⟨h8,hi,hq⟩;have hfit:i < 9223372036854775807:=by omega
 simp [*,zb]
 refine zeg (fun h=>?_) (fun h=>?_)
 ·have hlt:i < s.xs.length:=by simpa using h
  obtain ⟨v,hv,hcall⟩:=hc H s.xs[i] (List.getElem_mem hlt);have hld:List.take sz (List.map AV.pure (f s.xs[i]))=(f s.xs[i]).map .pure:=List.take_of_length_le (by rw [List.length_map,hf];exact Nat.le_refl _);simp [*,zb]
  refine zeg (fun h2=>?_) (fun h2=>?_)
  ·have h9:idxL q s.xs 0=i:=by rw [hq.h,zhc hlt,if_pos h2]
   simp [h9]
  ·simp [*]
   refine ⟨i+1,by omega,by simp,by omega,⟨?_⟩⟩
   rw [hq.h,zhc hlt,if_neg (by simp [h2])]
 ·have hge:s.xs.length<=i:=by simpa using h
  have h9:idxL q s.xs 0=-1:=by rw [hq.h,List.drop_eq_nil_of_le hge];rfl
  simp [h9]
end
def goC (last:Option Int):List Int->List Int
 | []=>[]
 | a::r=>if last=some a then goC last r else a::goC (some a) r
def zal (l:List Int):List Int:=goC none l
theorem zgp (x:Int):∀ (l:List Int) (last:Option Int),goC last (l++[x])=goC last l++(if (l.getLast?.or last)=some x then [] else [x])
 | [],last=>by
  by_cases h:last=some x<;>simp [goC,h]
 | a::r,last=>by
  simp only [List.cons_append,goC];have hl:∀ o:Option Int,(r.getLast?.or (some a))=((a::r).getLast?.or o):=by
   intro o
   cases r with
   | nil=>rfl
   | cons b r=>rw [List.getLast?_cons_cons,List.getLast?_eq_some_getLast (by simp)];rfl
  split
  ·rename_i h;rw [zgp x r last,h,hl (some a)]
  ·rw [zgp x r (some a),hl last];rfl
theorem zcT {l:List Int} {j:Nat} (h0:0 < j) (h:j < l.length):zal (l.take (j+1))=zal (l.take j)++(if l[j-1]'(by omega)=l[j] then [] else [l[j]]):=by
 rw [<- zaO h,zal,zgp];have:(l.take j).getLast?=some (l[j-1]'(by omega)):=by
  rw [List.getLast?_eq_getElem?,List.length_take,Nat.min_eq_left (by omega),List.getElem?_take_of_lt (by omega),List.getElem?_eq_getElem]
 rw [this];simp only [Option.some_or,Option.some.injEq];rfl
theorem zjI:∀ (l:List Int) (last:Option Int),(goC last l).length<=l.length
 | [],last=>Nat.le_refl _
 | a::r,last=>by
  simp only [goC]
  split
  ·have:=zjI r last;simp;omega
  ·have:=zjI r (some a);simp;omega
def zjd:VFunc:=⟨1,61,[(.tmp 2)],(.seq (.region none [⟨(some 2),(.mov (.const .nils)),none⟩]) (.seq (.seq (.region none [⟨(some 6),(.mov (.tmp 0)),none⟩,⟨(some 7),(.lenSl (.tmp 6)),none⟩,⟨(some 8),(.bin .lss .num (.tmp 7) (.const (.int .i64 2))),none⟩]) (.cond (.tmp 8) (.seq (.region none [⟨(some 9),(.mov (.tmp 0)),none⟩,⟨(some 2),(.mov (.tmp 9)),none⟩]) .ret) .skip)) (.seq (.seq (.region none [⟨(some 3),(.mov (.const (.int .i64 1))),none⟩]) (.block 0 (.loop (.seq (.seq (.region none [⟨(some 10),(.mov (.tmp 3)),none⟩,⟨(some 11),(.mov (.tmp 0)),none⟩,⟨(some 12),(.lenSl (.tmp 11)),none⟩,⟨(some 13),(.bin .lss .num (.tmp 10) (.tmp 12)),none⟩]) (.cond (.tmp 13) .skip (.exit 0))) (.seq (.block 1 (.seq (.region (some 9) [⟨(some 16),(.mov (.tmp 0)),none⟩,⟨(some 17),(.mov (.tmp 3)),none⟩,⟨(some 18),(.indexAddr 1 none (.tmp 16) (.tmp 17)),none⟩,⟨(some 19),(.load false 1 (.tmp 18)),none⟩,⟨(some 20),(.mov (.tmp 0)),none⟩,⟨(some 21),(.mov (.tmp 3)),none⟩,⟨(some 22),(.bin .sub .num (.tmp 21) (.const (.int .i64 1))),none⟩,⟨(some 23),(.indexAddr 1 none (.tmp 20) (.tmp 22)),none⟩,⟨(some 24),(.load false 1 (.tmp 23)),none⟩,⟨(some 25),(.bin .eql .num (.tmp 19) (.tmp 24)),none⟩]) (.cond (.tmp 25) (.seq (.region none [⟨(some 26),(.mov (.tmp 0)),none⟩,⟨(some 27),(.mov (.tmp 3)),none⟩,⟨(some 28),(.slice 1 (.tmp 26) (some (.tmp 27)) none),none⟩,⟨(some 4),(.mov (.tmp 28)),none⟩]) (.seq (.seq (.region none [⟨(some 5),(.mov (.const (.int .i64 1))),none⟩]) (.block 2 (.loop (.seq (.seq (.region none [⟨(some 29),(.mov (.tmp 5)),none⟩,⟨(some 30),(.mov (.tmp 4)),none⟩,⟨(some 31),(.lenSl (.tmp 30)),none⟩,⟨(some 32),(.bin .lss .num (.tmp 29) (.tmp 31)),none⟩]) (.cond (.tmp 32) .skip (.exit 2))) (.seq (.block 3 (.seq (.region (some 9) [⟨(some 35),(.mov (.tmp 4)),none⟩,⟨(some 36),(.mov (.tmp 5)),none⟩,⟨(some 37),(.indexAddr 1 none (.tmp 35) (.tmp 36)),none⟩,⟨(some 38),(.load false 1 (.tmp 37)),none⟩,⟨(some 39),(.mov (.tmp 4)),none⟩,⟨(some 40),(.mov (.tmp 5)),none⟩,⟨(some 41),(.bin .sub .num (.tmp 40) (.const (.int .i64 1))),none⟩,⟨(some 42),(.indexAddr 1 none (.tmp 39) (.tmp 41)),none⟩,⟨(some 43),(.load false 1 (.tmp 42)),none⟩,⟨(some 44),(.bin .neq .num (.tmp 38) (.tmp 43)),none⟩]) (.cond (.tmp 44) (.seq (.region none [⟨(some 45),(.mov (.tmp 0)),none⟩,⟨(some 46),(.mov (.tmp 3)),none⟩,⟨(some 47),(.mov (.tmp 4)),none⟩,⟨(some 48),(.mov (.tmp 5)),none⟩,⟨(some 49),(.indexAddr 1 none (.tmp 47) (.tmp 48)),none⟩,⟨(some 50),(.load false 1 (.tmp 49)),none⟩,⟨(some 51),(.indexAddr 1 none (.tmp 45) (.tmp 46)),none⟩,⟨none,(.store 1 (.tmp 51) (.tmp 50)),none⟩]) (.region none [⟨(some 52),(.mov (.tmp 3)),none⟩,⟨(some 53),(.bin .add .num (.tmp 52) (.const (.int .i64 1))),none⟩,⟨(some 3),(.mov (.tmp 53)),none⟩])) .skip))) (.region none [⟨(some 33),(.mov (.tmp 5)),none⟩,⟨(some 34),(.bin .add .num (.tmp 33) (.const (.int .i64 1))),none⟩,⟨(some 5),(.mov (.tmp 34)),none⟩])))))) (.seq (.region none [⟨(some 54),(.mov (.tmp 0)),none⟩,⟨(some 55),(.mov (.tmp 3)),none⟩,⟨(some 56),(.slice 1 (.tmp 54) (some (.tmp 55)) none),none⟩,⟨none,(.clear [(.int .i64 0)] (.tmp 56)),none⟩]) (.seq (.region none [⟨(some 57),(.mov (.tmp 0)),none⟩,⟨(some 58),(.mov (.tmp 3)),none⟩,⟨(some 59),(.slice 1 (.tmp 57) none (some (.tmp 58))),none⟩,⟨(some 2),(.mov (.tmp 59)),none⟩]) .ret)))) .skip))) (.region none [⟨(some 14),(.mov (.tmp 3)),none⟩,⟨(some 15),(.bin .add .num (.tmp 14) (.const (.int .i64 1))),none⟩,⟨(some 3),(.mov (.tmp 15)),none⟩])))))) (.seq (.region none [⟨(some 60),(.mov (.tmp 0)),none⟩,⟨(some 2),(.mov (.tmp 60)),none⟩]) .ret))))⟩
section
variable {H:Heap} {v:AV} {l:List Int} {G:Prog} {n:Nat}
@[simp] theorem znB {l:List Int} {i:Nat} {x:Int} (h:i < l.length):zcy (.cells true (zx intF l)) 1 i [.pure (.int .i64 x)]=some (.cells true (zx intF (l.set i x))):=by
 have hlen:∀ l:List Int,(zx intF l).length=l.length:=fun l=>by rw [zX (sz:=1) (fun _=>rfl)];omega
 simp only [zcy];rw [if_pos ⟨rfl,by simp,rfl,by rw [hlen];omega⟩];have h1:=zeb (f:=intF) (sz:=1) (fun _=>rfl) l i;have h2:=zfO (f:=intF) (sz:=1) (fun _=>rfl) l (i+1);rw [Nat.mul_one] at h1 h2;rw [h1,h2,List.set_eq_take_append_cons_drop,if_pos h,zas,zbd,List.append_assoc];rfl
theorem zbz:∀ (m:Nat),zx intF (List.replicate m 0)=(List.replicate m [AV.pure (.int .i64 0)]).flatten
 | 0=>rfl
 | m+1=>by rw [List.replicate_succ,zbd,zbz m,List.replicate_succ,List.flatten_cons];rfl
@[simp] theorem zmy {l:List Int} {off len:Nat} (h:off+len=l.length):zfr (.cells true (zx intF l)) [.int .i64 0] off len=some (.cells true (zx intF (l.take off)++zx intF (List.replicate len 0))):=by
 have hlen:(zx intF l).length=l.length:=by rw [zX (sz:=1) (fun _=>rfl)];omega
 have h1:=zeb (f:=intF) (sz:=1) (fun _=>rfl) l off;rw [Nat.mul_one] at h1;simp only [zfr,List.length_singleton,Nat.mul_one];rw [if_pos (by omega),h1,List.drop_eq_nil_of_le (by omega),List.append_nil,zbz];rfl
theorem zhX {g id m:Nat} {k:AV->Heap->Prop} (hx:∀ a H,G.extRun g a H=none) (hg:G.func g=some zjd) (hv:H.get id=.cells true (zx intF l)) (hlen:l.length < 1073741824) (hm:m=l.length)
  (hk:∀ v' H',HeadV intF 1 H' v' (zal l)->H'.nx=H.nx->(∀ i,i≠id->H'.get i=H.get i)->Names v' id->k v' H') :
  ∃ v' H',Vm.call G (n+1) (.fn g) [.row id 1 0 m] H=some (v',H')/\k v' H':=by
 subst hm
 refine zhR (hx _ _) hg rfl ?_
 simp only [zjd];have hrl:∀ l:List Int,(zx intF l).length=l.length:=fun l=>by rw [zX (sz:=1) (fun _=>rfl)];omega
 (repeat' first|simp [*,zb]|(apply za<;>intro _ h<;>try simp [-Nat.le_zero_eq] at h))
 ·have h1:zal l=l:=by
   match l,(show l.length < 2 by omega) with
   | [],_=>rfl
   | [a],_=>rfl
  exact hk _ _ ⟨id,[],by rw [h1],by rw [h1,List.append_nil];exact hv⟩ rfl (fun _ _=>rfl) ⟨_,_,_,rfl⟩
 have h2:2<=l.length:=by omega
 refine zF [(2,5),(10,59)] (fun (i:Nat) env H'=>env 3=.pure (.int .i64 i)/\1<=i/\i<=l.length/\H'=H/\Hide (zal (l.take i)=l.take i)) (fun i=>l.length - i) 1 ?_ ?_ ?_ ?_
 ·rfl
 ·simp
  refine ⟨by omega,⟨?_⟩⟩
  match l,h2 with
  | a::b::l,_=>rfl
 ·simp only [zB];omega
 rintro i env H' ⟨h3,h1i,hi,rfl,hc⟩;have hfit:i < 9223372036854775807:=by omega
 have hp1:i - 1 < l.length:=by omega
 have hp0:0 < i:=by omega
 (repeat' first|simp [*,zb]|(apply za<;>intro _ h<;>try simp [-Nat.le_zero_eq] at h))
 ·have hlt:i < l.length:=by assumption
  have heq:l[i]=l[i-1]:=by assumption
  have hi0:¬ (i=0):=by omega
  have hnl:¬ (l.length=i):=by omega
  refine zF [(3,3),(5,5),(29,53)] (fun (s:List Int×Nat×Nat) env H''=>env 3=.pure (.int .i64 s.2.1)/\env 5=.pure (.int .i64 s.2.2)/\H''.get id=.cells true (zx intF s.1)/\H''.nx=H'.nx/\(∀ j,j≠id->H''.get j=H'.get j) /\
   Hide (s.1.length=l.length/\s.1.take s.2.1=zal (l.take (i+s.2.2))/\s.1.drop (i+s.2.2 - 1)=l.drop (i+s.2.2 - 1)/\1<=s.2.1/\s.2.1<=i+s.2.2 - 1/\1<=s.2.2/\i+s.2.2<=l.length)) (fun s=>l.length - s.2.2) (l,i,1) ?_ ?_ ?_ ?_
  ·rfl
  ·refine ⟨by simp [*],by simp,hv,rfl,fun _ _=>rfl,⟨rfl,?_,rfl,by show 1<=i;omega,by show i<=i+1 - 1;omega,by show 1<=1;omega,by show i+1<=l.length;omega⟩⟩
   show l.take i=zal (l.take (i+1));rw [zcT hp0 hlt,if_pos heq.symm,hc.h,List.append_nil]
  ·simp only [zB];omega
  rintro ⟨cur,kk,k2⟩ env2 H2 ⟨h3',h5',hg2,hnx,hoth,hh⟩;simp only at h3' h5' hg2 hnx hoth hh;have hfit2:k2 < 9223372036854775807:=by have:=hh.h;omega
  have hfit3:kk < 9223372036854775807:=by have:=hh.h;omega
  have hid2:=zq hg2;have hid3:id < H'.nx:=by omega
  have hp2:0 < k2:=by have:=hh.h;omega
  obtain ⟨⟨f1,f2,f3,f4,f5,f6,f7⟩⟩:=hh;have ea:∀ (h:k2 < l.length - i),i+k2 < l.length:=fun h=>by omega
  have eb:i+(k2 - 1) < l.length:=by omega
  have ec:∀ (h:k2 < l.length - i),k2 - 1 < l.length - i:=fun h=>by omega
  have ed:kk < l.length:=by omega
  have eg:kk+(l.length - kk)=l.length:=by omega
  have eh:¬ (kk=0):=by omega
  have ei:¬ (l.length=kk):=by omega
  have ej:kk<=l.length:=by omega
  have hE:Hide (i+(k2 - 1)=i+k2 - 1):=⟨by omega⟩
  have fa:∀ (h:i+k2 < cur.length),cur[i+k2]=l[i+k2]'(by omega):=fun h=>by
   have:=congrArg (fun x=>x[1]?) f3;simp only [List.getElem?_drop] at this;rw [List.getElem?_eq_getElem (by omega),List.getElem?_eq_getElem (by omega)] at this;have h9:i+k2 - 1+1=i+k2:=by omega
   simp only [h9] at this;exact Option.some.inj this
  have fb:cur[i+(k2 - 1)]'(by omega)=l[i+k2 - 1]'(by omega):=by
   have:=congrArg (fun x=>x[0]?) f3;simp only [List.getElem?_drop,Nat.add_zero] at this;rw [List.getElem?_eq_getElem (by omega),List.getElem?_eq_getElem (by omega)] at this;simp only [hE.h];exact Option.some.inj this
  have fc:∀ (h:k2 < l.length - i),zal (l.take (i+k2+1))=zal (l.take (i+k2))++(if l[i+k2 - 1]'(by omega)=l[i+k2]'(by omega) then [] else [l[i+k2]'(by omega)]):=fun h=>zcT (by omega) (by omega);have fd:∀ x (_:k2 < l.length - i),cur.drop (i+k2)=l.drop (i+k2)/\(cur.set kk x).drop (i+k2)=l.drop (i+k2):=fun x h=>by
   have h9:i+k2=(i+k2 - 1)+1:=by omega
   have h8:cur.drop (i+k2)=l.drop (i+k2):=by rw [h9,<- List.drop_drop,f3,List.drop_drop]
   exact ⟨h8,by rw [List.drop_set_of_lt (by omega)];exact h8⟩
  clear f3 hv hc
  rename cur.take kk=_=>f2
  have f2':Hide (cur.take kk=zal (l.take (i+k2))):=⟨f2⟩
  have fa':Hide (∀ (h:i+k2 < cur.length),cur[i+k2]=l[i+k2]'(by omega)):=⟨fa⟩
  have fb':Hide (cur[i+(k2 - 1)]'(by omega)=l[i+k2 - 1]'(by omega)):=⟨fb⟩
  clear f2 fa fb;(repeat' first|simp [*,zb]|(apply za<;>intro _ h<;>try simp [-Nat.le_zero_eq] at h))
  ·have hk2:k2 < l.length - i:=by assumption
   have he:cur[i+k2]'(by have:=ea hk2;omega)=cur[i+(k2 - 1)]'(by omega):=by assumption
   refine ⟨cur,kk,k2+1,?_⟩
   have key:zal (l.take (i+k2))=zal (l.take (i+(k2+1))):=by
    rw [<- Nat.add_assoc,fc hk2,<- fb'.h,<- fa'.h (by have:=ea hk2;omega),if_pos he.symm,List.append_nil]
   and_intros
   all_goals first
    | omega
    | exact hoth
    | rfl
    | exact ⟨⟨f1,by rw [f2'.h,key],(fd 0 hk2).1,by omega,by omega,by omega,by omega⟩⟩
  ·have hk2:k2 < l.length - i:=by assumption
   have hne:¬ cur[i+k2]'(by have:=ea hk2;omega)=cur[i+(k2 - 1)]'(by omega):=by assumption
   refine ⟨cur.set kk (cur[i+k2]'(by have:=ea hk2;omega)),kk+1,k2+1,?_⟩
   have key:(cur.set kk (cur[i+k2]'(by have:=ea hk2;omega))).take (kk+1)=zal (l.take (i+(k2+1))):=by
    rw [<- Nat.add_assoc,fc hk2,<- f2'.h,<- fb'.h,<- fa'.h (by have:=ea hk2;omega),if_neg (fun e=>hne e.symm)];rw [<- zaO (xs:=cur.set kk _) (by simp;omega)];simp [List.take_set_of_le]
   have hfin:∀ (j:Nat),¬ j=id->(H2.set id (.cells true (zx intF (cur.set kk (cur[i+k2]'(by have:=ea hk2;omega)))))).get j=H'.get j:=fun j hj=>by rw [zu hj];exact hoth j hj
   and_intros
   all_goals first
    | omega
    | exact hfin
    | rfl
    | exact ⟨⟨by simp [f1],key,(fd _ hk2).2,by omega,by omega,by omega,by omega⟩⟩
    | exact ⟨⟨key,(fd _ hk2).2,by omega,by omega,by omega,by omega⟩⟩
  ·have hk2:i+k2=l.length:=by omega
   have f9:=f2'.h;rw [hk2,List.take_length] at f9;have f10:(zal l).length=kk:=by rw [<- f9,List.length_take];omega
   refine hk _ _ ⟨id,zx intF (List.replicate (l.length - kk) 0),by rw [f10],?_⟩ (by simpa using hnx) (fun j hj=>by rw [zu hj];exact hoth j hj) ⟨_,_,_,rfl⟩
   rw [zU hid2,f9]
 ·have hlt:i < l.length:=by assumption
  have hne:¬ l[i]=l[i-1]:=by assumption
  refine ⟨i+1,by omega,by simp,by omega,by omega,⟨?_⟩⟩
  rw [zcT hp0 hlt,if_neg (fun e=>hne e.symm),hc.h,zaO hlt]
 ·have he:i=l.length:=by omega
  have h1:=hc.h;rw [he,List.take_length] at h1;exact hk _ _ ⟨id,[],by rw [h1],by rw [h1,List.append_nil];exact hv⟩ rfl (fun _ _=>rfl) ⟨_,_,_,rfl⟩
end
section
variable {G:Prog} {n:Nat} {H:Heap} {env:Env}
theorem zjs {id:Nat} {r:LoopR} {args:List AV} {k:AV->Heap->Prop} {u} (hg:H.get id=.loop r) (hs:r.state=.ready) (hl:args.length=r.params.length)
  (h:wp (zg G n) r.assign ((r.params.zip args).foldl (fun e x=>upd e x.1 x.2) r.env) H (fun x env2 H2=>x=.normal/\H2.get id=.loop r /\
   wp (zg G n) r.body env2 (H2.set id (.loop { r with state:=.busy })) (fun x _ H3=>x=.normal/\H3.get id=.loop { r with state:=.busy }/\k (.pure (.bool true)) (H3.set id (.loop { r with state:=.ready,pending:=.normal }))) .mk) .mk) :
  wpE 0 (zn (zg G (n+1)) H (.yield id) args) H k u:=by
 obtain ⟨x,env2,H2,h1,rfl,hg2,x3,e3,H3,h3,rfl,h4,h5⟩:=h
 refine ⟨.upd (.pure (.bool true)) (H3.set id (.loop { r with state:=.ready,pending:=.normal })),?_,by simp,h5⟩
 have hy:(zg G (n+1)).yield id args H=some (.pure (.bool true),H3.set id (.loop { r with state:=.ready,pending:=.normal })):=by
  show Vm.call G (n+1) (.yield id) args H=_;have e0:Vm.call G (n+1) (.yield id) args H=(match H.get id with
   | .loop r =>
    if args.length=r.params.length then
     match exec (zg G n) r.assign ((r.params.zip args).foldl (fun e x=>upd e x.1 x.2) r.env) H with
     | some (.normal,env2,H2)=>match H2.get id with
      | .loop r2=>match r2.state with
       | .ready=>match exec (zg G n) r.body env2 (H2.set id (.loop { r2 with state:=.busy })) with
        | some (x,_,H3)=>match H3.get id with
         | .loop r3=>match x with
          | .normal=>some (.pure (.bool true),H3.set id (.loop { r3 with state:=.ready,pending:=.normal }))
          | x=>some (.pure (.bool false),H3.set id (.loop { r3 with state:=.done,pending:=x }))
         | _=>none
        | none=>none
       | _=>none
      | _=>none
     | _=>none
    else none
   | _=>none):=rfl
  rw [e0,hg];simp only [hl,if_true,h1,hg,hg2,hs,h3,h4]
 simp only [zn,hy]
theorem zhF {f:Opnd} {params:List Nat} {assign body:VCode} {Q:VExit->Env->Heap->Prop} {g:Nat} {caps:List PV} {u} (hf:f.eval env=.pure (.func g caps))
  (h:∃ v H2,Vm.call G (n+1) (.fn g) (.yield H.nx::caps.map .pure) (H.alloc (.loop { env,params,assign,body,state:=.ready,pending:=.normal }))=some (v,H2) /\
   H2.get H.nx=.loop { env,params,assign,body,state:=.ready,pending:=.normal }/\Q .normal env (H2.set H.nx .dead)) :
  wp (zg G (n+1)) (.rangeFunc f params assign body) env H Q u:=by
 obtain ⟨v,H2,h1,h2,h3⟩:=h
 refine ⟨.normal,env,H2.set H.nx .dead,?_,h3⟩
 have h1':(zg G (n+1)).run g (.yield H.nx::caps.map .pure) (H.alloc (.loop { env,params,assign,body,state:=.ready,pending:=.normal }))=some (v,H2):=h1;simp only [exec,hf,h1',h2]
end
end Go.Proofs.YtifmedfpnnfmoaaGreatDoor.Vm
