/- A call in a memory of its own, whose result the caller takes over: rows of plain cells. -/
import Derived.Test.YtleggocccaeemaaOk9
namespace Go.Proofs.Ytleggocccaeemaa.Vm
open Go
set_option linter.unusedSimpArgs false
set_option linter.unusedVariables false
section
variable {α β:Type} {fc:α->List PV} {gc:β->List PV} {sz tz:Nat} {H H1:Heap} {x y:AV} {l:List α} {m:List β}
def zdG (f:α->List PV):Prop:=∀ a,(f a).all PV.scalar=true
theorem zmS (hp:zdG fc) (l:List α):(zm fc l).all AV.plain=true:=by
 rw [List.all_eq_true];intro a ha;unfold zm at ha;obtain ⟨c,hc,hac⟩:=List.mem_flatten.1 ha;obtain ⟨b,_,rfl⟩:=List.mem_map.1 hc;obtain ⟨q,hq,rfl⟩:=List.mem_map.1 hac;exact List.all_eq_true.1 (hp b) q hq
theorem zd0 (hp:zdG fc) (h:OwnV fc sz H1 x l) (H:Heap) (n:Nat) (L:List Nat) (hL:∀ id,Names x id->id ∉ L):∃ u L',zaH H1 H.nx (n+1) x L=some (u,L')/\(∃ T,L'=L++T/\∀ id∈T,Names x id) /\
  ∀ L2,(∃ T,L2=L'++T)->OwnV fc sz (H.adopt H1 L2) u l/\∀ id,Names u id->H.nx+L.length<=id/\id < H.nx+L'.length:=by
 rcases h with ⟨rfl,rfl⟩|⟨id,rfl,hg⟩
 ·exact ⟨.pure .nils,L,by simp [zaH,PV.cold,PV.coldN],⟨[],by simp,by simp⟩,fun L2 _=>⟨OwnV.nil,fun id ⟨_,_,_,h⟩=>by simp at h⟩⟩
 ·have hnot:=hL id ⟨_,_,_,rfl⟩
  refine ⟨.row (H.nx+L.length) sz 0 l.length,L++[id],?_,⟨[id],rfl,fun i hi=>by simp at hi;subst hi;exact ⟨_,_,_,rfl⟩⟩,?_⟩
  ·simp only [zaH,hg];rw [if_pos ⟨zmS hp l,hnot⟩]
  ·rintro L2 ⟨T,rfl⟩
   refine ⟨.inr ⟨_,rfl,?_⟩,fun i ⟨_,_,_,h⟩=>by simp at h;obtain ⟨rfl,_⟩:=h;simp⟩
   rw [zef H1 (L++[id]++T) H L.length id (by simp)];exact hg
theorem zfn (H H1:Heap) (L:List Nat):H.nx<=(H.adopt H1 L).nx/\∀ i,i < H.nx->(H.adopt H1 L).get i=H.get i:=⟨by rw [ze6];omega,fun i hi=>zd9 H1 L H i hi⟩
variable {G:Prog} {n:Nat}
theorem zol {f:Nat} {args:List AV} {ps:List PV} {P:List α->PV->Prop} {k:AV->Heap->Prop} {u} (hp:zdG fc) (ha:FrzL H true zab args ps)
  (h:∃ v H1,Vm.call G n (.fn f) (ps.map .pure) Heap.empty=some (v,H1)/\∃ x e l,v=.tup [x,.pure e]/\e.cold=true/\OwnV fc sz H1 x l/\P l e)
  (hk:∀ (x:AV) (e:PV) (l:List α) (H2:Heap),P l e->OwnV fc sz H2 x l->(∀ id,Names x id->H.nx<=id)->H.nx<=H2.nx->(∀ i,i < H.nx->H2.get i=H.get i)->k (.tup [x,.pure e]) H2) :
  wpE 0 (zb6 (zq G n) H (.pure (.func f [])) args) H k u:=by
 obtain ⟨v,H1,hc,x,e,l,rfl,he,ho,hP⟩:=h;obtain ⟨ids,hids⟩:=ha;obtain ⟨x',L,ht,_,hO⟩:=zd0 hp ho H 2 [] (by simp);obtain ⟨a1,a2⟩:=hO L ⟨[],by simp⟩;obtain ⟨b1,b2⟩:=zfn H H1 L
 refine ⟨.upd (.tup [x',.pure e]) (H.adopt H1 L),?_,by simp,hk x' e l _ hP a1 (fun id hn=>by have:=(a2 id hn).1;simpa using this) b1 b2⟩
 have hc':(zq G n).run f (ps.map .pure) Heap.empty=some (.tup [x,.pure e],H1):=hc;have e1:zaH H1 H.nx 4 (.tup [x,.pure e]) []=some (.tup [x',.pure e],L):=by
  rw [zaH];simp only [zeP,ht];simp [zaH,he]
 simp only [zb6,List.map_nil,List.append_nil,hids,hc',e1]
theorem zh2 {L L':List Nat} {x' y':AV} {n:Nat} (hx:OwnV fc sz H1 x l) (hy:OwnV gc tz H1 y m) (ht:zaH H1 H.nx (n+1) x []=some (x',L)) (ht':zaH H1 H.nx (n+1) y L=some (y',L')):zaH H1 H.nx (n+2) (aggV [x,y]) []=some (aggV [x',y'],L'):=by
 have key:∀ a b:AV,zad [a,b]=none->aggV [a,b]=.agg [a,b]:=fun a b h=>by unfold aggV;rw [h]
 have hag:∀ a b c d:AV,zad [a,b]=none->zad [c,d]=none->zaH H1 H.nx (n+1) a []=some (c,L)->zaH H1 H.nx (n+1) b L=some (d,L')->zaH H1 H.nx (n+2) (aggV [a,b]) []=some (aggV [c,d],L'):=fun a b c d h1 h2 h3 h4=>by
  rw [key _ _ h1,key _ _ h2,zaH];simp only [zeP,h3,h4]
 rcases hx with ⟨rfl,rfl⟩|⟨id,rfl,hg⟩
 ·have ex:x'=.pure .nils/\L=[]:=by simp [zaH,PV.cold,PV.coldN] at ht;exact ⟨ht.1.symm,ht.2⟩
  obtain ⟨rfl,rfl⟩:=ex;rcases hy with ⟨rfl,rfl⟩|⟨id',rfl,hg'⟩
  ·have ey:y'=.pure .nils/\L'=[]:=by simp [zaH,PV.cold,PV.coldN] at ht';exact ⟨ht'.1.symm,ht'.2⟩
   obtain ⟨rfl,rfl⟩:=ey;simp [aggV,zad,zaH,PV.cold,PV.coldN]
  ·simp only [zaH,hg'] at ht'
   split at ht'
   ·simp only [Option.some.injEq,Prod.mk.injEq] at ht';obtain ⟨rfl,rfl⟩:=ht'
    refine hag _ _ _ _ rfl rfl ht ?_
    simp only [zaH,hg'];rw [if_pos (by assumption)]
   ·simp at ht'
 ·simp only [zaH,hg] at ht
  split at ht
  ·simp only [Option.some.injEq,Prod.mk.injEq] at ht;obtain ⟨rfl,rfl⟩:=ht
   refine hag _ _ _ _ rfl rfl ?_ ht'
   simp only [zaH,hg];rw [if_pos (by assumption)]
  ·simp at ht
theorem zp6 {f:Nat} {args:List AV} {ps:List PV} {P:List α->List β->PV->Prop} {k:AV->Heap->Prop} {u} (hp:zdG fc) (hq:zdG gc) (ha:FrzL H true zab args ps)
  (h:∃ v H1,Vm.call G n (.fn f) (ps.map .pure) Heap.empty=some (v,H1)/\∃ x y e l m,v=.tup [aggV [x,y],.pure e]/\e.cold=true/\OwnV fc sz H1 x l/\OwnV gc tz H1 y m/\(∀ id,Names x id->¬ Names y id)/\P l m e)
  (hk:∀ (x y:AV) (e:PV) (l:List α) (m:List β) (H2:Heap),P l m e->OwnV fc sz H2 x l->OwnV gc tz H2 y m->(∀ id,Names x id->H.nx<=id/\¬ Names y id)->(∀ id,Names y id->H.nx<=id)->H.nx<=H2.nx->(∀ i,i < H.nx->H2.get i=H.get i)->k (.tup [aggV [x,y],.pure e]) H2) :
  wpE 0 (zb6 (zq G n) H (.pure (.func f [])) args) H k u:=by
 obtain ⟨v,H1,hc,x,y,e,l,m,rfl,he,ho,hw,hxy,hP⟩:=h;obtain ⟨ids,hids⟩:=ha;obtain ⟨x',L,ht,⟨T,hT,hTn⟩,hO⟩:=zd0 hp ho H 1 [] (by simp);have hTL:L=T:=by simpa using hT
 obtain ⟨y',L',ht',⟨T',hT',_⟩,hO'⟩:=zd0 hq hw H 1 L (fun id hy hid=>hxy id (hTn id (hTL ▸ hid)) hy);obtain ⟨a1,a2⟩:=hO L' ⟨T',hT'⟩;obtain ⟨c1,c2⟩:=hO' L' ⟨[],by simp⟩;obtain ⟨b1,b2⟩:=zfn H H1 L'
 refine ⟨.upd (.tup [aggV [x',y'],.pure e]) (H.adopt H1 L'),?_,by simp,hk x' y' e l m _ hP a1 c1 (fun id hn=>⟨by have:=(a2 id hn).1;simpa using this,fun hy=>?_⟩) (fun id hn=>by have:=(c2 id hn).1;omega) b1 b2⟩
 ·have hc':(zq G n).run f (ps.map .pure) Heap.empty=some (.tup [aggV [x,y],.pure e],H1):=hc;have e1:zaH H1 H.nx 4 (.tup [aggV [x,y],.pure e]) []=some (.tup [aggV [x',y'],.pure e],L'):=by
   have e2:zaH H1 H.nx 3 (aggV [x,y]) []=some (aggV [x',y'],L'):=zh2 ho hw ht ht';rw [zaH];simp only [zeP,e2];simp [zaH,he]
  simp only [zb6,List.map_nil,List.append_nil,hids,hc',e1]
 ·have h1:=(a2 id hn).2;have h2:=(c2 id hy).1;omega
theorem zpT {f:Nat} {args:List AV} {ps:List PV} {P:List α->List β->Prop} {k:AV->Heap->Prop} {u} (hp:zdG fc) (hq:zdG gc) (ha:FrzL H true zab args ps)
  (h:∃ v H1,Vm.call G n (.fn f) (ps.map .pure) Heap.empty=some (v,H1)/\∃ x y l m,v=aggV [x,y]/\OwnV fc sz H1 x l/\OwnV gc tz H1 y m/\(∀ id,Names x id->¬ Names y id)/\P l m)
  (hk:∀ (x y:AV) (l:List α) (m:List β) (H2:Heap),P l m->OwnV fc sz H2 x l->OwnV gc tz H2 y m->(∀ id,Names x id->H.nx<=id/\¬ Names y id)->(∀ id,Names y id->H.nx<=id)->H.nx<=H2.nx->(∀ i,i < H.nx->H2.get i=H.get i)->k (aggV [x,y]) H2) :
  wpE 0 (zb6 (zq G n) H (.pure (.func f [])) args) H k u:=by
 obtain ⟨v,H1,hc,x,y,l,m,rfl,ho,hw,hxy,hP⟩:=h;obtain ⟨ids,hids⟩:=ha;obtain ⟨x',L,ht,⟨T,hT,hTn⟩,hO⟩:=zd0 hp ho H 2 [] (by simp);have hTL:L=T:=by simpa using hT
 obtain ⟨y',L',ht',⟨T',hT',_⟩,hO'⟩:=zd0 hq hw H 2 L (fun id hy hid=>hxy id (hTn id (hTL ▸ hid)) hy);obtain ⟨a1,a2⟩:=hO L' ⟨T',hT'⟩;obtain ⟨c1,c2⟩:=hO' L' ⟨[],by simp⟩;obtain ⟨b1,b2⟩:=zfn H H1 L'
 refine ⟨.upd (aggV [x',y']) (H.adopt H1 L'),?_,by simp,hk x' y' l m _ hP a1 c1 (fun id hn=>⟨by have:=(a2 id hn).1;simpa using this,fun hy=>?_⟩) (fun id hn=>by have:=(c2 id hn).1;omega) b1 b2⟩
 ·have hc':(zq G n).run f (ps.map .pure) Heap.empty=some (aggV [x,y],H1):=hc;have e2:zaH H1 H.nx 4 (aggV [x,y]) []=some (aggV [x',y'],L'):=zh2 ho hw ht ht';simp only [zb6,List.map_nil,List.append_nil,hids,hc',e2]
 ·have h1:=(a2 id hn).2;have h2:=(c2 id hy).1;omega
end
section
variable {α:Type} {f:α->List PV} {sz:Nat} {H:Heap} {l:List α}
theorem zes {bytes pre id:Nat} {b:AV} {k:AV->Heap->Prop} {u} (hb:zJ H sz b=some (zm f l,l.length)) (hid:H.get id=.cells true []) (hone:∀ a,(f a).all PV.one=true)
  (hm:l.length*sz<=zn/\l.length*bytes<=zn)
  (hk:∀ j H',H'.get j=.cells true (zm f l)->H.nx<=H'.nx->(∀ i,i < H.nx->H'.get i=H.get i)->(j=id\/H.nx<=j)->k (.row j sz 0 l.length) H'):wpE pre (zcA H sz bytes (.void id sz) b) H k u:=by
 have ho:=zdu hone l;simp only [zcA,hb,ho];simp only [Bool.not_true,Bool.false_eq_true,if_false,if_true]
 by_cases h0:l.length=0
 ·have hl:l=[]:=List.eq_nil_of_length_eq_zero h0;subst hl;rw [if_pos (show ([]:List α).length=0 from rfl),zfh];exact hk id _ (by rw [hid];rfl) (Nat.le_refl _) (fun _ _=>rfl) (.inl rfl)
 ·rw [if_neg h0,if_pos hm,zei];exact hk H.nx _ (zaf _) (Nat.le_succ _) (fun i hi=>zf hi) (.inr (Nat.le_refl _))
end
end Go.Proofs.Ytleggocccaeemaa.Vm
