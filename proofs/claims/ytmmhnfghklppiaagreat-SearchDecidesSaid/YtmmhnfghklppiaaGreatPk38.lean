/- Where a loop over the boxes stands that steps the points. Plain Lean. The specification's join and next, walked. What the specification's part gathers from the solutions of a part. Plain Lean. The specification's part, walked. Part after part: what the specification's Solve gathers. Plain Lean. The specification's Solve, walked. -/
import Derived.Test.YtmmhnfghklppiaaGreatPk36
import Derived.Test.YtmmhnfghklppiaaGreatPk20
import Derived.Test.YtmmhnfghklppiaaGreatPk37
import Derived.Test.YtmmhnfghklppiaaGreatPk9
import Derived.Test.YtmmhnfghklppiaaGreatPk23
import Derived.Test.YtmmhnfghklppiaaGreatPk26
namespace Go.Proofs.YtmmhnfghklppiaaGreat.Vm
open Go
set_option linter.unusedSimpArgs false
set_option linter.unusedVariables false
set_option maxHeartbeats 4000000
theorem zq3 {l:List Pt} {i:Nat} (h:i < l.length) (v:Int):zbO (.cells true (zn Pt.cells l)) 1 (i*2) [.pure (.int .i64 v)]=some (.cells true (zn Pt.cells (l.set i ⟨v,l[i].y⟩))) :=
 zcF (off:=0) (f:=Pt.cells) (sz:=2) (vs:=[.int .i64 v]) (b:=⟨v,l[i].y⟩) (fun _=>rfl) rfl (by decide) h (by decide) rfl rfl
theorem zlz {l:List Pt} {i:Nat} (h:i < l.length) (v:Int):zbO (.cells true (zn Pt.cells l)) 1 (i*2+1) [.pure (.int .i64 v)]=some (.cells true (zn Pt.cells (l.set i ⟨l[i].x,v⟩))) :=
 zcF (off:=1) (f:=Pt.cells) (sz:=2) (vs:=[.int .i64 v]) (b:=⟨l[i].x,v⟩) (fun _=>rfl) rfl (by decide) h (by decide) rfl rfl
def zoG (M:Int) (b:Box):Prop:=(-M<=b.x.lo/\b.x.lo<=M/\-M<=b.x.hi/\b.x.hi<=M)/\(-M<=b.y.lo/\b.y.lo<=M/\-M<=b.y.hi/\b.y.hi<=M)
structure AfterJ (l:List Box) (c:List Pt) (i:Nat) (t:List Pt):Prop where
 len:t.length=l.length
 val:t=(l.take i).map lowB++c.drop i
 res:zc8 l c=(zc8 (l.drop i) (c.drop i)).map fun u=>(l.take i).map lowB++u
theorem AfterJ.start {l:List Box} {c:List Pt} (h:c.length=l.length):AfterJ l c 0 c:=⟨h,by simp,by simp⟩
theorem AfterJ.cur {l:List Box} {c t:List Pt} {i:Nat} (h:AfterJ l c i t) (hi:i < l.length) (hc:c.length=l.length):∃ h':i < t.length,t[i]=c[i]:=by
 have ht:i < t.length:=by rw [h.len];exact hi
 refine ⟨ht,?_⟩
 have hl:((l.take i).map lowB).length=i:=by simp;omega
 have e:t[i]?=c[i]?:=by
  rw [h.val,List.getElem?_append_right (by omega),hl,Nat.sub_self,List.getElem?_drop];simp
 rw [List.getElem?_eq_getElem ht,List.getElem?_eq_getElem (by omega)] at e
 simpa using e
theorem AfterJ.setAt {l:List Box} {c t:List Pt} {i:Nat} (h:AfterJ l c i t) (hi:i < l.length) (hc:c.length=l.length) (p:Pt):t.set i p=(l.take i).map lowB++(p::c.drop (i+1)):=by
 have hl:((l.take i).map lowB).length=i:=by simp;omega
 rw [h.val,List.set_append_right _ _ (by omega),hl,Nat.sub_self,List.drop_eq_getElem_cons (show i < c.length by omega)];rfl
theorem AfterJ.stepX' {l:List Box} {c t:List Pt} {i:Nat} (h:AfterJ l c i t) (hi:i < l.length) (hc:c.length=l.length):zc8 l c=match zdX l[i] (c[i]'(by omega)) with
  | some q=>some (t.set i q)
  | none=>(zc8 (l.drop (i+1)) (c.drop (i+1))).map fun u=>(l.take (i+1)).map lowB++u:=by
 rw [h.res,List.drop_eq_getElem_cons hi,List.drop_eq_getElem_cons (show i < c.length by omega)];simp only [zc8]
 cases hs:zdX l[i] c[i] with
 | some q=>simp only [Option.map_some];rw [h.setAt hi hc]
 | none =>
  simp only [Option.map_map]
  congr 1
  funext u
  show (l.take i).map lowB++lowB l[i]::u=(l.take (i+1)).map lowB++u;rw [<- zaZ hi,List.map_append,List.append_assoc];rfl
theorem AfterJ.next {l:List Box} {c t:List Pt} {i:Nat} (h:AfterJ l c i t) (hi:i < l.length) (hc:c.length=l.length) (hs:zdX l[i] (c[i]'(by omega))=none):AfterJ l c (i+1) (t.set i (lowB l[i])):=by
 refine ⟨by simp [h.len],?_,?_⟩
 ·rw [h.setAt hi hc,<- zaZ hi,List.map_append,List.append_assoc];rfl
 ·rw [h.stepX' hi hc,hs]
theorem AfterJ.stop {l:List Box} {c t:List Pt} (h:AfterJ l c l.length t) (hc:c.length=l.length):zc8 l c=none:=by
 rw [h.res,List.drop_length,<- hc,List.drop_length];rfl
set_option maxRecDepth 4000
def zfF (b:Box) (p:Pt):Box:=⟨⟨min b.x.lo p.x,max b.x.hi p.x⟩,⟨min b.y.lo p.y,max b.y.hi p.y⟩⟩
theorem sh89:G.shared 89=false:=by decide
theorem e89 (n:Nat) (b:Box) (p:Pt):zH G (n+1) 89 [.agg b.cells,.agg p.cells]=some (.agg (zfF b p).cells):=by
 refine zy (zx _) rfl g89 rfl ?_
 (repeat' first|simp [*,za,c89,Box.cells,Span.cells,Pt.cells,zfF]|(apply zb<;>intro _ h<;>try simp [-Nat.le_zero_eq] at h))
theorem zec (t:List Pt) (part:List Nat):(pick t part).length=part.length:=by simp [pick]
theorem zdH {t:List Pt} {part:List Nat} {i:Nat} (h:i < part.length):(pick t part)[i]'(by rw [zec];exact h)=t[part[i]]! := by simp [pick]
theorem zrG {t:List Pt} {part:List Nat} {i:Nat} (hn:part.Nodup) (h:i < part.length) (hk:part[i] < t.length) (p:Pt):pick (t.set part[i] p) part=(pick t part).set i p:=by
 refine List.ext_getElem (by simp [zec]) fun j h1 h2=>?_
 have hj:j < part.length:=by rw [zec] at h1;exact h1
 rw [zdH hj,List.getElem_set]
 by_cases e:i=j
 ·subst e;rw [if_pos rfl,getElem!_pos _ _ (by simpa using hk),List.getElem_set_self]
 ·have hne:part[i]≠part[j]:=by
   rcases Nat.lt_or_gt_of_ne e with g|g
   ·exact List.pairwise_iff_getElem.1 hn i j h hj g
   ·exact fun x=>List.pairwise_iff_getElem.1 hn j i hj h g x.symm
  rw [if_neg e,zdH hj];simp only [List.getElem!_eq_getElem?_getD,List.getElem?_set_ne hne]
structure NextI (part:List Nat) (s t:List Pt):Prop where
 len:t.length=s.length
 out:∀ j,j ∉ part->t[j]! = s[j]!
theorem NextI.set {part:List Nat} {s t:List Pt} (h:NextI part s t) {k:Nat} (hk:k∈part) (p:Pt):NextI part s (t.set k p):=by
 refine ⟨by rw [List.length_set,h.len],fun j hj=>?_⟩
 rw [<- h.out j hj];have:k≠j:=fun e=>hj (e ▸ hk);simp only [List.getElem!_eq_getElem?_getD,List.getElem?_set_ne this]
def zS (l:List Box) (part:List Nat):List Box:=part.map fun i=>l[i]!
theorem zoD:G.shared 87=true:=by decide
theorem zjS {n:Nat} {H:Heap} {id:Nat} {l:Sl Box} {part:List Nat} {c:List Pt} {k:AV->Heap->Prop} (hg:H.get id=.cells true (zn Pt.cells c)) (hc:c.length=l.xs.length) (hb:∀ b∈l.xs,zoG 1048576 b) (hcb:∀ p∈c,okP p) (hlen:l.xs.length<=12)
  (np:part.length<=12) (hn:part.Nodup) (hi:∀ i∈part,i < l.xs.length) {m:Nat} (hm:m=l.xs.length)
  (hk:∀ b H' t,H.nx<=H'.nx->(∀ j,j < H.nx->j≠id->H'.get j=H.get j)->H'.get id=.cells true (zn Pt.cells t)->NextI part c t->(b=true->zc8 (zS l.xs part) (pick c part)=some (pick t part))->(b=false->zc8 (zS l.xs part) (pick c part)=none)->k (.pure (.bool b)) H') :
  ∃ v H',Vm.call G (n+1) (.fn 87) [.pure (l.pv Box.cells 4),.pure (.agg (za7 part)),.row id 2 0 m] H=some (v,H')/\k v H':=by
 subst hm
 refine zbY rfl g87 rfl ?_
 have hk:=Hide.mk hk;have hb:=Hide.mk hb;have hcb:=Hide.mk hcb;have hnH:=Hide.mk hn;have hiH:=Hide.mk hi;have hcH:=Hide.mk hc;have hpl:(zS l.xs part).length=part.length:=by simp [zS]
 have hcl:Hide ((pick c part).length=(zS l.xs part).length):=⟨by rw [zec,hpl]⟩
 have hplH:=Hide.mk hpl;have e1:(zM part).length=part.length:=zab part;clear hc hn hi hpl;(repeat' first|simp [*,za,c87,za7]|(apply zb<;>intro _ h<;>try simp [-Nat.le_zero_eq] at h))
 refine zB [(6,73)] (fun (i:Nat) env H'=>env 7=.pure (.int .i64 i)/\i<=part.length/\H.nx<=H'.nx/\Hide (∀ j,j < H.nx->j≠id->H'.get j=H.get j)/\∃ t,H'.get id=.cells true (zn Pt.cells t)/\Hide (NextI part c t)/\Hide (AfterJ (zS l.xs part) (pick c part) i (pick t part))) (fun i=>part.length - i) 0 ?_ ?_ ?_ ?_
 ·decide
 ·exact ⟨by simp,by omega,Nat.le_refl _,⟨fun _ _ _=>rfl⟩,c,hg,⟨⟨rfl,fun _ _=>rfl⟩⟩,⟨AfterJ.start hcl.h⟩⟩
 ·simp only [zz];omega
 have hidH:=zo hg;rintro i env H' ⟨g0,hi,hnx,hsame,t,hg',hN,hJ⟩
 by_cases hlt:i < part.length
 ·have w0:IntKind.i64.wrap ((i:Int)+1)=(i+1:Nat):=by rw [wrap64 (by omega) (by omega)];omega
  have hib:i < (zS l.xs part).length:=by rw [hplH.h];exact hlt
  obtain ⟨_,hti⟩:=hJ.h.cur hib hcl.h;obtain ⟨q,hq⟩:∃ q,part[i]=q:=⟨_,rfl⟩
  have hqm:q∈part:=hq ▸ List.getElem_mem hlt;have hql:=hiH.h q hqm;have hqt:q < t.length:=by rw [hN.h.len,hcH.h];exact hql
  have hqc:q < c.length:=by rw [hcH.h];exact hql
  have hjx:i < (zM part).length:=by rw [e1];exact hlt
  have gj:(zM part)[i]=(q:Int):=by simp [zM,hq]
  have hltI:(i:Int) < part.length:=by omega
  have hqI:(q:Int) < l.xs.length:=by omega
  have hqtI:(q:Int) < t.length:=by omega
  have hbx:(zS l.xs part)[i]=l.xs[q]:=by simp only [zS,List.getElem_map,hq];rw [getElem!_pos l.xs q hql]
  have hpt:∀ h,(pick t part)[i]'h=t[q]:=fun h=>by rw [zdH hlt,hq,getElem!_pos t q hqt]
  have hpc:∀ h,(pick c part)[i]'h=c[q]:=fun h=>by rw [zdH hlt,hq,getElem!_pos c q hqc]
  have hps:∀ p,(pick t part).set i p=pick (t.set q p) part:=fun p=>by subst hq;exact (zrG hnH.h hlt hqt p).symm
  rw [hpt,hpc] at hti;have hid:=zo hg';have p1:=zq3 hqt;have p2:=zlz hqt;obtain ⟨⟨o1,o2⟩,o3,o4⟩:=hcb.h _ (List.getElem_mem hqc);rw [<- hti] at o1 o2 o3 o4;have ob:=hb.h _ (List.getElem_mem hql);unfold zoG at ob;have w1:IntKind.i64.wrap (t[q].x+1)=t[q].x+1:=wrap64 (by omega) (by omega);have w2:IntKind.i64.wrap (t[q].y+1)=t[q].y+1:=wrap64 (by omega) (by omega);clear o1 o2 o3 o4 ob;have hst:=hJ.h.stepX' hib hcl.h;have hne:=hJ.h.next hib hcl.h;rw [hbx] at hst hne;rw [hpc] at hst hne;rw [<- hti] at hst hne;simp only [hps] at hst hne;have hNs:Hide (∀ p,NextI part c (t.set q p)):=⟨fun p=>hN.h.set hqm p⟩
  have hne1:id≠H'.nx:=by omega
  have hne2:H'.nx≠id:=by omega
  have p3:∀ v,zbO (.cells true (zn Pt.cells (t.set q ⟨l.xs[q].x.lo,t[q].y⟩))) 1 (q*2+1) [.pure (.int .i64 v)]=some (.cells true (zn Pt.cells (t.set q ⟨l.xs[q].x.lo,v⟩))):=fun v=>by
   have:=zlz (l:=t.set q ⟨l.xs[q].x.lo,t[q].y⟩) (i:=q) (by simpa using hqt) v;rw [List.set_set] at this
   simpa using this
  have q3:zcv (.cells true (zn Pt.cells (t.set q ⟨l.xs[q].x.lo,t[q].y⟩))) 1 (q*2+1)=some [.pure (.int .i64 t[q].y)]:=by
   rw [zC (f:=Pt.cells) (sz:=2) (fun _=>rfl) (by simpa using hqt) (by decide)];simp
  have gs:∀ o o' o1,(((H'.alloc o).set H'.nx o').set id o1).get id=o1:=fun o o' o1=>zq (by simp;omega);have gs2:∀ o o' o1 o2,((((H'.alloc o).set H'.nx o').set id o1).set id o2).get id=o2:=fun o o' o1 o2=>zq (by simp;omega);have hm2:∀ o o' o1,H.nx<=(((H'.alloc o).set H'.nx o').set id o1).nx:=fun o o' o1=>by simp;omega
  have hm3:∀ o o' o1 o2,H.nx<=((((H'.alloc o).set H'.nx o').set id o1).set id o2).nx:=fun o o' o1 o2=>by simp;omega
  have hs1:Hide (∀ o o' o1 j,j < H.nx->j≠id->(((H'.alloc o).set H'.nx o').set id o1).get j=H.get j):=⟨fun o o' o1 j h1 h2=>by rw [ze h2,ze (by omega),zh (by omega)];exact hsame.h j h1 h2⟩
  have hs2:Hide (∀ o o' o1 o2 j,j < H.nx->j≠id->((((H'.alloc o).set H'.nx o').set id o1).set id o2).get j=H.get j):=⟨fun o o' o1 o2 j h1 h2=>by rw [ze h2];exact hs1.h o o' o1 j h1 h2⟩
  have hk2:=Hide.mk hm2;have hk3:=Hide.mk hm3;clear hps hpt hpc hbx hti hJ hq hN hib hqm hm2 hm3
  by_cases hx:t[q].x < l.xs[q].x.hi
  ·have hs:zdX l.xs[q] t[q]=some ⟨t[q].x+1,t[q].y⟩:=by unfold zdX;rw [if_pos hx]
   rw [hs] at hst;have hst:=Hide.mk hst;clear hne hs;(repeat' first|simp [*,za,Box.cells,Span.cells,Pt.cells]|(apply zb<;>intro _ h<;>try simp [-Nat.le_zero_eq] at h));exact hk.h true _ (t.set q ⟨t[q].x+1,t[q].y⟩) (hk2.h _ _ _) (hs1.h _ _ _) (gs _ _ _) (hNs.h _) (fun _=>hst.h) (fun h=>by cases h)
  ·by_cases hy:t[q].y < l.xs[q].y.hi
   ·have hs:zdX l.xs[q] t[q]=some ⟨l.xs[q].x.lo,t[q].y+1⟩:=by unfold zdX;rw [if_neg hx,if_pos hy]
    rw [hs] at hst;have hst:=Hide.mk hst;clear hne hs;(repeat' first|simp [*,za,Box.cells,Span.cells,Pt.cells]|(apply zb<;>intro _ h<;>try simp [-Nat.le_zero_eq] at h));exact hk.h true _ (t.set q ⟨l.xs[q].x.lo,t[q].y+1⟩) (hk3.h _ _ _ _) (hs2.h _ _ _ _) (gs2 _ _ _ _) (hNs.h _) (fun _=>hst.h) (fun h=>by cases h)
   ·have hs:zdX l.xs[q] t[q]=none:=by unfold zdX;rw [if_neg hx,if_neg hy]
    have hne:=Hide.mk (hne hs);clear hst hs;(repeat' first|simp [*,za,Box.cells,Span.cells,Pt.cells]|(apply zb<;>intro _ h<;>try simp [-Nat.le_zero_eq] at h));exact ⟨i+1,by omega,by omega,by omega,by omega,⟨hs2.h _ _ _ _⟩,t.set q (lowB l.xs[q]),rfl,⟨hNs.h _⟩,hne⟩
 ·have hil:i=part.length:=by omega
  subst hil;have hJ':=hJ.h;rw [<- hplH.h] at hJ';have hst:=Hide.mk (hJ'.stop hcl.h);clear hJ hJ';(repeat' first|simp [*,za]|(apply zb<;>intro _ h<;>try simp [-Nat.le_zero_eq] at h));exact hk.h false _ t hnx hsame.h hg' hN.h (fun h=>by cases h) (fun _=>hst.h)
def zlj:List Pt->Box
 | []=>⟨⟨0,0⟩,⟨0,0⟩⟩
 | x::xs=>xs.foldl zfF (atB x)
theorem zoa {l:List Pt} (h:l≠[]) (x:Pt):zlj (l++[x])=zfF (zlj l) x:=by
 cases l with
 | nil=>exact absurd rfl h
 | cons y l=>simp [zlj,List.foldl_append]
theorem zsE (p:Pt):zfF (atB p) p=atB p:=by simp [zfF,atB]
def hX (h0:List Box) (part:List Nat) (S:List (List Pt)) (k:Nat):Box:=if S=[] then h0[part[k]!]! else zlj (S.map fun c=>c[k]!)
def oX (o0:List Pt) (part:List Nat) (S:List (List Pt)) (k:Nat):Pt:=match S with
 | []=>o0[part[k]!]!
 | c::_=>c[k]!
structure PartG (part:List Nat) (h0:List Box) (o0:List Pt) (T:Nat->List (List Pt)) (hb:List Box) (on:List Pt):Prop where
 hl:hb.length=h0.length
 ol:on.length=o0.length
 hout:∀ i,i ∉ part->hb[i]! = h0[i]!
 oout:∀ i,i ∉ part->on[i]! = o0[i]!
 hat:∀ k (h:k < part.length),hb[part[k]]! = hX h0 part (T k) k
 oat:∀ k (h:k < part.length),on[part[k]]! = oX o0 part (T k) k
def midT (S:List (List Pt)) (c:List Pt) (j:Nat):Nat->List (List Pt):=fun k=>if k < j then S++[c] else S
section
variable {part:List Nat} {h0 hb:List Box} {o0 on:List Pt} {S:List (List Pt)} {c:List Pt} {j:Nat}
theorem PartG.start:PartG part h0 o0 (fun _=>[]) h0 o0:=⟨rfl,rfl,fun _ _=>rfl,fun _ _=>rfl,fun k h=>by simp [hX,h],fun k h=>by simp [oX,h]⟩
theorem zgz {α:Type} [Inhabited α] (l:List α) (i:Nat) (x:α) (j:Nat):(l.set i x)[j]! = if i=j/\i < l.length then x else l[j]! := by
 simp only [List.getElem!_eq_getElem?_getD,List.getElem?_set]
 split
 ·rename_i e;subst e
  split
  ·rename_i h;simp [h]
  ·rename_i h;simp [h]
 ·rename_i e;simp [e]
theorem zlC (hn:part.Nodup) {i k:Nat} (hi:i < part.length) (hk:k < part.length) (e:i≠k):part[i]≠part[k]:=by
 rcases Nat.lt_or_gt_of_ne e with g|g
 ·exact List.pairwise_iff_getElem.1 hn i k hi hk g
 ·exact fun x=>List.pairwise_iff_getElem.1 hn k i hk hi g x.symm
theorem PartG.put (hn:part.Nodup) {T T':Nat->List (List Pt)} (h:PartG part h0 o0 T hb on) (hj:j < part.length) (hi:part[j] < hb.length) (hi2:part[j] < on.length) (hT:∀ k,k≠j->T' k=T k) {x:Box} {y:Pt} (hx:x=hX h0 part (T' j) j) (hy:y=oX o0 part (T' j) j):PartG part h0 o0 T' (hb.set part[j] x) (on.set part[j] y):=by
 have hm:part[j]∈part:=List.getElem_mem hj
 refine ⟨by rw [List.length_set,h.hl],by rw [List.length_set,h.ol],fun i hi'=>?_,fun i hi'=>?_,fun k hk=>?_,fun k hk=>?_⟩
 ·rw [zgz,if_neg (fun (e:part[j]=i/\_)=>hi' (e.1 ▸ hm))];exact h.hout i hi'
 ·rw [zgz,if_neg (fun (e:part[j]=i/\_)=>hi' (e.1 ▸ hm))];exact h.oout i hi'
 ·rw [zgz]
  by_cases e:j=k
  ·subst e;rw [if_pos ⟨rfl,hi⟩,hx]
  ·rw [if_neg (fun (g:_/\_)=>zlC hn hj hk e g.1),hT k fun g=>e g.symm];exact h.hat k hk
 ·rw [zgz]
  by_cases e:j=k
  ·subst e;rw [if_pos ⟨rfl,hi2⟩,hy]
  ·rw [if_neg (fun (g:_/\_)=>zlC hn hj hk e g.1),hT k fun g=>e g.symm];exact h.oat k hk
theorem zrk {k:Nat} (h:k≠j):midT S c (j+1) k=midT S c j k:=by
 unfold midT
 by_cases g:k < j
 ·rw [if_pos g,if_pos (by omega)]
 ·rw [if_neg g,if_neg (by omega)]
theorem zkA:midT S c (j+1) j=S++[c]:=by simp [midT]
theorem zs9:midT S c j j=S:=by simp [midT]
theorem PartG.first (hn:part.Nodup) (h:PartG part h0 o0 (midT [] c j) hb on) (hj:j < part.length) (hi:part[j] < hb.length) (hi2:part[j] < on.length):PartG part h0 o0 (midT [] c (j+1)) (hb.set part[j] (atB c[j]!)) (on.set part[j] c[j]!) :=
 h.put hn hj hi hi2 (fun k hk=>zrk hk) (by rw [zkA];simp [hX,zlj]) (by rw [zkA];simp [oX])
theorem zr5 {α:Type} [Inhabited α] {l:List α} {i:Nat}:l.set i l[i]! = l:=by
 by_cases h:i < l.length
 ·rw [getElem!_pos l i h];exact List.set_getElem_self ..
 ·exact List.set_eq_of_length_le (by omega)
theorem PartG.more (hn:part.Nodup) (hS:S≠[]) (h:PartG part h0 o0 (midT S c j) hb on) (hj:j < part.length) (hi:part[j] < hb.length) (hi2:part[j] < on.length):PartG part h0 o0 (midT S c (j+1)) (hb.set part[j] (zfF hb[part[j]]! c[j]!)) on:=by
 have h1:=h.hat j hj;have h2:=h.oat j hj;rw [zs9] at h1 h2;have:=h.put (T':=midT S c (j+1)) (x:=zfF hb[part[j]]! c[j]!) (y:=on[part[j]]!) hn hj hi hi2 (fun k hk=>zrk hk) (by
  rw [zkA,h1];unfold hX;rw [if_neg hS,if_neg (by simp),List.map_append,List.map_singleton,zoa (by simpa using hS)]) (by
  rw [zkA,h2]
  cases S with
  | nil=>exact absurd rfl hS
  | cons a S=>rfl)
 rwa [zr5] at this
theorem PartG.mid (h:PartG part h0 o0 (fun _=>S) hb on):PartG part h0 o0 (midT S c 0) hb on :=
 ⟨h.hl,h.ol,h.hout,h.oout,fun k hk=>by simpa [midT] using h.hat k hk,fun k hk=>by simpa [midT] using h.oat k hk⟩
theorem PartG.done (h:PartG part h0 o0 (midT S c part.length) hb on):PartG part h0 o0 (fun _=>S++[c]) hb on :=
 ⟨h.hl,h.ol,h.hout,h.oout,fun k hk=>by simpa [midT,hk] using h.hat k hk,fun k hk=>by simpa [midT,hk] using h.oat k hk⟩
end
def okR (facts:List Fact) (l:List Box) (part:List Nat) (c:List Pt):Bool:=(zbJ facts part).all fun f=>!zJ f (za6 part c l)
structure PartL (facts:List Fact) (l:List Box) (part:List Nat) (h0:List Box) (o0:List Pt) (rest:List (List Pt)) (n:Nat) (hb:List Box) (on t:List Pt):Prop where
 len:t.length=o0.length
 nx:NextI part o0 t
 pre:∃ done,done++rest=allX (zS l part)/\n=(done.filter (okR facts l part)).length/\PartG part h0 o0 (fun _=>done.filter (okR facts l part)) hb on
 run:∀ c r,rest=c::r->Runs (zc8 (zS l part)) c rest/\pick t part=c
theorem NextI.trans {part:List Nat} {a b c:List Pt} (h:NextI part a b) (h2:NextI part b c):NextI part a c:=⟨h2.len.trans h.len,fun j hj=>(h2.out j hj).trans (h.out j hj)⟩
theorem zsY {α:Type} {f:α->Option α} {c:α} {rest:List α} (h:Runs f c (c::rest)):(f c=none/\rest=[])\/∃ t r2,f c=some t/\rest=t::r2/\Runs f t rest:=by
 cases h with
 | last _ h=>exact .inl ⟨h,rfl⟩
 | step _ b _ h hl =>
  cases hl with
  | last _ h2=>exact .inr ⟨b,[],h,rfl,.last _ h2⟩
  | step _ b2 l2 h2 hl2=>exact .inr ⟨b,_,h,rfl,.step _ _ _ h2 hl2⟩
theorem zrQ {α:Type} {f:α->Option α} {a:α} {l:List α} (h:Runs f a l):∃ r,l=a::r:=by
 cases h with
 | last a h=>exact ⟨[],rfl⟩
 | step a b l h hl=>exact ⟨l,rfl⟩
theorem PartL.start {facts:List Fact} {l:List Box} {part:List Nat} {h0:List Box} {o0:List Pt} (hw:Wf (zS l part)) (hlo:pick o0 part=(zS l part).map lowB):PartL facts l part h0 o0 (allX (zS l part)) 0 h0 o0 o0 :=
 ⟨rfl,⟨rfl,fun _ _=>rfl⟩,⟨[],rfl,rfl,PartG.start⟩,fun c r e=>by
  have h:=zhU hw;obtain ⟨r2,e2⟩:=zrQ h;rw [e] at e2;simp only [List.cons.injEq] at e2;rw [hlo,<- e2.1];rw [<- e2.1] at h;exact ⟨h,rfl⟩⟩
theorem PartL.next {facts:List Fact} {l:List Box} {part:List Nat} {h0 hb hb':List Box} {o0 on on' t t' c:List Pt} {rest:List (List Pt)} {n n':Nat} (h:PartL facts l part h0 o0 (c::rest) n hb on t) {done:List (List Pt)} (e:done++(c::rest)=allX (zS l part)) (hn:n=(done.filter (okR facts l part)).length) (hG:PartG part h0 o0 (fun _=>done.filter (okR facts l part)) hb on)
  (hg:if okR facts l part c=true then (n'=n+1/\PartG part h0 o0 (fun _=>done.filter (okR facts l part)++[c]) hb' on') else (n'=n/\hb'=hb/\on'=on))
  {b:Bool} (hN:NextI part t t') (h1:b=true->zc8 (zS l part) c=some (pick t' part)) (h2:b=false->zc8 (zS l part) c=none):b=!rest.isEmpty/\PartL facts l part h0 o0 rest n' hb' on' t':=by
 have hpre:∃ done,done++rest=allX (zS l part)/\n'=(done.filter (okR facts l part)).length/\PartG part h0 o0 (fun _=>done.filter (okR facts l part)) hb' on':=by
  refine ⟨done++[c],by rw [<- e];simp,?_,?_⟩
  ·rw [List.filter_append,List.length_append,<- hn]
   cases ho:okR facts l part c with
   | true=>rw [if_pos ho] at hg;simp [ho,hg.1]
   | false=>rw [if_neg (by simp [ho])] at hg;simp [ho,hg.1]
  ·rw [List.filter_append]
   cases ho:okR facts l part c with
   | true=>rw [if_pos ho] at hg;simpa [ho] using hg.2
   | false=>rw [if_neg (by simp [ho])] at hg;rw [hg.2.1,hg.2.2];simpa [ho] using hG
 have hr:=(h.run c rest rfl).1;have hlen:t'.length=o0.length:=hN.len.trans h.len;rcases zsY hr with ⟨hn,rfl⟩|⟨u,r2,hs,rfl,hr2⟩
 ·cases b with
  | true=>rw [h1 rfl] at hn;simp at hn
  | false=>exact ⟨rfl,hlen,h.nx.trans hN,hpre,fun c' r' e=>by simp at e⟩
 ·cases b with
  | false=>rw [h2 rfl] at hs;simp at hs
  | true =>
   have e:pick t' part=u:=by rw [h1 rfl] at hs;simpa using hs
   refine ⟨rfl,hlen,h.nx.trans hN,hpre,fun c' r' e'=>?_⟩
   simp only [List.cons.injEq] at e';obtain ⟨rfl,rfl⟩:=e';exact ⟨hr2,e⟩
theorem zh2 {l:List Box} {part:List Nat} {c:List Pt} (hc:c∈allX (zS l part)):c.length=part.length/\∀ k (h:k < part.length) (h':k < c.length),inB' c[k] l[part[k]]! := by
 obtain ⟨h1,h2⟩:=mem_allX.1 hc;have e:(zS l part).length=part.length:=by simp [zS]
 exact ⟨by rw [h1,e],fun k h h'=>by have:=h2 k (by rw [e];exact h) h';simpa [zS] using this⟩
theorem zrn {l:List Box} {part:List Nat} {o0 t c:List Pt} (hN:NextI part o0 t) (hc:c∈allX (zS l part)) (hp:pick t part=c) (ho:∀ p∈o0,okP p) (hv:∀ b∈l,zan b=true) (hi:∀ i∈part,i < l.length) (hol:o0.length=l.length):∀ p∈t,okP p:=by
 intro p hp';obtain ⟨j,hj,rfl⟩:=List.getElem_of_mem hp'
 by_cases hm:j∈part
 ·obtain ⟨k,hk,rfl⟩:=List.getElem_of_mem hm;obtain ⟨h1,h2⟩:=zh2 hc;have hkc:k < c.length:=by rw [h1];exact hk
  have:=h2 k hk hkc;have e:c[k]=t[part[k]]:=by subst hp;rw [zdH hk,getElem!_pos t _ hj]
  rw [e,getElem!_pos l _ (hi _ hm)] at this;have hb:=valid_iff.1 (hv _ (List.getElem_mem (hi _ hm)));unfold inB' at this;unfold okP;omega
 ·have:=hN.out j hm;have hj2:j < o0.length:=by rw [<- hN.len];exact hj
  rw [getElem!_pos t j hj,getElem!_pos o0 j hj2] at this;rw [this];exact ho _ (List.getElem_mem hj2)
theorem zs8:G.shared 43=true:=by decide
structure PartIn (p:Problem) (l:Sl Box) (part:List Nat) (o0:List Pt):Prop where
 nf:p.facts.xs.length<=60
 nl:l.xs.length<=12
 np:part.length<=12
 pos:0 < part.length
 nd:part.Nodup
 lt:∀ i∈part,i < l.xs.length
 val:∀ b∈l.xs,zan b=true
 form:∀ f∈p.facts.xs,zaa f l.xs.length=true
 wi:∀ f∈p.facts.xs,f.a.toNat∈part->Within part f
 vol:(allX (zS l.xs part)).length<=65536
 ol:o0.length=l.xs.length
 ok:∀ q∈o0,okP q
 low:pick o0 part=(zS l.xs part).map lowB
 wf:Wf (zS l.xs part)
def zbR (p:Problem) (l:Sl Box) (part:List Nat):List (List Pt):=(allX (zS l.xs part)).filter (okR p.facts.xs l.xs part)
structure FoundR (H:Heap) (F iH iO:Nat) (e:Int) (vN:AV) (N:List Int) (hb:List Box) (on:List Pt) (m:Nat):Prop where
 f:H.get F=.cells true [.pure (.int .i64 e),vN,.row iH 4 0 m,.row iO 2 0 m]
 n:GrowV intF 1 H vN N
 h:H.get iH=.cells true (zn Box.cells hb)
 o:H.get iO=.cells true (zn Pt.cells on)
 fh:F≠iH
 fo:F≠iO
 ho:iH≠iO
 nF:¬ Names vN F
 nH:¬ Names vN iH
 nO:¬ Names vN iO
structure FoundK (H H':Heap) (F iH iO:Nat) (vN:AV):Prop where
 nx:H.nx<=H'.nx
 get:∀ j,j < H.nx->j≠F->j≠iH->j≠iO->¬ Names vN j->H'.get j=H.get j
theorem FoundR.at2 {H H2:Heap} {F iH iO m:Nat} {e:Int} {vN:AV} {N:List Int} {hb:List Box} {on:List Pt} {o:AObj} (hF:FoundR H F iH iO e vN N hb on m) (hget:∀ id,id < (H.alloc o).nx->¬ Names vN id->H2.get id=(H.alloc o).get id):H2.get F=.cells true [.pure (.int .i64 e),vN,.row iH 4 0 m,.row iO 2 0 m]:=by
 have:=zo hF.f;rw [hget F (by simp;omega) hF.nF,zh this,hF.f]
theorem FoundR.grow {H H2:Heap} {F iH iO m:Nat} {e:Int} {vN v2:AV} {N N2:List Int} {hb:List Box} {on:List Pt} {o:AObj} (hF:FoundR H F iH iO e vN N hb on m) (hv:GrowV intF 1 H2 v2 N2) (hnx:(H.alloc o).nx<=H2.nx) (hget:∀ id,id < (H.alloc o).nx->¬ Names vN id->H2.get id=(H.alloc o).get id) (hnew:∀ id,Names v2 id->(H.alloc o).nx<=id) (e':Int) :
  FoundR (H2.set F (.cells true [.pure (.int .i64 e'),v2,.row iH 4 0 m,.row iO 2 0 m])) F iH iO e' v2 N2 hb on m/\FoundK H (H2.set F (.cells true [.pure (.int .i64 e'),v2,.row iH 4 0 m,.row iO 2 0 m])) F iH iO vN:=by
 have h1:=zo hF.f;have h2:=zo hF.h;have h3:=zo hF.o;simp only [zam] at hnx hget hnew;have nF:¬ Names v2 F:=fun h=>by have:=hnew F h;omega
 have nH:¬ Names v2 iH:=fun h=>by have:=hnew iH h;omega
 have nO:¬ Names v2 iO:=fun h=>by have:=hnew iO h;omega
 refine ⟨⟨zq (by omega),hv.set nF _,?_,?_,hF.fh,hF.fo,hF.ho,nF,nH,nO⟩,⟨by simp;omega,fun j hj a1 a2 a3 a4=>?_⟩⟩
 ·rw [ze (Ne.symm hF.fh),hget iH (by omega) hF.nH,zh h2,hF.h]
 ·rw [ze (Ne.symm hF.fo),hget iO (by omega) hF.nO,zh h3,hF.o]
 ·rw [ze a1,hget j (by omega) a4,zh hj]
theorem zko {n:Nat} {H:Heap} {F iH iO m:Nat} {e:Int} {vN:AV} {N:List Int} {hb:List Box} {on:List Pt} {p:Problem} {l:Sl Box} {k0:Nat} {k:AV->Heap->Prop} (hF:FoundR H F iH iO e vN N hb on m) (nf:p.facts.xs.length<=60) (hk0:k0 < l.xs.length) (hv:∀ b∈l.xs,zan b=true) (hnm:zeI p.facts.xs (k0:Nat)=false) (hN:N.length<=12)
  (hk:∀ H' vN',FoundR H' F iH iO e vN' (N++[zaT l.xs[k0]!]) hb on m->FoundK H H' F iH iO vN->k (.tup []) H') :
  ∃ v H',Vm.call G (n+4) (.fn 43) [.box F 0,.pure (.agg p.cells),.pure (l.pv Box.cells 4),.pure (.agg (za7 [k0]))] H=some (v,H')/\k v H':=by
 refine zbY rfl g43 rfl ?_
 obtain ⟨bs,fs⟩:=p;have hk:=Hide.mk hk;have hvv:=hv _ (List.getElem_mem hk0);rw [getElem!_pos l.xs k0 hk0] at hk;have h1:=fun H=>zf (G:=G) (n:=n+3) (H:=H) (caps:=[]) (ps:=[.agg (Problem.mk bs fs).cells,.int .i64 (k0:Int)]) sh84 (e84 (n+2) ⟨bs,fs⟩ (k0:Int) nf);have h2:=fun H=>zf (G:=G) (n:=n+3) (H:=H) (caps:=[]) (ps:=[.agg l.xs[k0].cells]) sh85 (e85 (n+2) l.xs[k0] hvv);rw [hnm] at h1;simp only [Problem.cells,Box.cells,Span.cells,List.map_cons,List.map_nil] at h1 h2;have hvN:GrowV intF 1 H vN N:=hF.n;have hf:=hF.f;have hidF:=zo hF.f;have hidH:=zo hF.h;have hidO:=zo hF.o;have hFF:=Hide.mk hF;have hkI:(k0:Int) < l.xs.length:=by omega
 have ha0:zc5 1 (.pure ((Sl.mk false (zM [k0])).pv intF 1)) (.pure (.int .i64 0))=some (.val (.pure (.ptr false [.int .i64 (k0:Int)] 0))):=by
  have:=zax (k:=.i64) (n:=0) (f:=intF) (sz:=1) (s:=Sl.mk false (zM [k0])) (by simp [zM]);have e:(Sl.mk false (zM [k0])).xs[0]'(by simp [zM])=(k0:Int):=by simp [zM]
  rw [e] at this;exact this
 clear hnm hF hv hvv;(repeat' first|simp [*,za,c43,Problem.cells,za7,Box.cells,Span.cells]|(apply zb<;>intro _ h<;>try simp [-Nat.le_zero_eq] at h)|(show wpE 0 (zi ..) ..;refine zm ?_)|(refine zg fun v2 H2 hv2 hnx2 hget2 hnew2 hone2 hcel2=>?_));have g2:=hFF.h.at2 hget2;have hg:=hFF.h.grow hv2 hnx2 hget2 hnew2 e;have hg:=Hide.mk hg;have hid2:=zo g2;clear hget2 hnew2 hFF;(repeat' first|simp [*,za]|(apply zb<;>intro _ h<;>try simp [-Nat.le_zero_eq] at h)|(show wpE 0 (zi ..) ..;refine zm ?_)|(refine zg fun v2 H2 hv2 hnx2 hget2 hnew2 hone2 hcel2=>?_));exact hk.h _ _ hg.h.1 hg.h.2
theorem zir {α:Type} {f g:α->Bool}:∀ {l:List α},(∀ a∈l,f a=g a)->l.all f=l.all g
 | [],_=>rfl
 | a::l,h=>by rw [List.all_cons,List.all_cons,h a List.mem_cons_self,zir fun b hb=>h b (List.mem_cons_of_mem _ hb)]
theorem FoundR.to {H H':Heap} {F iH iO m:Nat} {e:Int} {vN:AV} {N:List Int} {hb hb':List Box} {on on':List Pt} (hF:FoundR H F iH iO e vN N hb on m) (hk:∀ j,j < H.nx->j≠iH->j≠iO->H'.get j=H.get j) (g1:H'.get iH=.cells true (zn Box.cells hb')) (g2:H'.get iO=.cells true (zn Pt.cells on')):FoundR H' F iH iO e vN N hb' on' m:=by
 have h1:=zo hF.f
 refine ⟨by rw [hk F h1 hF.fh hF.fo,hF.f],⟨hF.n.1.keep fun i ⟨n,hi⟩=>?_,hF.n.2⟩,g1,g2,hF.fh,hF.fo,hF.ho,hF.nF,hF.nH,hF.nO⟩
 exact hk i (hF.n.1.names_lt ⟨_,_,_,hi⟩) (fun g=>hF.nH (g ▸ ⟨_,_,_,hi⟩)) (fun g=>hF.nO (g ▸ ⟨_,_,_,hi⟩))
theorem FoundR.keep {H H':Heap} {F iH iO m:Nat} {e:Int} {vN:AV} {N:List Int} {hb:List Box} {on:List Pt} (hF:FoundR H F iH iO e vN N hb on m) (hk:∀ j,j < H.nx->H'.get j=H.get j):FoundR H' F iH iO e vN N hb on m :=
 hF.to (fun j hj _ _=>hk j hj) (by rw [hk _ (zo hF.h),hF.h]) (by rw [hk _ (zo hF.o),hF.o])
structure PartH (H H':Heap) (F iH iO iP:Nat) (e:Int) (vN:AV) (N:List Int) (hb:List Box) (on t:List Pt) (m:Nat):Prop where
 fr:FoundR H' F iH iO e vN N hb on m
 p:H'.get iP=.cells true (zn Pt.cells t)
 nx:H.nx<=H'.nx
 lt:H.nx<=iP
 same:∀ j,j < H.nx->j≠F->j≠iH->j≠iO->H'.get j=H.get j
 lF:F < H.nx
 lH:iH < H.nx
 lO:iO < H.nx
theorem PartH.to {H H1 H2:Heap} {F iH iO iP m:Nat} {e:Int} {vN:AV} {N:List Int} {hb hb':List Box} {on on' t t':List Pt} (h:PartH H H1 F iH iO iP e vN N hb on t m) (hnx:H1.nx<=H2.nx) (hk:∀ j,j < H1.nx->j≠iH->j≠iO->j≠iP->H2.get j=H1.get j) (hv:∀ i,Names vN i->i < H.nx) (g1:H2.get iH=.cells true (zn Box.cells hb')) (g2:H2.get iO=.cells true (zn Pt.cells on')) (g3:H2.get iP=.cells true (zn Pt.cells t')):PartH H H2 F iH iO iP e vN N hb' on' t' m:=by
 have:=h.lt;have:=h.lF;have:=h.nx
 refine ⟨?_,g3,by omega,h.lt,fun j hj a b c=>?_,h.lF,h.lH,h.lO⟩
 ·refine ⟨?_,⟨h.fr.n.1.keep fun i ⟨n,hi⟩=>?_,h.fr.n.2⟩,g1,g2,h.fr.fh,h.fr.fo,h.fr.ho,h.fr.nF,h.fr.nH,h.fr.nO⟩
  ·rw [hk F (by omega) h.fr.fh h.fr.fo (by omega),h.fr.f]
  ·have hl:=hv i ⟨_,_,_,hi⟩;exact hk i (by omega) (fun g=>h.fr.nH (g ▸ ⟨_,_,_,hi⟩)) (fun g=>h.fr.nO (g ▸ ⟨_,_,_,hi⟩)) (by omega)
 ·rw [hk j (by omega) b c (by omega),h.same j hj a b c]
theorem zuo {p:Problem} {l:Sl Box} {part:List Nat} {o0 t c:List Pt} (hp:PartIn p l part o0) (hN:NextI part o0 t) (hpk:pick t part=c):((zbJ p.facts.xs part).all fun f=>!zJ f (t.map atB))=okR p.facts.xs l.xs part c:=by
 unfold okR
 refine zir fun f hf=>?_
 have hf':=List.mem_filter.1 hf;have hm:f.a.toNat∈part:=by
  have:=hf'.2;unfold inL at this;obtain ⟨k,hk,hk2⟩:=List.any_eq_true.1 this;simp only [decide_eq_true_eq] at hk2;rw [hk2,Int.toNat_natCast];exact hk
 subst hpk;rw [zeM (facts:=p.facts.xs) (hN.len.trans hp.ol) hp.nd hp.lt (hp.wi f hf'.1 hm)]
theorem zt5 {p:Problem} {l:Sl Box} {part:List Nat} {o0 t:List Pt} (hp:PartIn p l part o0) (hN:NextI part o0 t) (ho:∀ q∈t,okP q):∀ f∈zbJ p.facts.xs part,ROk f (t.map atB):=fun f hf=>by
 have hf':=List.mem_filter.1 hf
 refine zoO ?_
 unfold zis;rw [Bool.and_eq_true,List.all_eq_true]
 refine ⟨fun b hb=>?_,by rw [List.length_map,hN.len,hp.ol];exact hp.form f hf'.1⟩
 obtain ⟨q,hq,rfl⟩:=List.mem_map.1 hb;have:=ho q hq;unfold okP at this;rw [valid_iff];simp only [atB];omega
theorem FoundR.setE {H:Heap} {F iH iO m:Nat} {e:Int} {vN:AV} {N:List Int} {hb:List Box} {on:List Pt} (hF:FoundR H F iH iO e vN N hb on m) (e':Int):FoundR (H.set F (.cells true [.pure (.int .i64 e'),vN,.row iH 4 0 m,.row iO 2 0 m])) F iH iO e' vN N hb on m :=
 ⟨zq (zo hF.f),hF.n.set hF.nF _,by rw [ze (Ne.symm hF.fh),hF.h],by rw [ze (Ne.symm hF.fo),hF.o],hF.fh,hF.fo,hF.ho,hF.nF,hF.nH,hF.nO⟩
theorem FoundK.setE {H H':Heap} {F iH iO:Nat} {vN:AV} (h:FoundK H H' F iH iO vN) (o:AObj):FoundK H (H'.set F o) F iH iO vN:=⟨by simpa using h.nx,fun j hj a b c d=>by rw [ze a];exact h.get j hj a b c d⟩
theorem PartH.found {H H' H2:Heap} {F iH iO iP:Nat} {e:Int} {vN:AV} {N:List Int} {hb:List Box} {on t:List Pt} {m:Nat} (h:PartH H H' F iH iO iP e vN N hb on t m) (h2:FoundK H' H2 F iH iO vN):FoundK H H2 F iH iO vN :=
 ⟨Nat.le_trans h.nx h2.nx,fun j hj a b c d=>by rw [h2.get j (Nat.lt_of_lt_of_le hj h.nx) a b c d,h.same j hj a b c]⟩
theorem znj {n:Nat} {H:Heap} {F iH iO m:Nat} {e:Int} {vN:AV} {N:List Int} {h0:List Box} {o0:List Pt} {p:Problem} {l:Sl Box} {part:List Nat} {k:AV->Heap->Prop} (hF:FoundR H F iH iO e vN N h0 o0 m) (hm:m=l.xs.length) (hp:PartIn p l part o0) (h0l:h0.length=l.xs.length) (hnm:zeI p.facts.xs (part[0]'hp.pos:Nat)=true) (hN:N.length<=12)
  (hk:∀ H' vN' hb on,FoundR H' F iH iO (if zbR p l part=[] then 9 else e) vN' (N++[((zbR p l part).length:Int)]) hb on m->FoundK H H' F iH iO vN->PartG part h0 o0 (fun _=>zbR p l part) hb on->k (.tup []) H') :
  ∃ v H',Vm.call G (n+4) (.fn 43) [.box F 0,.pure (.agg p.cells),.pure (l.pv Box.cells 4),.pure (.agg (za7 part))] H=some (v,H')/\k v H':=by
 refine zbY rfl g43 rfl ?_
 subst hm;have hk:=Hide.mk hk;have nf:=hp.nf;have np:=hp.np;have nl:=hp.nl;have e1:(zM part).length=part.length:=zab part;have h1:=fun H=>zf (G:=G) (n:=n+3) (H:=H) (caps:=[]) (ps:=[.agg p.cells,.int .i64 (part[0]'hp.pos:Nat)]) sh84 (e84 (n+2) p (part[0]'hp.pos:Nat) nf);have h2:=fun H=>zf (G:=G) (n:=n+3) (H:=H) (caps:=[]) (ps:=[.agg p.cells,.agg (za7 part)]) sh86 (e86 (n+2) p part nf np hp.nd);rw [hnm] at h1;obtain ⟨q0,hq0⟩:∃ q,part[0]'hp.pos=q:=⟨_,rfl⟩
 rw [hq0] at h1;obtain ⟨s0,hs0⟩:∃ s:Sl Fact,s=Sl.of (zbJ p.facts.xs part):=⟨_,rfl⟩
 rw [<- hs0] at h2;have hs0H:=Hide.mk hs0;clear hs0;obtain ⟨x1,hx1⟩:∃ x,p.boxes.pv Box.cells 4=x:=⟨_,rfl⟩
 obtain ⟨x2,hx2⟩:∃ x,p.facts.pv Fact.cells 9=x:=⟨_,rfl⟩
 simp only [za7,Problem.cells,hx1,hx2,List.map_cons,List.map_nil] at h1 h2;have hpos:=hp.pos;have hj0:0 < (zM part).length:=by rw [e1];exact hpos
 have ha0:zc5 1 (.pure ((Sl.mk false (zM part)).pv intF 1)) (.pure (.int .i64 0))=some (.val (.pure (.ptr false [.int .i64 (q0:Nat)] 0))):=by
  have:=zax (k:=.i64) (n:=0) (f:=intF) (sz:=1) (s:=Sl.mk false (zM part)) hj0;have e:(Sl.mk false (zM part)).xs[0]'hj0=(q0:Nat):=by simp [zM,hq0]
  rw [e] at this;exact this
 have hf:=hF.f;have ho:=hF.o;have hidF:=zo hF.f;have hidH:=zo hF.h;have hidO:=zo hF.o;have hFF:=Hide.mk hF;have hpH:=Hide.mk hp;have h0H:=Hide.mk h0l;have hol:=hp.ol;have hsl:zL (H.alloc (.cells true [])) 2 (.row iO 2 0 l.xs.length)=some (zn Pt.cells o0,o0.length):=by
  rw [<- hol,zhu (own:=true) (cs:=zn Pt.cells o0) (by rw [zh hidO];exact ho) (by rw [zas (sz:=2) (fun _=>rfl)];exact Nat.le_refl _),List.take_of_length_le (by rw [zas (sz:=2) (fun _=>rfl)];exact Nat.le_refl _)]
 clear hnm hF hp h0l hq0;(repeat' first|simp [*,za,c43,za7,Problem.cells]|(apply zb<;>intro _ h<;>try simp [-Nat.le_zero_eq] at h)|(show wpE 0 (zi ..) ..;refine zm ?_)|(refine zg fun v2 H2 hv2 hnx2 hget2 hnew2 hone2 hcel2=>?_))
 refine zcl (f:=Pt.cells) (l:=[]) (m:=o0) (.inr ⟨H.nx,rfl,by simp [zn]⟩) (fun _=>rfl) (by decide) (fun _=>rfl) hsl (by simp [zu];omega) ?_
 intro v3 H3 ho3 hnx3 hget3 hnew3;have hne:o0≠[]:=fun g=>by
  have hq:=hpH.h.lt _ (List.getElem_mem hpos);rw [g] at hol;simp at hol;omega
 obtain ⟨iP,rfl,hgP⟩:=ho3.row (by simpa using hne);rw [List.nil_append] at hgP;have hPl:H.nx<=iP:=by
  rcases hnew3 iP ⟨_,_,_,rfl⟩ with ⟨_,_,_,g⟩|g
  ·simp at g;omega
  ·simp at g;omega
 have hk3:∀ j,j < H.nx->H3.get j=H.get j:=fun j hj=>by
  rw [hget3 j (by simp;omega) (fun ⟨_,_,_,g⟩=>by simp at g;omega),zh hj]
 have hPH:Hide (PartH H H3 F iH iO iP e vN N h0 o0 o0 l.xs.length):=⟨⟨hFF.h.keep hk3,hgP,by simp at hnx3;omega,hPl,fun j hj _ _ _=>hk3 j hj,hidF,hidH,hidO⟩⟩
 have hvl:Hide (∀ i,Names vN i->i < H.nx):=⟨fun i hi=>hFF.h.n.1.names_lt hi⟩
 have hPL:Hide (PartL p.facts.xs l.xs part h0 o0 (allX (zS l.xs part)) 0 h0 o0 o0):=⟨PartL.start hpH.h.wf hpH.h.low⟩
 have hex:(allX (zS l.xs part)).isEmpty=false:=by
  have:=(zhU hpH.h.wf).ne
  cases hh:allX (zS l.xs part) with
  | nil=>exact absurd hh this
  | cons a b=>rfl
 rw [List.nil_append,hol];clear ho3 hgP hPl hk3 hsl hget3 hnew3 hf ho h1 h2 ha0;(repeat' first|simp [*,za]|(apply zb<;>intro _ h<;>try simp [-Nat.le_zero_eq] at h)|(show wpE 0 (zi ..) ..;refine zm ?_)|(refine zg fun v2 H2 hv2 hnx2 hget2 hnew2 hone2 hcel2=>?_))
 refine zB [(11,15),(50,132)] (fun (rest:List (List Pt)) env H'=>env 12=.pure (.bool (!rest.isEmpty))/\∃ (n:Nat) (hb:List Box) (on t:List Pt),env 11=.pure (.int .i64 n)/\Hide (PartH H H' F iH iO iP e vN N hb on t l.xs.length)/\Hide (PartL p.facts.xs l.xs part h0 o0 rest n hb on t)) (fun rest=>rest.length) (allX (zS l.xs part)) ?_ ?_ ?_ ?_
 ·decide
 ·exact ⟨by simp [hex],0,h0,o0,o0,by simp,hPH,hPL⟩
 ·have:=hpH.h.vol;simp only [zz];omega
 clear hPH hPL hex;rintro rest env H4 ⟨g12,nS,hb,on,t,g11,hPH,hPL⟩
 cases rest with
 | nil =>
  obtain ⟨done,hd,hn0,hG0⟩:=hPL.h.pre;rw [List.append_nil] at hd;subst hd;have hn:nS=(zbR p l part).length:=hn0;have hG:=Hide.mk (show PartG part h0 o0 (fun _=>zbR p l part) hb on from hG0);clear hn0 hG0;have g12:env 12=.pure (.bool false):=by simpa using g12
  have hf:=hPH.h.fr.f;have hid4:=zo hf;have hvN:GrowV intF 1 H4 vN N:=hPH.h.fr.n;have hnH:=Hide.mk hn;have hnB:(nS:Int) < 100000:=by
   have h1:=hpH.h.vol;have h2:(zbR p l part).length<=(allX (zS l.xs part)).length:=List.length_filter_le _ _;omega
  clear hn hPL;(repeat' first|simp [*,za]|(apply zb<;>intro _ h<;>try simp [-Nat.le_zero_eq] at h)|(show wpE 0 (zi ..) ..;refine zm ?_)|(refine zg fun v2 H2 hv2 hnx2 hget2 hnew2 hone2 hcel2=>?_));have g2:=hPH.h.fr.at2 hget2;have hg:=hPH.h.fr.grow hv2 hnx2 hget2 hnew2 e;have hgK:=Hide.mk (hPH.h.found hg.2);have hg:=Hide.mk hg.1;have hid2:=zo g2;clear hget2 hnew2 hFF hPH
  by_cases hz:nS=0
  ·subst hz;have hS:zbR p l part=[]:=List.eq_nil_of_length_eq_zero hnH.h.symm;(repeat' first|simp [*,za]|(apply zb<;>intro _ h<;>try simp [-Nat.le_zero_eq] at h)|(show wpE 0 (zi ..) ..;refine zm ?_)|(refine zg fun v2 H2 hv2 hnx2 hget2 hnew2 hone2 hcel2=>?_))
   refine hk.h _ v2 hb on ?_ (hgK.h.setE _) hG.h
   rw [if_pos hS];have:=hg.h.setE 9;rw [hS]
   simpa using this
  ·have hS:zbR p l part≠[]:=fun g=>hz (by rw [hnH.h,g];rfl);have hzI:¬ (nS:Int)=0:=by omega
   (repeat' first|simp [*,za]|(apply zb<;>intro _ h<;>try simp [-Nat.le_zero_eq] at h)|(show wpE 0 (zi ..) ..;refine zm ?_)|(refine zg fun v2 H2 hv2 hnx2 hget2 hnew2 hone2 hcel2=>?_))
   refine hk.h _ v2 hb on ?_ hgK.h hG.h
   rw [if_neg hS,<- hnH.h];exact hg.h
 | cons c rest =>
  obtain ⟨done,hd,hn0,hG0⟩:=hPL.h.pre;obtain ⟨hrun,hpk⟩:=hPL.h.run c rest rfl;have hc:c∈allX (zS l.xs part):=by rw [<- hd];simp
  have hokP:=zrn hPL.h.nx hc hpk hpH.h.ok hpH.h.val hpH.h.lt hpH.h.ol;have htl:t.length=l.xs.length:=hPL.h.len.trans hpH.h.ol;have hnB:(nS:Int) < 100000:=by
   have h1:=hpH.h.vol;have h2:(done.filter (okR p.facts.xs l.xs part)).length<=done.length:=List.length_filter_le _ _;have h3:done.length+(c::rest).length=(allX (zS l.xs part)).length:=by rw [<- hd,List.length_append]
   omega
  have hcl:=(zh2 hc).1;obtain ⟨S,hS⟩:∃ S,done.filter (okR p.facts.xs l.xs part)=S:=⟨_,rfl⟩
  have hdH:=Hide.mk hd;have hn2:=Hide.mk hn0;have hG2:=Hide.mk hG0;rw [hS] at hn0 hG0;have hn1:=Hide.mk hn0;have hG1:=Hide.mk hG0;have hSH:=Hide.mk hS;clear hn0 hG0;have hHo:=zt5 hpH.h hPL.h.nx hokP;have hoR:=zuo hpH.h hPL.h.nx hpk;have hbx:=Hide.mk (show ∀ b∈l.xs,zoG 1048576 b from fun b hb=>by have:=valid_iff.1 (hpH.h.val b hb);unfold zoG;omega);obtain ⟨s1,hs1,hf1⟩:=zcX (n:=10) (f:=Pt.cells) (sz:=2) (fun _=>rfl) hPH.h.p htl;have hsa:s0.xs=zbJ p.facts.xs part:=by rw [hs0H.h,Sl.xs_of]
  have hal:(zbJ p.facts.xs part).length < 1000:=by
   have:(zbJ p.facts.xs part).length<=p.facts.xs.length:=List.length_filter_le _ _;omega
  have hc1:=e88 (n+1) s0 s1 (by rw [hsa,hs1];exact hHo) (by rw [hsa];exact hal);rw [hsa,hs1,hoR] at hc1;have g12:env 12=.pure (.bool true):=by simpa using g12
  have hokH:=Hide.mk hokP;have hpkH:=Hide.mk hpk;clear hHo hoR hs1 hsa hd hS hrun hc hpk hokP htl;(repeat' first|simp [*,za]|(apply zb<;>intro _ h<;>try simp [-Nat.le_zero_eq] at h)|(show wpE 0 (zi ..) ..;refine zm ?_)|(refine zg fun v2 H2 hv2 hnx2 hget2 hnew2 hone2 hcel2=>?_))
  refine zda (caps:=[]) (ps:=[_,_]) (by decide) (.cons (.pure _) (.cons hf1 .nil)) hc1 rfl ?_
  clear hc1 hf1
  cases hok:okR p.facts.xs l.xs part c with
  | false =>
   (repeat' first|simp [*,za]|(apply zb<;>intro _ h<;>try simp [-Nat.le_zero_eq] at h)|(show wpE 0 (zi ..) ..;refine zm ?_)|(refine zg fun v2 H2 hv2 hnx2 hget2 hnew2 hone2 hcel2=>?_))
   refine zdj zoD ?_
   refine zjS hPH.h.p (hPL.h.len.trans hpH.h.ol) hbx.h hokH.h nl np hpH.h.nd hpH.h.lt rfl ?_
   intro b H5 t2 hnx5 hsame5 hgt5 hN5 hb1 hb2;rw [hpkH.h] at hb1 hb2;obtain ⟨hbr,hPL2⟩:=hPL.h.next (n':=nS) (hb':=hb) (on':=on) hdH.h hn2.h hG2.h (by rw [if_neg (by simp [hok])];exact ⟨rfl,rfl,rfl⟩) hN5 hb1 hb2;have hPL2:=Hide.mk hPL2;have hlt:=hPH.h.lt;have hlH:=hPH.h.lH;have hlO:=hPH.h.lO;have hPH2:Hide (PartH H H5 F iH iO iP e vN N hb on t2 l.xs.length):=⟨hPH.h.to hnx5 (fun j hj _ _ c=>hsame5 j hj c) hvl.h (by rw [hsame5 iH (zo hPH.h.fr.h) (by omega)];exact hPH.h.fr.h) (by rw [hsame5 iO (zo hPH.h.fr.o) (by omega)];exact hPH.h.fr.o) hgt5⟩
   clear hb1 hb2 hgt5 hN5 hsame5 hPL hPH hn1 hG1 hn2 hG2 hokH hpkH hok;subst hbr;(repeat' first|simp [*,za]|(apply zb<;>intro _ h<;>try simp [-Nat.le_zero_eq] at h)|(show wpE 0 (zi ..) ..;refine zm ?_)|(refine zg fun v2 H2 hv2 hnx2 hget2 hnew2 hone2 hcel2=>?_));exact ⟨rest,by simp,by simp,nS,rfl,hb,on,t2,hPH2,hPL2⟩
  | true =>
   have hPG:Hide (PartG part h0 o0 (midT S c 0) hb on):=⟨hG1.h.mid⟩
   have htc:Hide (∀ j (h:j < part.length),c[j]! = t[part[j]]!):=⟨fun j h=>by
    rw [<- hpkH.h,getElem!_pos (pick t part) j (by rw [zec];exact h),zdH h]⟩
   have htl:=hPL.h.len.trans hpH.h.ol;(repeat' first|simp [*,za]|(apply zb<;>intro _ h<;>try simp [-Nat.le_zero_eq] at h)|(show wpE 0 (zi ..) ..;refine zm ?_)|(refine zg fun v2 H2 hv2 hnx2 hget2 hnew2 hone2 hcel2=>?_))
   refine zB [(14,15),(60,130)] (fun (j:Nat) env H'=>env 14=.pure (.int .i64 j)/\j<=part.length/\∃ (hb:List Box) (on:List Pt),Hide (PartH H H' F iH iO iP e vN N hb on t l.xs.length)/\Hide (PartG part h0 o0 (midT S c j) hb on)) (fun j=>part.length - j) 0 ?_ ?_ ?_ ?_
   ·decide
   ·exact ⟨by simp,by omega,hb,on,hPH,hPG⟩
   ·simp only [zz];omega
   clear hPG;rintro j env2 H5 ⟨g14,hj,hb2,on2,hPH2,hPG2⟩
   by_cases hjl:j < part.length
   ·have w1:IntKind.i64.wrap ((j:Int)+1)=(j+1:Nat):=by rw [wrap64 (by omega) (by omega)];omega
    obtain ⟨q,hq⟩:∃ q,part[j]=q:=⟨_,rfl⟩
    have hql:q < l.xs.length:=hq ▸ hpH.h.lt _ (List.getElem_mem hjl);have hqt:q < t.length:=by omega
    have hbl:hb2.length=l.xs.length:=hPG2.h.hl.trans h0H.h;have onl:on2.length=l.xs.length:=hPG2.h.ol.trans hol;have hqb:q < hb2.length:=by omega
    have hqo:q < on2.length:=by omega
    have hjx:j < (zM part).length:=by omega
    have gj:(zM part)[j]=(q:Int):=by simp [zM,hq]
    have hjI:(j:Int) < part.length:=by omega
    have hqI:(q:Int) < l.xs.length:=by omega
    have hcj:c[j]! = t[q]:=by rw [htc.h j hjl,hq,getElem!_pos t q hqt]
    have hf:=hPH2.h.fr.f;have hh:=hPH2.h.fr.h;have ho:=hPH2.h.fr.o;have hP:=hPH2.h.p;have i1:=zo hf;have i2:=zo hh;have i3:=zo ho;have i4:=zo hP;have hlt:=hPH2.h.lt;have hlF:=hPH2.h.lF;have hlH:=hPH2.h.lH;have hlO:=hPH2.h.lO;have n1:=hPH2.h.fr.fh;have n2:=hPH2.h.fr.fo;have n3:=hPH2.h.fr.ho;have n4:iP≠iH:=by omega
    have n5:iP≠iO:=by omega
    have pO:=za0 (f:=Pt.cells) (sz:=2) (l:=on2) (a:=t[q]) (fun _=>rfl) (fun _=>rfl) (by decide) hqo;have pH1:=fun b=>za0 (f:=Box.cells) (sz:=4) (l:=hb2) (a:=b) (fun _=>rfl) (fun _=>rfl) (by decide) hqb;have pH2:=fun b=>za0 (f:=Box.cells) (sz:=4) (l:=hb2.set q (atB t[q])) (i:=q) (a:=b) (fun _=>rfl) (fun _=>rfl) (by decide) (by simpa using hqb);simp only [List.set_set] at pH2;have lH:zcv (.cells true (zn Box.cells (hb2.set q (atB t[q])))) 4 (q*4)=some ((atB t[q]).cells.map .pure):=by
     have:=zC (own:=true) (f:=Box.cells) (sz:=4) (size:=4) (off:=0) (l:=hb2.set q (atB t[q])) (i:=q) (fun _=>rfl) (by simpa using hqb) (by decide);rw [List.getElem_set_self] at this
     simpa [Box.cells,Span.cells] using this
    have hjn:=fun b H=>zf (G:=G) (n:=n+3) (H:=H) (caps:=[]) (ps:=[.agg (Box.cells b),.agg t[q].cells]) sh89 (e89 (n+2) b t[q]);have hs2:Hide (∀ hb',PartH H (H5.set iH (.cells true (zn Box.cells hb'))) F iH iO iP e vN N hb' on2 t l.xs.length):=⟨fun hb'=>hPH2.h.to (by simp) (fun j hj a b c=>ze a) hvl.h (zq i2) (by rw [ze (Ne.symm n3)];exact ho) (by rw [ze n4];exact hP)⟩
    have hs3:Hide (∀ o hb' on',PartH H (((H5.set iH o).set iO (.cells true (zn Pt.cells on'))).set iH (.cells true (zn Box.cells hb'))) F iH iO iP e vN N hb' on' t l.xs.length):=⟨fun o hb' on'=>hPH2.h.to (by simp) (fun j hj a b c=>by rw [ze a,ze b,ze a]) hvl.h (zq (by simpa using i2)) (by rw [ze (Ne.symm n3)];exact zq (by simpa using i3)) (by rw [ze n4,ze n5,ze n4];exact hP)⟩
    have r1:∀ o,(H5.set iH o).get F=H5.get F:=fun o=>ze n1;have r2:∀ o o',((H5.set iH o).set iO o').get F=H5.get F:=fun o o'=>by rw [ze n2,ze n1]
    have r3:∀ o o',((H5.set iH o).set iO o').get iH=o:=fun o o'=>by rw [ze n3];exact zq i2
    have r4:∀ o,(H5.set iH o).get iP=H5.get iP:=fun o=>ze n4;have r5:∀ o o',((H5.set iH o).set iO o').get iP=H5.get iP:=fun o o'=>by rw [ze n5,ze n4]
    have r6:∀ o,(H5.set iH o).get iO=H5.get iO:=fun o=>ze (Ne.symm n3);clear hPH2 hlt hlF hlH hlO
    by_cases hz:nS=0
    ·subst hz;have hSe:S=[]:=List.eq_nil_of_length_eq_zero hn1.h.symm;clear hSH;subst hSe;have hG:=Hide.mk (hPG2.h.first hpH.h.nd hjl (by rw [hq];exact hqb) (by rw [hq];exact hqo));rw [hcj,hq] at hG;have hjn2:=hjn (atB t[q]);rw [zsE] at hjn2;have pH3:=pH1 (atB t[q]);have pH4:=pH2 (atB t[q]);simp only [atB,Box.cells,Span.cells,Pt.cells,List.map_cons,List.map_nil] at hjn2 pH3 pH4 lH pO;have g11:env 11=.pure (.int .i64 0):=by simpa using g11
     clear hPG2 hq hcj hs2 hjn pH1 pH2 hPL hnB hG1 hn1 hn2 hG2;(repeat' first|simp [*,za,Box.cells,Span.cells,Pt.cells]|(apply zb<;>intro _ h<;>try simp [-Nat.le_zero_eq] at h)|(show wpE 0 (zi ..) ..;refine zm ?_)|(refine zg fun v2 H2 hv2 hnx2 hget2 hnew2 hone2 hcel2=>?_));exact ⟨j+1,by omega,by omega,by omega,_,_,⟨hs3.h _ _ _⟩,hG⟩
    ·have hSn:S≠[]:=fun g=>hz (by rw [hn1.h,g];rfl);have hG:=Hide.mk (hPG2.h.more hpH.h.nd hSn hjl (by rw [hq];exact hqb) (by rw [hq];exact hqo));rw [hcj] at hG;simp only [hq] at hG;rw [getElem!_pos hb2 q hqb] at hG;have hjn2:=hjn hb2[q];have pH3:=pH1 (zfF hb2[q] t[q]);simp only [Box.cells,Span.cells,Pt.cells,List.map_cons,List.map_nil] at hjn2 pH3;clear hjn pH1;generalize zfF hb2[q] t[q]=jb at *;have hzI:¬ (nS:Int)=0:=by omega
     clear hPG2 hq hcj hs3 pH2 lH pO r1 r2 r3 r4 r5 r6;(repeat' first|simp [*,za,Box.cells,Span.cells,Pt.cells]|(apply zb<;>intro _ h<;>try simp [-Nat.le_zero_eq] at h)|(show wpE 0 (zi ..) ..;refine zm ?_)|(refine zg fun v2 H2 hv2 hnx2 hget2 hnew2 hone2 hcel2=>?_));exact ⟨j+1,by omega,by omega,by omega,_,_,⟨hs2.h _⟩,hG⟩
   ·have hjp:j=part.length:=by omega
    subst hjp;have hGd:=hPG2.h.done;rw [<- hSH.h] at hGd;have w1:IntKind.i64.wrap ((nS:Int)+1)=(nS+1:Nat):=by rw [wrap64 (by omega) (by omega)];omega
    have hGd:=Hide.mk hGd;(repeat' first|simp [*,za]|(apply zb<;>intro _ h<;>try simp [-Nat.le_zero_eq] at h)|(show wpE 0 (zi ..) ..;refine zm ?_)|(refine zg fun v2 H2 hv2 hnx2 hget2 hnew2 hone2 hcel2=>?_))
    refine zdj zoD ?_
    refine zjS hPH2.h.p (hPL.h.len.trans hpH.h.ol) hbx.h hokH.h nl np hpH.h.nd hpH.h.lt rfl ?_
    intro b H6 t2 hnx5 hsame5 hgt5 hN5 hb1 hb3;rw [hpkH.h] at hb1 hb3;obtain ⟨hbr,hPL2⟩:=hPL.h.next (n':=nS+1) (hb':=hb2) (on':=on2) hdH.h hn2.h hG2.h (by rw [if_pos hok];exact ⟨rfl,hGd.h⟩) hN5 hb1 hb3;have hPL2:=Hide.mk hPL2;have hlt:=hPH2.h.lt;have hlH:=hPH2.h.lH;have hlO:=hPH2.h.lO;have hPH3:Hide (PartH H H6 F iH iO iP e vN N hb2 on2 t2 l.xs.length):=⟨hPH2.h.to hnx5 (fun j hj _ _ c=>hsame5 j hj c) hvl.h (by rw [hsame5 iH (zo hPH2.h.fr.h) (by omega)];exact hPH2.h.fr.h) (by rw [hsame5 iO (zo hPH2.h.fr.o) (by omega)];exact hPH2.h.fr.o) hgt5⟩
    clear hb1 hb3 hgt5 hN5 hsame5 hPL hPH hPH2 hPG2 hn1 hG1 hn2 hG2 hokH hpkH hok htc;subst hbr;(repeat' first|simp [*,za]|(apply zb<;>intro _ h<;>try simp [-Nat.le_zero_eq] at h)|(show wpE 0 (zi ..) ..;refine zm ?_)|(refine zg fun v2 H2 hv2 hnx2 hget2 hnew2 hone2 hcel2=>?_));exact ⟨rest,by simp,by simp,nS+1,rfl,hb2,on2,t2,hPH3,hPL2⟩
def numR (p:Problem) (l:Sl Box) (g:List Nat):Int:=if 1 < g.length then ((zbR p l g).length:Int) else zaT l.xs[g[0]!]!
def badR (p:Problem) (l:Sl Box) (g:List Nat):Bool:=decide (1 < g.length)&&(zbR p l g).isEmpty
def zox (p:Problem) (l:Sl Box) (g:List Nat) (k:Nat):Box:=if 1 < g.length then hX l.xs g (zbR p l g) k else l.xs[g[k]!]!
def oneR (p:Problem) (l:Sl Box) (g:List Nat) (k:Nat):Pt:=if 1 < g.length then oX (l.xs.map lowB) g (zbR p l g) k else lowB l.xs[g[k]!]!
structure SolveJ (p:Problem) (l:Sl Box) (ps:List (List Nat)) (i:Nat) (e:Int) (N:List Int) (hb:List Box) (on:List Pt):Prop where
 e:e=if (ps.take i).any (badR p l)=true then 9 else 0
 n:N=(ps.take i).map (numR p l)
 hl:hb.length=l.xs.length
 ol:on.length=l.xs.length
 at_:∀ g∈ps.take i,∀ k (h:k < g.length),hb[g[k]]! = zox p l g k/\on[g[k]]! = oneR p l g k
 rest:∀ g∈ps.drop i,∀ x∈g,hb[x]! = l.xs[x]! /\ on[x]! = lowB l.xs[x]!
theorem zg2 {ps:List (List Nat)} (h:ps.flatten.Nodup) {i j:Nat} (hi:i < ps.length) (hj:j < ps.length) (hij:i≠j) {x:Nat} (hx:x∈ps[i]):x ∉ ps[j]:=fun hy=>by
 have hp:=(List.pairwise_flatten.1 h).2;rcases Nat.lt_or_gt_of_ne hij with g|g
 ·exact List.pairwise_iff_getElem.1 hp i j hi hj g x hx x hy rfl
 ·exact List.pairwise_iff_getElem.1 hp j i hj hi g x hy x hx rfl
theorem SolveJ.start {p:Problem} {l:Sl Box} {ps:List (List Nat)} (hx:∀ g∈ps,∀ x∈g,x < l.xs.length):SolveJ p l ps 0 0 [] l.xs (l.xs.map lowB) :=
 ⟨rfl,rfl,rfl,by simp,fun g hg=>by simp at hg,fun g hg x hxg=>⟨rfl,by
  have:=hx g (by simpa using hg) x hxg;rw [getElem!_pos (l.xs.map lowB) x (by simpa using this),getElem!_pos l.xs x this,List.getElem_map]⟩⟩
section
variable {p:Problem} {l:Sl Box} {ps:List (List Nat)} {i:Nat} {e:Int} {N:List Int} {hb hb':List Box} {on on':List Pt}
theorem zns {α:Type} {l:List α} {i:Nat} {a:α} (h:a∈l.take i):∃ j,∃ (hj:j < l.length),j < i/\l[j]=a:=by
 obtain ⟨j,hj,e⟩:=List.getElem_of_mem h;rw [List.length_take] at hj;exact ⟨j,by omega,by omega,by rw [<- e,List.getElem_take]⟩
theorem znN {α:Type} {l:List α} {i:Nat} {a:α} (h:a∈l.drop i):∃ j,∃ (hj:j < l.length),i<=j/\l[j]=a:=by
 obtain ⟨j,hj,e⟩:=List.getElem_of_mem h;rw [List.length_drop] at hj;exact ⟨i+j,by omega,by omega,by rw [<- e,List.getElem_drop]⟩
theorem SolveJ.named (h:SolveJ p l ps i e N hb on) (hd:ps.flatten.Nodup) (hi:i < ps.length) (h1:1 < ps[i].length) (hlt:∀ x∈ps[i],x < l.xs.length) (hG:PartG ps[i] hb on (fun _=>zbR p l ps[i]) hb' on'):SolveJ p l ps (i+1) (if zbR p l ps[i]=[] then 9 else e) (N++[((zbR p l ps[i]).length:Int)]) hb' on':=by
 have hin:ps[i]∈ps.drop i:=by rw [List.drop_eq_getElem_cons hi];exact List.mem_cons_self
 have hr:=h.rest _ hin
 refine ⟨?_,?_,hG.hl.trans h.hl,hG.ol.trans h.ol,fun g hg k hk=>?_,fun g hg x hx=>?_⟩
 ·rw [<- zaZ hi,List.any_append,h.e];have:badR p l ps[i]=(zbR p l ps[i]).isEmpty:=by simp [badR,h1]
  by_cases hs:zbR p l ps[i]=[]
  ·simp [this,hs]
  ·rw [if_neg hs];simp [this,hs]
 ·rw [<- zaZ hi,List.map_append,h.n];simp [numR,h1]
 ·rw [<- zaZ hi,List.mem_append] at hg;rcases hg with hg|hg
  ·obtain ⟨j,hj,hji,e⟩:=zns hg;have hn:g[k] ∉ ps[i]:=zg2 hd hj hi (by omega) (e ▸ List.getElem_mem hk);rw [hG.hout _ hn,hG.oout _ hn];exact h.at_ g hg k hk
  ·simp only [List.mem_singleton] at hg;subst hg;have hb1:=hr _ (List.getElem_mem hk);have hlk:=hlt _ (List.getElem_mem hk);rw [hG.hat k hk,hG.oat k hk];unfold zox oneR;rw [if_pos h1,if_pos h1]
   constructor
   ·unfold hX;rw [getElem!_pos ps[i] k hk,hb1.1]
   ·unfold oX
    cases zbR p l ps[i] with
    | nil =>
     simp only;rw [getElem!_pos ps[i] k hk,hb1.2,getElem!_pos (l.xs.map lowB) _ (by simpa using hlk),List.getElem_map,getElem!_pos l.xs _ hlk]
    | cons a b=>rfl
 ·obtain ⟨j,hj,hji,e⟩:=znN hg;have hn:x ∉ ps[i]:=zg2 hd hj hi (by omega) (e ▸ hx);rw [hG.hout _ hn,hG.oout _ hn]
  refine h.rest g ?_ x hx
  rw [List.drop_eq_getElem_cons hi];exact List.mem_cons_of_mem _ hg
theorem SolveJ.alone (h:SolveJ p l ps i e N hb on) (hi:i < ps.length) (h1:ps[i].length=1) {k0:Nat} (hk:ps[i]=[k0]):SolveJ p l ps (i+1) e (N++[zaT l.xs[k0]!]) hb on:=by
 have hin:ps[i]∈ps.drop i:=by rw [List.drop_eq_getElem_cons hi];exact List.mem_cons_self
 have hr:=h.rest _ hin
 refine ⟨?_,?_,h.hl,h.ol,fun g hg k hk'=>?_,fun g hg x hx=>h.rest g ?_ x hx⟩
 ·rw [<- zaZ hi,List.any_append,h.e];simp [badR,h1]
 ·rw [<- zaZ hi,List.map_append,h.n];simp [numR,hk]
 ·rw [<- zaZ hi,List.mem_append] at hg;rcases hg with hg|hg
  ·exact h.at_ g hg k hk'
  ·simp only [List.mem_singleton] at hg;subst hg;have hb1:=hr _ (List.getElem_mem hk');unfold zox oneR;rw [if_neg (by omega),if_neg (by omega),getElem!_pos ps[i] k hk'];exact hb1
 ·rw [List.drop_eq_getElem_cons hi];exact List.mem_cons_of_mem _ hg
end
theorem zqx {l:List Box} {part:List Nat} (hn:part.Nodup):(allX (zS l part)).length=(allC l part).length:=by
 refine ziB (zfM _) (zf3 _ _) fun c=>?_
 rw [mem_allX,zgk];have e:(zS l part).length=part.length:=by simp [zS]
 constructor
 ·rintro ⟨h1,h2⟩;exact ⟨by rw [h1,e],fun k h h'=>by have:=h2 k (by rw [e];exact h) h';simpa [zS] using this⟩
 ·rintro ⟨h1,h2⟩
  refine ⟨by rw [h1,e],fun k h h'=>?_⟩
  rw [e] at h
  simpa [zS] using h2 k h h'
theorem ztW {p:Problem} (ok:CheckOk p) {l:List Box} (hr:IsNar zZ p.facts.xs p.boxes.xs (some l)) {m:Nat->Nat} (hm:IsCls (zak p.facts.xs) p.boxes.xs.length m) {i:Nat} {e:Int} {N:List Int} {hb:List Box} {on:List Pt} (hi:i < (zK m p.boxes.xs.length).length) (hv:volP l (zK m p.boxes.xs.length)[i]<=65536) (h1:1 < (zK m p.boxes.xs.length)[i].length) (hJ:SolveJ p (Sl.mk false l) (zK m p.boxes.xs.length) i e N hb on) (hok:∀ q∈on,okP q):PartIn p (Sl.mk false l) (zK m p.boxes.xs.length)[i] on:=by
 have hl:l.length=p.boxes.xs.length:=hr.1.sub.1;have hd:=zbq hm (zaR ok);have hpo:=zbS m p.boxes.xs.length;have hin:=List.getElem_mem hi;obtain ⟨hnd,hlt⟩:=hd.one _ hin;have hval:=zaQ ok hr.1.sub hr.1.wf;have hwf:Wf l:=hr.1.wf;have nb:=ok.nb;have hlt':∀ x∈(zK m p.boxes.xs.length)[i],x < l.length:=fun x hx=>by rw [hl];exact hlt x hx
 refine ⟨ok.nf,by rw [Sl.xs_mk];omega,by have:=(hpo.2 _ hin).1;omega,by omega,hnd,by rw [Sl.xs_mk];exact hlt',by rw [Sl.xs_mk];exact hval,fun f hf=>?_,fun f hf ha=>hd.within f hf _ hin ha,?_,by rw [hJ.ol],hok,?_,?_⟩
 ·rw [Sl.xs_mk,hl];exact ok.fact f hf
 ·rw [Sl.xs_mk,zqx hnd];unfold volP at hv;rw [if_pos h1] at hv;have:=zhL (fun k hk=>by rw [getElem!_pos l k hk];exact hwf _ (List.getElem_mem hk)) _ 1 hlt' (by omega) hv;omega
 ·refine List.ext_getElem (by simp [pick,zS]) fun k h2 h3=>?_
  have hk:k < (zK m p.boxes.xs.length)[i].length:=by rw [zec] at h2;exact h2
  have hdr:(zK m p.boxes.xs.length)[i]∈(zK m p.boxes.xs.length).drop i:=by rw [List.drop_eq_getElem_cons hi];exact List.mem_cons_self
  rw [zdH hk,(hJ.rest _ hdr _ (List.getElem_mem hk)).2];simp [zS]
 ·intro b hb';unfold zS at hb';obtain ⟨x,hx,rfl⟩:=List.mem_map.1 hb';rw [Sl.xs_mk,getElem!_pos l x (hlt' x hx)];exact hwf _ (List.getElem_mem _)
def zdF (p:Problem) (E:Int) (nS:Sl Int) (hS:Sl Box) (oS:Sl Pt):Prop :=
 (zac p≠0/\E=zac p/\nS=.nil/\hS=.nil/\oS=.nil) \/
 (zac p=0/\IsNar zZ p.facts.xs p.boxes.xs none/\E=9/\nS=.nil/\hS=.nil/\oS=.nil) \/
 (zac p=0/\∃ l m,IsNar zZ p.facts.xs p.boxes.xs (some l)/\IsCls (zak p.facts.xs) p.boxes.xs.length m/\65536 < volL l (zK m p.boxes.xs.length)/\E=2/\nS=.nil/\hS=.nil/\oS=.nil) \/
 (zac p=0/\∃ l m N hb on,IsNar zZ p.facts.xs p.boxes.xs (some l)/\IsCls (zak p.facts.xs) p.boxes.xs.length m/\volL l (zK m p.boxes.xs.length)<=65536/\SolveJ p (Sl.mk false l) (zK m p.boxes.xs.length) (zK m p.boxes.xs.length).length E N hb on/\nS=Sl.of N/\hS=Sl.mk false hb/\oS=Sl.of on)
theorem zoZ {l:List Box}:∀ {ps:List (List Nat)} {x:Int},x<=65536->(∀ g∈ps,volP l g<=65536)->ps.foldl (fun x g=>max x (volP l g)) x<=65536
 | [],x,hx,_=>hx
 | g::ps,x,hx,h=>by
  rw [List.foldl_cons];exact zoZ (by have:=h g List.mem_cons_self;omega) fun g' hg=>h g' (List.mem_cons_of_mem _ hg)
theorem zo9 {l:List Box} {ps:List (List Nat)} (h:volL l ps<=65536):∀ g∈ps,volP l g<=65536:=fun g hg=>Int.le_trans (zf4 hg) h
def znv (l:List Box) (ps:List (List Nat)) (i:Nat):Prop:=∀ j (h:j < ps.length),j < i->volP l ps[j]<=65536
theorem znt {l:List Box} {ps:List (List Nat)} (h:znv l ps ps.length):volL l ps<=65536:=zoZ (by omega) fun g hg=>by
 obtain ⟨j,hj,rfl⟩:=List.getElem_of_mem hg;exact h j hj hj
theorem nil1:(Sl.nil:Sl Int).pv intF 1=.nils:=rfl
theorem nil2:(Sl.nil:Sl Box).pv Box.cells 4=.nils:=rfl
theorem nil3:(Sl.nil:Sl Pt).pv Pt.cells 2=.nils:=rfl
theorem zsO {p:Problem} (ok:CheckOk p) {l:List Box} {L:Sl Box} {ps:List (List Nat)} {q:List Nat} (hr:IsNar zZ p.facts.xs p.boxes.xs (some l)) {m:Nat->Nat} (hm:IsCls (zak p.facts.xs) p.boxes.xs.length m) (hps:zK m p.boxes.xs.length=ps) (hL:Sl.mk false l=L) {i:Nat} {e:Int} {N:List Int} {hb:List Box} {on:List Pt} (hi:i < ps.length) (hq:ps[i]=q) (hv:volP l q<=65536) (h1:1 < q.length) (hJ:SolveJ p L ps i e N hb on) (hok:∀ x∈on,okP x):PartIn p L q on:=by
 subst hps hL hq;exact ztW ok hr hm hi hv h1 hJ hok
theorem zu8 {α:Type} {l:List α} (h:l≠[]):Sl.of l=.mk false l:=by
 cases l with
 | nil=>exact absurd rfl h
 | cons a l=>rfl
theorem SolveJ.uniq {p:Problem} {l:Sl Box} {ps:List (List Nat)} {e e':Int} {N N':List Int} {hb hb':List Box} {on on':List Pt} (hd:∀ x,x < l.xs.length->∃ g∈ps,x∈g) (h:SolveJ p l ps ps.length e N hb on) (h':SolveJ p l ps ps.length e' N' hb' on'):N'=N/\hb'=hb/\on'=on/\e'=e:=by
 have key:∀ x,x < l.xs.length->hb'[x]! = hb[x]! /\ on'[x]! = on[x]! := fun x hx=>by
  obtain ⟨g,hg,hxg⟩:=hd x hx;obtain ⟨k,hk,rfl⟩:=List.getElem_of_mem hxg;have h1:=h.at_ g (by rw [List.take_length];exact hg) k hk;have h2:=h'.at_ g (by rw [List.take_length];exact hg) k hk;exact ⟨h2.1.trans h1.1.symm,h2.2.trans h1.2.symm⟩
 refine ⟨h'.n.trans h.n.symm,?_,?_,h'.e.trans h.e.symm⟩
 ·refine List.ext_getElem (h'.hl.trans h.hl.symm) fun x h1 h2=>?_
  have:=(key x (by rw [<- h.hl];exact h2)).1;rwa [getElem!_pos hb' x h1,getElem!_pos hb x h2] at this
 ·refine List.ext_getElem (h'.ol.trans h.ol.symm) fun x h1 h2=>?_
  have:=(key x (by rw [<- h.ol];exact h2)).2;rwa [getElem!_pos on' x h1,getElem!_pos on x h2] at this
theorem zlx {H:Heap} {v:AV} {N:List Int} (h0:H.get 0=.cells true [.pure (.int .i64 0),.pure .nils,.pure .nils,.pure .nils]) (h:GrowV intF 1 H v N):¬ Names v 0:=fun ⟨sz,off,m,hv⟩=>by
 rcases h.1 with ⟨_,rfl⟩|⟨id,rfl,hg⟩
 ·simp at hv
 ·simp only [AV.row.injEq] at hv;rw [hv.1,h0] at hg;simp only [AObj.cells.injEq,true_and] at hg
  match N,hg with
  | [],hg=>simp [zn] at hg
  | [a],hg=>simp [zn,intF] at hg
  | a::b::N,hg=>simp [zn,intF] at hg
theorem PartG.okP {p:Problem} {l:Sl Box} {part:List Nat} {h0 hb:List Box} {o0 on:List Pt} (h:PartG part h0 o0 (fun _=>zbR p l part) hb on) (hi:∀ i∈part,i < l.xs.length) (hv:∀ b∈l.xs,zan b=true) (hol:o0.length=l.xs.length) (ho:∀ q∈o0,Vm.okP q):∀ q∈on,Vm.okP q:=fun q hq=>by
 obtain ⟨j,hj,rfl⟩:=List.getElem_of_mem hq;have hj2:j < o0.length:=by rw [<- h.ol];exact hj
 by_cases hm:j∈part
 ·obtain ⟨k,hk,rfl⟩:=List.getElem_of_mem hm;have:=h.oat k hk;rw [getElem!_pos on _ hj] at this;rw [this]
  cases hS:zbR p l part with
  | nil =>
   simp only [oX];rw [getElem!_pos part k hk,getElem!_pos o0 _ hj2];exact ho _ (List.getElem_mem hj2)
  | cons c r =>
   have hc:c∈allX (zS l.xs part):=(List.mem_filter.1 (show c∈zbR p l part by rw [hS];exact List.mem_cons_self)).1;obtain ⟨h1,h2⟩:=zh2 hc;have hkc:k < c.length:=by rw [h1];exact hk
   have h3:=h2 k hk hkc;have hlt:=hi _ (List.getElem_mem hk);rw [getElem!_pos l.xs _ hlt] at h3;have hb:=valid_iff.1 (hv _ (List.getElem_mem hlt));simp only [oX];rw [getElem!_pos c k hkc];unfold inB' at h3;unfold Vm.okP;omega
 ·have:=h.oout j hm;rw [getElem!_pos on j hj,getElem!_pos o0 j hj2] at this;rw [this];exact ho _ (List.getElem_mem hj2)
theorem sh12:G.shared 12=false:=by decide
theorem e12 (n:Nat) (p:Problem) (E:Int) (nS:Sl Int) (hS:Sl Box) (oS:Sl Pt) (h:zdF p E nS hS oS):zH G (n+10) 12 [.agg p.cells]=some (.agg [.int .i64 E,nS.pv intF 1,hS.pv Box.cells 4,oS.pv Pt.cells 2]):=by
 refine zy (zx _) rfl g12 rfl ?_
 have hc:=fun H=>zf (G:=G) (n:=n+9) (H:=H) (caps:=[]) (ps:=[.agg p.cells]) sh27 (e27 (n+6) p);rcases h with ⟨h0,rfl,rfl,rfl,rfl⟩|⟨h0,hr,rfl,rfl,rfl,rfl⟩|⟨h0,l,m,hr,hm,hv,rfl,rfl,rfl,rfl⟩|⟨h0,l,m,N,hb,on,hr,hm,hv,hJ,rfl,rfl,rfl⟩
 ·rw [nil1,nil2,nil3];generalize zac p=c at *;simp only [Problem.cells,List.map_cons,List.map_nil] at hc;(repeat' first|simp [*,za,c12,Problem.cells]|(apply zb<;>intro _ h<;>try simp [-Nat.le_zero_eq] at h)|(show wpE 0 (zi ..) ..;refine zm ?_)|(refine zg fun v2 H2 hv2 hnx2 hget2 hnew2 hone2 hcel2=>?_))
 ·rw [nil1,nil2,nil3];have hn:=fun H=>zf (G:=G) (n:=n+9) (H:=H) (caps:=[]) (ps:=[.agg p.cells]) sh40 (e40 n p (check_ok.1 h0) none hr);rw [h0] at hc;have hnone:ziE none=.nils:=rfl;rw [hnone] at hn;simp only [Problem.cells,List.map_cons,List.map_nil] at hc hn;clear h0 hr hnone;(repeat' first|simp [*,za,c12,Problem.cells]|(apply zb<;>intro _ h<;>try simp [-Nat.le_zero_eq] at h)|(show wpE 0 (zi ..) ..;refine zm ?_)|(refine zg fun v2 H2 hv2 hnx2 hget2 hnew2 hone2 hcel2=>?_))
 ·rw [nil1,nil2,nil3];have ok:=check_ok.1 h0;have hl:l.length=p.boxes.xs.length:=hr.1.sub.1;have hn:=fun H=>zf (G:=G) (n:=n+9) (H:=H) (caps:=[]) (ps:=[.agg p.cells]) sh40 (e40 n p ok (some l) hr);have hp:=fun H=>zf (G:=G) (n:=n+9) (H:=H) (caps:=[]) (ps:=[.agg p.cells]) sh41 (e41 (n+7) p ok m hm);have hpo:=zbS m p.boxes.xs.length;have nb:=ok.nb;have hvl:Hide (∀ (x:List Nat),x∈zK m p.boxes.xs.length->∀ H,zG (zt G (n+9)) H (.pure (.func 42 [])) [.pure (.agg p.cells),.pure ((Sl.mk false l).pv Box.cells 4),.pure (.agg (za7 x))]=some (.val (.pure (.int .i64 (volP l x))))):=⟨fun x hx H=>by
   obtain ⟨hx0,hx1⟩:=zdS ok hm hx;exact zf (caps:=[]) (ps:=[_,_,_]) sh42 (e42 (n+7) p (Sl.mk false l) x ok.nf (by rw [Sl.xs_mk];omega) (by have:=(hpo.2 x hx).1;omega) hx0 (by rw [Sl.xs_mk];exact zaQ ok hr.1.sub hr.1.wf) (by rw [Sl.xs_mk,hl];exact (hpo.2 x hx).2) hx1)⟩
  have hq:ziE (some l)=(Sl.mk false l).pv Box.cells 4:=rfl;rw [h0] at hc;rw [hq] at hn;rw [zez] at hp;obtain ⟨s,hs⟩:∃ s:Sl (List Nat),Sl.of (zK m p.boxes.xs.length)=s:=⟨_,rfl⟩
  have hsx:zK m p.boxes.xs.length=s.xs:=by rw [<- hs,Sl.xs_of]
  rw [hs] at hp;have ns:s.xs.length<=12:=by rw [<- hsx];omega
  rw [hsx] at hvl hv;have hvH:=Hide.mk hv;generalize (Sl.mk false l).pv Box.cells 4=y at *;simp only [Problem.cells,List.map_cons,List.map_nil] at hc hn hp hvl;clear h0 hr hm hpo hq ok nb hl hs hsx hv;(repeat' first|simp [*,za,c12,Problem.cells]|(apply zb<;>intro _ h<;>try simp [-Nat.le_zero_eq] at h)|(show wpE 0 (zi ..) ..;refine zm ?_)|(refine zg fun v2 H2 hv2 hnx2 hget2 hnew2 hone2 hcel2=>?_));clear hc hn hp
  refine zB [(7,7),(27,41)] (fun (i:Nat) env H=>env 7=.pure (.int .i64 i)/\i<=s.xs.length/\H=Heap.empty.alloc (.cells true [.pure (.int .i64 0),.pure .nils,.pure .nils,.pure .nils])/\Hide (znv l s.xs i)) (fun i=>s.xs.length - i) 0 ?_ ?_ ?_ ?_
  ·decide
  ·exact ⟨by simp,by omega,rfl,⟨fun j _ h=>by omega⟩⟩
  ·simp only [zz];omega
  rintro i env H ⟨g13,hi,rfl,hx⟩
  by_cases hlt:i < s.xs.length
  ·have w1:IntKind.i64.wrap ((i:Int)+1)=(i+1:Nat):=by rw [wrap64 (by omega) (by omega)];omega
   have hltI:(i:Int) < s.xs.length:=by omega
   obtain ⟨q,hq⟩:∃ q,s.xs[i]=q:=⟨_,rfl⟩
   have hv:=hvl.h q (by rw [<- hq];exact List.getElem_mem hlt);obtain ⟨z,hz⟩:∃ z,volP l q=z:=⟨_,rfl⟩
   rw [hz] at hv;have hx2:z<=65536->Hide (znv l s.xs (i+1)):=fun hle=>⟨fun j hj hji=>by
    rcases Nat.lt_or_ge j i with g|g
    ·exact hx.h j hj g
    ·obtain rfl:j=i:=by omega
     rw [hq,hz];exact hle⟩
   simp only [za7] at hv;clear hx hz
   by_cases hle:z<=65536
   ·have hx2:=hx2 hle;(repeat' first|simp [*,za,za7]|(apply zb<;>intro _ h<;>try simp [-Nat.le_zero_eq] at h)|(show wpE 0 (zi ..) ..;refine zm ?_)|(refine zg fun v2 H2 hv2 hnx2 hget2 hnew2 hone2 hcel2=>?_));exact ⟨i+1,by omega,by omega,by omega,hx2⟩
   ·have hle':65536 < z:=by omega
    clear hx2 hle;(repeat' first|simp [*,za,za7]|(apply zb<;>intro _ h<;>try simp [-Nat.le_zero_eq] at h)|(show wpE 0 (zi ..) ..;refine zm ?_)|(refine zg fun v2 H2 hv2 hnx2 hget2 hnew2 hone2 hcel2=>?_))
  ·have hiN:i=s.xs.length:=by omega
   subst hiN;have h1:=znt hx.h;have h2:=hvH.h;omega
 ·have ok:=check_ok.1 h0;have hl:l.length=p.boxes.xs.length:=hr.1.sub.1;have hn:=fun H=>zf (G:=G) (n:=n+9) (H:=H) (caps:=[]) (ps:=[.agg p.cells]) sh40 (e40 n p ok (some l) hr);have hp:=fun H=>zf (G:=G) (n:=n+9) (H:=H) (caps:=[]) (ps:=[.agg p.cells]) sh41 (e41 (n+7) p ok m hm);have hpo:=zbS m p.boxes.xs.length;have nb:=ok.nb;have hvl:Hide (∀ (x:List Nat),x∈zK m p.boxes.xs.length->∀ H,zG (zt G (n+9)) H (.pure (.func 42 [])) [.pure (.agg p.cells),.pure ((Sl.mk false l).pv Box.cells 4),.pure (.agg (za7 x))]=some (.val (.pure (.int .i64 (volP l x))))):=⟨fun x hx H=>by
   obtain ⟨hx0,hx1⟩:=zdS ok hm hx;exact zf (caps:=[]) (ps:=[_,_,_]) sh42 (e42 (n+7) p (Sl.mk false l) x ok.nf (by rw [Sl.xs_mk];omega) (by have:=(hpo.2 x hx).1;omega) hx0 (by rw [Sl.xs_mk];exact zaQ ok hr.1.sub hr.1.wf) (by rw [Sl.xs_mk,hl];exact (hpo.2 x hx).2) hx1)⟩
  have hq:ziE (some l)=(Sl.mk false l).pv Box.cells 4:=rfl;rw [h0] at hc;rw [hq] at hn;rw [zez] at hp;obtain ⟨s,hs⟩:∃ s:Sl (List Nat),Sl.of (zK m p.boxes.xs.length)=s:=⟨_,rfl⟩
  have hsx:zK m p.boxes.xs.length=s.xs:=by rw [<- hs,Sl.xs_of]
  rw [hs] at hp;have ns:s.xs.length<=12:=by rw [<- hsx];omega
  rw [hsx] at hvl;obtain ⟨L,hL⟩:∃ L:Sl Box,Sl.mk false l=L:=⟨_,rfl⟩
  have hLx:L.xs=l:=by rw [<- hL,Sl.xs_mk]
  rw [hL] at hn hvl;have hsc:Hide (∀ Hx,zL Hx 4 (.pure (L.pv Box.cells 4))=some (zn Box.cells l,l.length)):=⟨fun Hx=>by rw [<- hLx];exact zaV (f:=Box.cells) (sz:=4) (fun _=>rfl) _⟩
  have hJH:=Hide.mk hJ;have hvH:=Hide.mk hv;have hsxH:=Hide.mk hsx;have hrH:=Hide.mk hr;have hmH:=Hide.mk hm;have hLH:=Hide.mk hL;have hLxH:=Hide.mk hLx;have nl:L.xs.length<=12:=by rw [hLx];omega
  have hlH:=Hide.mk (show L.xs.length=p.boxes.xs.length by rw [hLx];exact hl);have okH:=Hide.mk ok;have hRES:Hide (∀ e' N' hb' on',SolveJ p L s.xs s.xs.length e' N' hb' on'->e'=E/\N'=N/\hb'=hb/\on'=on):=⟨fun e' N' hb' on' h=>by
   have hd:=zbq hm (zaR ok);rw [<- hL,<- hsx] at h;have:=SolveJ.uniq (fun x hx=>by
    rw [Sl.xs_mk,hl] at hx;exact List.mem_flatten.1 ((hd.all x).1 hx)) hJ h
   exact ⟨this.2.2.2,this.1,this.2.1,this.2.2.1⟩⟩
  simp only [Problem.cells,List.map_cons,List.map_nil] at hc hn hp hvl;have hpos:Hide (p.boxes.xs=[]\/0 < L.xs.length):=⟨by
   cases hb0:p.boxes.xs with
   | nil=>exact .inl rfl
   | cons a b=>right;rw [hlH.h,hb0];simp⟩
  clear h0 hr hm hpo hq ok nb hl hs hsx hv hJ hL hLx;(repeat' first|simp [*,za,c12,Problem.cells]|(apply zb<;>intro _ h<;>try simp [-Nat.le_zero_eq] at h)|(show wpE 0 (zi ..) ..;refine zm ?_)|(refine zg fun v2 H2 hv2 hnx2 hget2 hnew2 hone2 hcel2=>?_));clear hc hn hp
  refine zB [(7,7),(27,41)] (fun (i:Nat) env H=>env 7=.pure (.int .i64 i)/\i<=s.xs.length/\H=Heap.empty.alloc (.cells true [.pure (.int .i64 0),.pure .nils,.pure .nils,.pure .nils])) (fun i=>s.xs.length - i) 0 ?_ ?_ ?_ ?_
  ·decide
  ·exact ⟨by simp,by omega,rfl⟩
  ·simp only [zz];omega
  rintro i env H ⟨g13,hi,rfl⟩
  by_cases hlt:i < s.xs.length
  ·have w1:IntKind.i64.wrap ((i:Int)+1)=(i+1:Nat):=by rw [wrap64 (by omega) (by omega)];omega
   have hltI:(i:Int) < s.xs.length:=by omega
   obtain ⟨q,hq⟩:∃ q,s.xs[i]=q:=⟨_,rfl⟩
   have hv:=hvl.h q (by rw [<- hq];exact List.getElem_mem hlt);have hle:volP l q<=65536:=zo9 hvH.h q (by rw [hsxH.h,<- hq];exact List.getElem_mem hlt);obtain ⟨z,hz⟩:∃ z,volP l q=z:=⟨_,rfl⟩
   rw [hz] at hv hle;have hle2:¬ 65536 < z:=by omega
   simp only [za7] at hv;clear hz hle;(repeat' first|simp [*,za,za7]|(apply zb<;>intro _ h<;>try simp [-Nat.le_zero_eq] at h)|(show wpE 0 (zi ..) ..;refine zm ?_)|(refine zg fun v2 H2 hv2 hnx2 hget2 hnew2 hone2 hcel2=>?_));exact ⟨i+1,by omega,by omega,by omega⟩
  have hiN:i=s.xs.length:=by omega
  subst hiN;clear hvl;rcases hpos.h with hb0|hb0
  ·have hlL:L.xs.length=0:=by rw [hlH.h,hb0];rfl
   have hLn:L.xs=[]:=List.eq_nil_of_length_eq_zero hlL;have hs0:s.xs.length=0:=by
    have:=(zbS m p.boxes.xs.length).1;rw [hsxH.h,hb0] at this
    simpa using this
   have hR:=hRES.h 0 [] L.xs (L.xs.map lowB) (by
    rw [hs0]
    refine SolveJ.start fun g hg=>?_
    rw [List.eq_nil_of_length_eq_zero hs0] at hg;simp at hg)
   obtain ⟨rfl,rfl,r3,r4⟩:=hR;rw [hLn] at r3 r4;subst r3;have r4:on=[]:=r4.symm;subst r4;have hap:zi ((Heap.empty.alloc (AObj.cells true [.pure (.int .i64 0),.pure .nils,.pure .nils,.pure .nils])).alloc (AObj.cells true [])) 4 32 (.row 1 4 0 0) (.pure (L.pv Box.cells 4))=some (.upd (.row 1 4 0 0) (((Heap.empty.alloc (AObj.cells true [.pure (.int .i64 0),.pure .nils,.pure .nils,.pure .nils])).alloc (AObj.cells true [])).set 1 (.cells true []))):=by
    have h:=hsc.h ((Heap.empty.alloc (AObj.cells true [.pure (.int .i64 0),.pure .nils,.pure .nils,.pure .nils])).alloc (AObj.cells true []));rw [<- hLxH.h,hLn] at h;have hr0:zn Box.cells []=[]:=rfl;rw [hr0] at h;simp only [zi,h];rfl
   have z1:(Sl.of ([]:List Int)).pv intF 1=.nils:=rfl;have z2:(Sl.of ([]:List Pt)).pv Pt.cells 2=.nils:=rfl;have z3:(Sl.mk false ([]:List Box)).pv Box.cells 4=.slice false 4 []:=rfl;rw [z1,z2,z3];have hb0H:=Hide.mk hb0;clear hRES hJH hvH hsxH hrH hmH hLH hLxH hlH okH hpos hsc hLn z1 z2 z3 hb0;(repeat' first|simp [*,za]|(apply zb<;>intro _ h<;>try simp [-Nat.le_zero_eq] at h)|(show wpE 0 (zi ..) ..;refine zm ?_)|(refine zg fun v2 H2 hv2 hnx2 hget2 hnew2 hone2 hcel2=>?_))
   refine zB [(9,9),(46,69)] (fun (u:Nat) env H=>env 9=.pure (.int .i64 0)/\H.get 0=.cells true [.pure (.int .i64 0),.pure .nils,.pure .nils,.pure .nils]/\H.get 1=.cells true []/\H.get 2=.cells true [.pure (.int .i64 0),.pure .nils,.row 1 4 0 0,.pure .nils]) (fun u=>u) 0 ?_ ?_ ?_ ?_
   ·decide
   ·exact ⟨by simp,by simp,by simp,by simp⟩
   ·simp only [zz];omega
   clear hap;rintro u env2 H5 ⟨g9,q0,q1,q2⟩;have i0:=zo q0;have i2:=zo q2;(repeat' first|simp [*,za]|(apply zb<;>intro _ h<;>try simp [-Nat.le_zero_eq] at h)|(show wpE 0 (zi ..) ..;refine zm ?_)|(refine zg fun v2 H2 hv2 hnx2 hget2 hnew2 hone2 hcel2=>?_))
   refine zB [(10,10),(70,82)] (fun (u:Nat) env H=>env 10=.pure (.int .i64 0)/\H.get 0=.cells true [.pure (.int .i64 0),.pure .nils,.pure .nils,.pure .nils]/\H.get 1=.cells true []/\H.get 2=.cells true [.pure (.int .i64 0),.pure .nils,.row 1 4 0 0,.pure .nils]) (fun u=>u) 0 ?_ ?_ ?_ ?_
   ·decide
   ·exact ⟨by simp,q0,q1,q2⟩
   ·simp only [zz];omega
   clear q0 q1 q2 i0 i2;rintro u2 env3 H6 ⟨g10,q0,q1,q2⟩;have i0:=zo q0;have i2:=zo q2;have hH1:=zba (n:=9) (id:=1) (l:=([]:List Box)) (f:=Box.cells) (sz:=4) (H:=H6.set 0 (.cells true [.pure (.int .i64 0),.pure .nils,.row 1 4 0 0,.pure .nils])) (m:=0) (fun _=>rfl) (by rw [ze (show 1≠0 by omega)];exact q1) rfl;have z3:(Sl.mk false ([]:List Box)).pv Box.cells 4=.slice false 4 []:=rfl;rw [z3] at hH1;obtain ⟨ids,hids⟩:=FrzK.aggV (n:=11) (FrzL.cons (FrzK.pure (.int .i64 0)) (.cons (FrzK.pure .nils) (.cons hH1 (.cons (FrzK.pure .nils) .nil))));clear hH1 z3;(repeat' first|simp [*,za]|(apply zb<;>intro _ h<;>try simp [-Nat.le_zero_eq] at h)|(show wpE 0 (zi ..) ..;refine zm ?_)|(refine zg fun v2 H2 hv2 hnx2 hget2 hnew2 hone2 hcel2=>?_));exact ⟨ids,hids⟩
  (repeat' first|simp [*,za]|(apply zb<;>intro _ h<;>try simp [-Nat.le_zero_eq] at h)|(show wpE 0 (zi ..) ..;refine zm ?_)|(refine zg fun v2 H2 hv2 hnx2 hget2 hnew2 hone2 hcel2=>?_))
  refine zcl (f:=Box.cells) (l:=[]) (m:=l) (.inr ⟨1,rfl,by simp [zdk]⟩) (fun _=>rfl) (by decide) (fun _=>rfl) (hsc.h _) (by have:=hLxH.h;simp [zu];rw [<- this];omega) ?_
  intro v3 H3 ho3 hnx3 hget3 hnew3;obtain ⟨iH,rfl,hgH⟩:=ho3.row (by intro g;rw [List.nil_append,<- hLxH.h] at g;rw [g] at hb0;simp at hb0);rw [List.nil_append] at hgH;rw [List.nil_append,<- hLxH.h];rw [<- hLxH.h] at hgH;have hiH:0 < iH:=by
   rcases hnew3 iH ⟨_,_,_,rfl⟩ with ⟨_,_,_,g⟩|g
   ·simp at g;omega
   ·simp at g;omega
  have hg0:H3.get 0=.cells true [.pure (.int .i64 0),.pure .nils,.pure .nils,.pure .nils]:=by
   rw [hget3 0 (by simp) (fun ⟨_,_,_,g⟩=>by simp at g)];simp
  clear hget3 hnew3 ho3;(repeat' first|simp [*,za]|(apply zb<;>intro _ h<;>try simp [-Nat.le_zero_eq] at h)|(show wpE 0 (zi ..) ..;refine zm ?_)|(refine zg fun v2 H2 hv2 hnx2 hget2 hnew2 hone2 hcel2=>?_));obtain ⟨F,hFe⟩:∃ F,H3.nx=F:=⟨_,rfl⟩
  have hFp:1 < F:=by simp at hnx3;omega
  have hiF:iH < F:=by rw [<- hFe];exact zo hgH
  rw [hFe];have hH1:((H3.alloc (.cells true [.pure (.int .i64 0),.pure .nils,.pure .nils,.pure .nils])).set F (.cells true [.pure (.int .i64 0),.pure .nils,.row iH 4 0 L.xs.length,.pure .nils])).get F=.cells true [.pure (.int .i64 0),.pure .nils,.row iH 4 0 L.xs.length,.pure .nils]:=zq (by simp;omega);have hH2:((H3.alloc (.cells true [.pure (.int .i64 0),.pure .nils,.pure .nils,.pure .nils])).set F (.cells true [.pure (.int .i64 0),.pure .nils,.row iH 4 0 L.xs.length,.pure .nils])).get iH=.cells true (zn Box.cells L.xs):=by rw [ze (by omega),zh (by omega),hgH]
  have hH3:((H3.alloc (.cells true [.pure (.int .i64 0),.pure .nils,.pure .nils,.pure .nils])).set F (.cells true [.pure (.int .i64 0),.pure .nils,.row iH 4 0 L.xs.length,.pure .nils])).get 0=.cells true [.pure (.int .i64 0),.pure .nils,.pure .nils,.pure .nils]:=by rw [ze (by omega),zh (by omega),hg0]
  generalize (H3.alloc (.cells true [.pure (.int .i64 0),.pure .nils,.pure .nils,.pure .nils])).set F (.cells true [.pure (.int .i64 0),.pure .nils,.row iH 4 0 L.xs.length,.pure .nils])=H4 at *;clear hgH hg0 hnx3 hFe
  refine zB [(9,9),(46,69)] (fun (i:Nat) env H=>env 9=.pure (.int .i64 i)/\i<=L.xs.length/\H.get iH=.cells true (zn Box.cells L.xs)/\H.get 0=.cells true [.pure (.int .i64 0),.pure .nils,.pure .nils,.pure .nils]/\∃ vO,H.get F=.cells true [.pure (.int .i64 0),.pure .nils,.row iH 4 0 L.xs.length,vO]/\GrowV Pt.cells 2 H vO ((L.xs.map lowB).take i)/\¬ Names vO F/\¬ Names vO iH/\¬ Names vO 0) (fun i=>L.xs.length - i) 0 ?_ ?_ ?_ ?_
  ·decide
  ·exact ⟨by simp,by omega,hH2,hH3,.pure .nils,hH1,by simpa using GrowV.nil,fun ⟨_,_,_,g⟩=>by simp at g,fun ⟨_,_,_,g⟩=>by simp at g,fun ⟨_,_,_,g⟩=>by simp at g⟩
  ·simp only [zz];omega
  clear hH1 hH2 hH3;rintro i env2 H5 ⟨g9,hi,hgI,hg0,vO,hgF,hvO,n1,n2,n3⟩;have i1:=zo hgF;have i2:=zo hgI;have i3:=zo hg0
  by_cases hlt:i < L.xs.length
  ·have w1:IntKind.i64.wrap ((i:Int)+1)=(i+1:Nat):=by rw [wrap64 (by omega) (by omega)];omega
   have hltI:(i:Int) < L.xs.length:=by omega
   have hst:=Hide.mk (zjk (f:=lowB) hlt);have hlT:((L.xs.map lowB).take i).length=i:=by simp;omega
   (repeat' first|simp [*,za,Box.cells,Span.cells]|(apply zb<;>intro _ h<;>try simp [-Nat.le_zero_eq] at h)|(show wpE 0 (zi ..) ..;refine zm ?_)|(refine zg fun v2 H2 hv2 hnx2 hget2 hnew2 hone2 hcel2=>?_));have q1:H2.get F=.cells true [.pure (.int .i64 0),.pure .nils,.row iH 4 0 L.xs.length,vO]:=by rw [hget2 F (by simp;omega) n1,zh i1];exact hgF
   have q2:H2.get iH=.cells true (zn Box.cells L.xs):=by rw [hget2 iH (by simp;omega) n2,zh i2];exact hgI
   have q3:H2.get 0=.cells true [.pure (.int .i64 0),.pure .nils,.pure .nils,.pure .nils]:=by rw [hget2 0 (by simp) n3,zh i3];exact hg0
   have m1:¬ Names v2 F:=fun h=>by have:=hnew2 F h;simp at this;omega
   have m2:¬ Names v2 iH:=fun h=>by have:=hnew2 iH h;simp at this;omega
   have m3:¬ Names v2 0:=fun h=>by have:=hnew2 0 h;simp at this
   have j1:=zo q1;have r1:∀ o,(H2.set F o).get iH=.cells true (zn Box.cells L.xs):=fun o=>by rw [ze (by omega)];exact q2
   have r2:∀ o,(H2.set F o).get 0=.cells true [.pure (.int .i64 0),.pure .nils,.pure .nils,.pure .nils]:=fun o=>by rw [ze (by omega)];exact q3
   have r3:∀ o,(H2.set F o).get F=o:=fun o=>zq j1;have hvS:Hide (∀ o,GrowV Pt.cells 2 (H2.set F o) v2 ((L.xs.map lowB).take (i+1))):=⟨fun o=>(hv2.set m1 o).cast hst.h⟩
   clear hget2 hnew2 hv2 hvO n1 n2 n3 hgF hgI hg0 hst;(repeat' first|simp [*,za]|(apply zb<;>intro _ h<;>try simp [-Nat.le_zero_eq] at h)|(show wpE 0 (zi ..) ..;refine zm ?_)|(refine zg fun v2 H2 hv2 hnx2 hget2 hnew2 hone2 hcel2=>?_));exact ⟨i+1,by omega,by omega,by omega,hvS.h _⟩
  have hil:i=L.xs.length:=by omega
  subst hil;rw [List.take_of_length_le (by rw [List.length_map];exact Nat.le_refl _)] at hvO;obtain ⟨iO,rfl,hgO⟩:=hvO.1.row (fun g=>by rw [List.map_eq_nil_iff] at g;rw [g] at hb0;simp at hb0);rw [List.length_map] at hgF;have hFR:Hide (FoundR H5 F iH iO 0 (.pure .nils) [] L.xs (L.xs.map lowB) L.xs.length):=⟨⟨hgF,GrowV.nil,hgI,hgO,by omega,fun g=>n1 (g ▸ ⟨_,_,_,rfl⟩),fun g=>n2 (g ▸ ⟨_,_,_,rfl⟩),fun ⟨_,_,_,g⟩=>by simp at g,fun ⟨_,_,_,g⟩=>by simp at g,fun ⟨_,_,_,g⟩=>by simp at g⟩⟩
  have hJ0:Hide (SolveJ p L s.xs 0 0 [] L.xs (L.xs.map lowB)):=⟨SolveJ.start fun g hg x hx=>by
   rw [<- hsxH.h] at hg;rw [hlH.h];exact ((zbS m p.boxes.xs.length).2 g hg).2 x hx⟩
  have hval:Hide (∀ b∈L.xs,zan b=true):=⟨by rw [hLxH.h];exact zaQ okH.h hrH.h.1.sub hrH.h.1.wf⟩
  have hok0:Hide (∀ q∈L.xs.map lowB,okP q):=⟨fun q hq=>by
   obtain ⟨b,hb,rfl⟩:=List.mem_map.1 hq;have:=valid_iff.1 (hval.h b hb);unfold okP;simp only [lowB];omega⟩
  have h0O:iO≠0:=fun g=>n3 (g ▸ ⟨_,_,_,rfl⟩);clear hgI hgF hvO hgO n1 n2 n3 i1 i2 i3;(repeat' first|simp [*,za]|(apply zb<;>intro _ h<;>try simp [-Nat.le_zero_eq] at h)|(show wpE 0 (zi ..) ..;refine zm ?_)|(refine zg fun v2 H2 hv2 hnx2 hget2 hnew2 hone2 hcel2=>?_))
  refine zB [(10,10),(70,82)] (fun (i:Nat) env H=>env 10=.pure (.int .i64 i)/\i<=s.xs.length/\H.get 0=.cells true [.pure (.int .i64 0),.pure .nils,.pure .nils,.pure .nils]/\∃ (e:Int) (vN:AV) (N:List Int) (hb:List Box) (on:List Pt),Hide (FoundR H F iH iO e vN N hb on L.xs.length)/\Hide (SolveJ p L s.xs i e N hb on)/\Hide (∀ q∈on,okP q)) (fun i=>s.xs.length - i) 0 ?_ ?_ ?_ ?_
  ·decide
  ·exact ⟨by simp,by omega,hg0,0,.pure .nils,[],L.xs,L.xs.map lowB,hFR,hJ0,hok0⟩
  ·simp only [zz];omega
  clear hFR hJ0 hok0 hg0;rintro i env3 H6 ⟨g10,hi,hg0,e,vN,N1,hb1,on1,hFR,hJ1,hok1⟩
  by_cases hlt:i < s.xs.length
  ·have w1:IntKind.i64.wrap ((i:Int)+1)=(i+1:Nat):=by rw [wrap64 (by omega) (by omega)];omega
   have hltI:(i:Int) < s.xs.length:=by omega
   obtain ⟨q,hq⟩:∃ q,s.xs[i]=q:=⟨_,rfl⟩
   have hqm:q∈zK m p.boxes.xs.length:=by rw [hsxH.h,<- hq];exact List.getElem_mem hlt
   obtain ⟨hq0,hq1⟩:=zdS okH.h hmH.h hqm;have hN12:N1.length<=12:=by rw [hJ1.h.n,List.length_map,List.length_take];omega
   have hd:=zbq hmH.h (zaR okH.h);have hlt2:∀ x∈q,x < L.xs.length:=fun x hx=>by rw [hlH.h];exact (hd.one q hqm).2 x hx
   have hdn:=hd.nodup;rw [hsxH.h] at hdn;have hvq:volP l q<=65536:=zo9 hvH.h q hqm;have hlt2:=Hide.mk hlt2;have hdn:=Hide.mk hdn;have hi0:=zo hg0;have hn0:=Hide.mk (zlx hg0 hFR.h.n);clear hqm hd;(repeat' first|simp [*,za,za7]|(apply zb<;>intro _ h<;>try simp [-Nat.le_zero_eq] at h)|(show wpE 0 (zi ..) ..;refine zm ?_)|(refine zg fun v2 H2 hv2 hnx2 hget2 hnew2 hone2 hcel2=>?_))
   refine zdj zs8 ?_
   by_cases h1:1 < q.length
   ·rw [decide_eq_true h1] at hq1;have hPI:=zsO okH.h hrH.h hmH.h hsxH.h hLH.h hlt hq hvq h1 hJ1.h hok1.h
    refine znj (n:=n+5) hFR.h rfl hPI hJ1.h.hl hq1 hN12 ?_
    intro H7 vN7 hb7 on7 hF7 hK7 hG7;have g0:=(hK7.get 0 hi0 (by omega) (by omega) (Ne.symm h0O) hn0.h).trans hg0;have hJ2:=hJ1.h.named hdn.h hlt (by rw [hq];exact h1) (by rw [hq];exact hlt2.h) (by rw [hq];exact hG7);rw [hq] at hJ2;have hJ2:=Hide.mk hJ2;have hok2:=Hide.mk (hG7.okP hlt2.h hval.h hJ1.h.ol hok1.h);have hF7:=Hide.mk hF7;clear hK7 hG7 hPI hJ1 hok1 hFR hg0 hq1 hn0;(repeat' first|simp [*,za]|(apply zb<;>intro _ h<;>try simp [-Nat.le_zero_eq] at h)|(show wpE 0 (zi ..) ..;refine zm ?_)|(refine zg fun v2 H2 hv2 hnx2 hget2 hnew2 hone2 hcel2=>?_));exact ⟨i+1,by omega,by omega,by omega,_,_,_,_,_,hF7,hJ2,hok2⟩
   ·have hql:q.length=1:=by omega
    obtain ⟨k0,hk0⟩:∃ k0,q=[k0]:=by
     match q,hql with
     | [k0],_=>exact ⟨k0,rfl⟩
    rw [decide_eq_false h1] at hq1;have hk0l:k0 < L.xs.length:=hlt2.h k0 (by rw [hk0];simp);have hnm:zeI p.facts.xs (k0:Nat)=false:=by subst hk0;exact hq1
    have hJ2:=hJ1.h.alone hlt (by rw [hq];exact hql) (by rw [hq];exact hk0);have hJ2:=Hide.mk hJ2;rw [hk0]
    refine zko (n:=n+5) hFR.h okH.h.nf hk0l hval.h hnm hN12 ?_
    intro H7 vN7 hF7 hK7;have g0:=(hK7.get 0 hi0 (by omega) (by omega) (Ne.symm h0O) hn0.h).trans hg0;have hF7:=Hide.mk hF7;clear hK7 hJ1 hFR hg0 hq1 hn0;(repeat' first|simp [*,za]|(apply zb<;>intro _ h<;>try simp [-Nat.le_zero_eq] at h)|(show wpE 0 (zi ..) ..;refine zm ?_)|(refine zg fun v2 H2 hv2 hnx2 hget2 hnew2 hone2 hcel2=>?_));exact ⟨i+1,by omega,by omega,by omega,_,_,_,_,_,hF7,hJ2,hok1⟩
  ·have hil:i=s.xs.length:=by omega
   subst hil;obtain ⟨he,hN,hh,ho⟩:=hRES.h _ _ _ _ hJ1.h;subst he hN hh ho;have hf:=hFR.h.f;have hz:=zlx hg0 hFR.h.n;have hone:=hFR.h.n.1.one;have hi0:=zo hg0;have hb1l:=hJ1.h.hl;have on1l:=hJ1.h.ol;have hof:Sl.of on1=Sl.mk false on1:=zu8 (fun g=>by rw [g] at on1l;simp at on1l;omega);have hN1:=((hFR.h.n.set hz (.cells true [.pure (.int .i64 e),vN,.row iH 4 0 L.xs.length,.row iO 2 0 L.xs.length])).res (n:=9) (fun _=>rfl))
   have hH1:=zba (n:=9) (id:=iH) (l:=hb1) (f:=Box.cells) (sz:=4) (H:=H6.set 0 (.cells true [.pure (.int .i64 e),vN,.row iH 4 0 L.xs.length,.row iO 2 0 L.xs.length])) (fun _=>rfl) (by rw [ze (show iH≠0 by omega)];exact hFR.h.h) hb1l;have hO1:=zba (n:=9) (id:=iO) (l:=on1) (f:=Pt.cells) (sz:=2) (H:=H6.set 0 (.cells true [.pure (.int .i64 e),vN,.row iH 4 0 L.xs.length,.row iO 2 0 L.xs.length])) (fun _=>rfl) (by rw [ze h0O];exact hFR.h.o) on1l;rw [hof];obtain ⟨ids,hids⟩:=FrzK.aggV (n:=11) (FrzL.cons (FrzK.pure (.int .i64 e)) (.cons hN1 (.cons hH1 (.cons hO1 .nil))));clear hN1 hH1 hO1 hRES hJ1 hok1 hFR;(repeat' first|simp [*,za]|(apply zb<;>intro _ h<;>try simp [-Nat.le_zero_eq] at h)|(show wpE 0 (zi ..) ..;refine zm ?_)|(refine zg fun v2 H2 hv2 hnx2 hget2 hnew2 hone2 hcel2=>?_));exact ⟨ids,hids⟩
end Go.Proofs.YtmmhnfghklppiaaGreat.Vm
