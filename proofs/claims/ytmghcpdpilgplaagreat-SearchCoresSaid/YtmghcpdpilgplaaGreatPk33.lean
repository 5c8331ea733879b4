/- Where a loop over the boxes stands that steps the points. Plain Lean. The specification's join and next, walked. What the specification's part gathers from the solutions of a part. Plain Lean. The specification's part, walked. Part after part: what the specification's Solve gathers. Plain Lean. The specification's Solve, walked. -/
import Derived.Test.YtmghcpdpilgplaaGreatPk31
import Derived.Test.YtmghcpdpilgplaaGreatPk19
import Derived.Test.YtmghcpdpilgplaaGreatPk32
import Derived.Test.YtmghcpdpilgplaaGreatPk9
import Derived.Test.YtmghcpdpilgplaaGreatPk22
import Derived.Test.YtmghcpdpilgplaaGreatPk25
namespace Go.Proofs.YtmghcpdpilgplaaGreat.Vm
open Go
set_option maxHeartbeats 4000000
theorem putIn_px {l:List Pt} {i:Nat} (h:i < l.length) (v:Int):putIn (.cells true (rowOf Pt.cells l)) 1 (i*2) [.pure (.int .i64 v)]=some (.cells true (rowOf Pt.cells (l.set i ⟨v,l[i].y⟩))) :=
 putIn_rowP (off:=0) (f:=Pt.cells) (sz:=2) (vs:=[.int .i64 v]) (b:=⟨v,l[i].y⟩) (fun _=>rfl) rfl (by decide) h (by decide) rfl rfl
theorem putIn_py {l:List Pt} {i:Nat} (h:i < l.length) (v:Int):putIn (.cells true (rowOf Pt.cells l)) 1 (i*2+1) [.pure (.int .i64 v)]=some (.cells true (rowOf Pt.cells (l.set i ⟨l[i].x,v⟩))) :=
 putIn_rowP (off:=1) (f:=Pt.cells) (sz:=2) (vs:=[.int .i64 v]) (b:=⟨l[i].x,v⟩) (fun _=>rfl) rfl (by decide) h (by decide) rfl rfl
def boxIn (M:Int) (b:Box):Prop:=(-M≤b.x.lo∧b.x.lo≤M∧-M≤b.x.hi∧b.x.hi≤M)∧(-M≤b.y.lo∧b.y.lo≤M∧-M≤b.y.hi∧b.y.hi≤M)
structure AfterJ (l:List Box) (c:List Pt) (i:Nat) (t:List Pt):Prop where
 len:t.length=l.length
 val:t=(l.take i).map lowB++c.drop i
 res:stepL l c=(stepL (l.drop i) (c.drop i)).map fun u=>(l.take i).map lowB++u
theorem AfterJ.start {l:List Box} {c:List Pt} (h:c.length=l.length):AfterJ l c 0 c:=⟨h,by simp,by simp⟩
theorem AfterJ.cur {l:List Box} {c t:List Pt} {i:Nat} (h:AfterJ l c i t) (hi:i < l.length) (hc:c.length=l.length):∃ h':i < t.length,t[i]=c[i]:=by
 have ht:i < t.length:=by rw [h.len];exact hi
 refine ⟨ht,?_⟩
 have hl:((l.take i).map lowB).length=i:=by simp;omega
 have e:t[i]?=c[i]?:=by
  rw [h.val,List.getElem?_append_right (by omega),hl,Nat.sub_self,List.getElem?_drop];simp
 rw [List.getElem?_eq_getElem ht,List.getElem?_eq_getElem (by omega)] at e
 simpa using e
theorem AfterJ.setAt {l:List Box} {c t:List Pt} {i:Nat} (h:AfterJ l c i t) (hi:i < l.length) (hc:c.length=l.length) (p:Pt):t.set i p=(l.take i).map lowB++(p::c.drop (i+1)):=by
 have hl:((l.take i).map lowB).length=i:=by simp;omega
 rw [h.val,List.set_append_right _ _ (by omega),hl,Nat.sub_self,List.drop_eq_getElem_cons (show i < c.length by omega)];rfl
theorem AfterJ.stepX' {l:List Box} {c t:List Pt} {i:Nat} (h:AfterJ l c i t) (hi:i < l.length) (hc:c.length=l.length):stepL l c=match stepX l[i] (c[i]'(by omega)) with
  | some q=>some (t.set i q)
  | none=>(stepL (l.drop (i+1)) (c.drop (i+1))).map fun u=>(l.take (i+1)).map lowB++u:=by
 rw [h.res,List.drop_eq_getElem_cons hi,List.drop_eq_getElem_cons (show i < c.length by omega)];simp only [stepL]
 cases hs:stepX l[i] c[i] with
 | some q=>simp only [Option.map_some];rw [h.setAt hi hc]
 | none =>
  simp only [Option.map_map]
  congr 1
  funext u
  show (l.take i).map lowB++lowB l[i]::u=(l.take (i+1)).map lowB++u;rw [← take_succ' hi,List.map_append,List.append_assoc];rfl
theorem AfterJ.next {l:List Box} {c t:List Pt} {i:Nat} (h:AfterJ l c i t) (hi:i < l.length) (hc:c.length=l.length) (hs:stepX l[i] (c[i]'(by omega))=none):AfterJ l c (i+1) (t.set i (lowB l[i])):=by
 refine ⟨by simp [h.len],?_,?_⟩
 ·rw [h.setAt hi hc,← take_succ' hi,List.map_append,List.append_assoc];rfl
 ·rw [h.stepX' hi hc,hs]
theorem AfterJ.stop {l:List Box} {c t:List Pt} (h:AfterJ l c l.length t) (hc:c.length=l.length):stepL l c=none:=by
 rw [h.res,List.drop_length,← hc,List.drop_length];rfl
set_option maxRecDepth 4000
def joinB (b:Box) (p:Pt):Box:=⟨⟨min b.x.lo p.x,max b.x.hi p.x⟩,⟨min b.y.lo p.y,max b.y.hi p.y⟩⟩
theorem sh122:G.shared 122=false:=by decide
theorem e122 (n:Nat) (b:Box) (p:Pt):callP G (n+1) 122 [.agg b.cells,.agg p.cells]=some (.agg (joinB b p).cells):=by
 refine callP_of (ext_none _) rfl g122 rfl ?_
 (repeat' first|simp [*,initEnv,c122,Box.cells,Span.cells,Pt.cells,joinB]|(apply wpIf_two<;>intro _ h<;>try simp [-Nat.le_zero_eq] at h))
theorem pick_len (t:List Pt) (part:List Nat):(pick t part).length=part.length:=by simp [pick]
theorem pick_get {t:List Pt} {part:List Nat} {i:Nat} (h:i < part.length):(pick t part)[i]'(by rw [pick_len];exact h)=t[part[i]]! := by simp [pick]
theorem pick_set {t:List Pt} {part:List Nat} {i:Nat} (hn:part.Nodup) (h:i < part.length) (hk:part[i] < t.length) (p:Pt):pick (t.set part[i] p) part=(pick t part).set i p:=by
 refine List.ext_getElem (by simp [pick_len]) fun j h1 h2=>?_
 have hj:j < part.length:=by rw [pick_len] at h1;exact h1
 rw [pick_get hj,List.getElem_set]
 by_cases e:i=j
 ·subst e;rw [if_pos rfl,getElem!_pos _ _ (by simpa using hk),List.getElem_set_self]
 ·have hne:part[i]≠part[j]:=by
   rcases Nat.lt_or_gt_of_ne e with g|g
   ·exact List.pairwise_iff_getElem.1 hn i j h hj g
   ·exact fun x=>List.pairwise_iff_getElem.1 hn j i hj h g x.symm
  rw [if_neg e,pick_get hj];simp only [List.getElem!_eq_getElem?_getD,List.getElem?_set_ne hne]
structure NextI (part:List Nat) (s t:List Pt):Prop where
 len:t.length=s.length
 out:∀ j,j ∉ part→t[j]! = s[j]!
theorem NextI.set {part:List Nat} {s t:List Pt} (h:NextI part s t) {k:Nat} (hk:k∈part) (p:Pt):NextI part s (t.set k p):=by
 refine ⟨by rw [List.length_set,h.len],fun j hj=>?_⟩
 rw [← h.out j hj];have:k≠j:=fun e=>hj (e ▸ hk);simp only [List.getElem!_eq_getElem?_getD,List.getElem?_set_ne this]
def boxesOf (l:List Box) (part:List Nat):List Box:=part.map fun i=>l[i]!
theorem sh_next:G.shared 121=true:=by decide
theorem next_call {n:Nat} {H:Heap} {id:Nat} {l:Sl Box} {part:List Nat} {c:List Pt} {k:AV→Heap→Prop} (hg:H.get id=.cells true (rowOf Pt.cells c)) (hc:c.length=l.xs.length) (hb:∀ b∈l.xs,boxIn 1048576 b) (hcb:∀ p∈c,okP p) (hlen:l.xs.length≤12)
  (np:part.length≤12) (hn:part.Nodup) (hi:∀ i∈part,i < l.xs.length) {m:Nat} (hm:m=l.xs.length)
  (hk:∀ b H' t,H.nx≤H'.nx→(∀ j,j < H.nx→j≠id→H'.get j=H.get j)→H'.get id=.cells true (rowOf Pt.cells t)→NextI part c t→(b=true→stepL (boxesOf l.xs part) (pick c part)=some (pick t part))→(b=false→stepL (boxesOf l.xs part) (pick c part)=none)→k (.pure (.bool b)) H') :
  ∃ v H',Vm.call G (n+1) (.fn 121) [.pure (l.pv Box.cells 4),.pure (.agg (partF part)),.row id 2 0 m] H=some (v,H')∧k v H':=by
 subst hm
 refine call_of rfl g121 rfl ?_
 have hk:=Hide.mk hk;have hb:=Hide.mk hb;have hcb:=Hide.mk hcb;have hnH:=Hide.mk hn;have hiH:=Hide.mk hi;have hcH:=Hide.mk hc;have hpl:(boxesOf l.xs part).length=part.length:=by simp [boxesOf]
 have hcl:Hide ((pick c part).length=(boxesOf l.xs part).length):=⟨by rw [pick_len,hpl]⟩
 have hplH:=Hide.mk hpl;have e1:(intsN part).length=part.length:=intsN_length part;clear hc hn hi hpl;(repeat' first|simp [*,initEnv,c121,partF]|(apply wpIf_two<;>intro _ h<;>try simp [-Nat.le_zero_eq] at h))
 refine wp_loopF [(6,73)] (fun (i:Nat) env H'=>env 7=.pure (.int .i64 i)∧i≤part.length∧H.nx≤H'.nx∧Hide (∀ j,j < H.nx→j≠id→H'.get j=H.get j)∧∃ t,H'.get id=.cells true (rowOf Pt.cells t)∧Hide (NextI part c t)∧Hide (AfterJ (boxesOf l.xs part) (pick c part) i (pick t part))) (fun i=>part.length - i) 0 ?_ ?_ ?_ ?_
 ·decide
 ·exact ⟨by simp,by omega,Nat.le_refl _,⟨fun _ _ _=>rfl⟩,c,hg,⟨⟨rfl,fun _ _=>rfl⟩⟩,⟨AfterJ.start hcl.h⟩⟩
 ·simp only [loopFuel];omega
 have hidH:=nx_of_get hg;rintro i env H' ⟨g0,hi,hnx,hsame,t,hg',hN,hJ⟩
 by_cases hlt:i < part.length
 ·have w0:IntKind.i64.wrap ((i:Int)+1)=(i+1:Nat):=by rw [wrap64 (by omega) (by omega)];omega
  have hib:i < (boxesOf l.xs part).length:=by rw [hplH.h];exact hlt
  obtain ⟨_,hti⟩:=hJ.h.cur hib hcl.h;obtain ⟨q,hq⟩:∃ q,part[i]=q:=⟨_,rfl⟩
  have hqm:q∈part:=hq ▸ List.getElem_mem hlt;have hql:=hiH.h q hqm;have hqt:q < t.length:=by rw [hN.h.len,hcH.h];exact hql
  have hqc:q < c.length:=by rw [hcH.h];exact hql
  have hjx:i < (intsN part).length:=by rw [e1];exact hlt
  have gj:(intsN part)[i]=(q:Int):=by simp [intsN,hq]
  have hltI:(i:Int) < part.length:=by omega
  have hqI:(q:Int) < l.xs.length:=by omega
  have hqtI:(q:Int) < t.length:=by omega
  have hbx:(boxesOf l.xs part)[i]=l.xs[q]:=by simp only [boxesOf,List.getElem_map,hq];rw [getElem!_pos l.xs q hql]
  have hpt:∀ h,(pick t part)[i]'h=t[q]:=fun h=>by rw [pick_get hlt,hq,getElem!_pos t q hqt]
  have hpc:∀ h,(pick c part)[i]'h=c[q]:=fun h=>by rw [pick_get hlt,hq,getElem!_pos c q hqc]
  have hps:∀ p,(pick t part).set i p=pick (t.set q p) part:=fun p=>by subst hq;exact (pick_set hnH.h hlt hqt p).symm
  rw [hpt,hpc] at hti;have hid:=nx_of_get hg';have p1:=putIn_px hqt;have p2:=putIn_py hqt;obtain ⟨⟨o1,o2⟩,o3,o4⟩:=hcb.h _ (List.getElem_mem hqc);rw [← hti] at o1 o2 o3 o4;have ob:=hb.h _ (List.getElem_mem hql);unfold boxIn at ob;have w1:IntKind.i64.wrap (t[q].x+1)=t[q].x+1:=wrap64 (by omega) (by omega);have w2:IntKind.i64.wrap (t[q].y+1)=t[q].y+1:=wrap64 (by omega) (by omega);clear o1 o2 o3 o4 ob;have hst:=hJ.h.stepX' hib hcl.h;have hne:=hJ.h.next hib hcl.h;rw [hbx] at hst hne;rw [hpc] at hst hne;rw [← hti] at hst hne;simp only [hps] at hst hne;have hNs:Hide (∀ p,NextI part c (t.set q p)):=⟨fun p=>hN.h.set hqm p⟩
  have hne1:id≠H'.nx:=by omega
  have hne2:H'.nx≠id:=by omega
  have p3:∀ v,putIn (.cells true (rowOf Pt.cells (t.set q ⟨l.xs[q].x.lo,t[q].y⟩))) 1 (q*2+1) [.pure (.int .i64 v)]=some (.cells true (rowOf Pt.cells (t.set q ⟨l.xs[q].x.lo,v⟩))):=fun v=>by
   have:=putIn_py (l:=t.set q ⟨l.xs[q].x.lo,t[q].y⟩) (i:=q) (by simpa using hqt) v;rw [List.set_set] at this
   simpa using this
  have q3:loadIn (.cells true (rowOf Pt.cells (t.set q ⟨l.xs[q].x.lo,t[q].y⟩))) 1 (q*2+1)=some [.pure (.int .i64 t[q].y)]:=by
   rw [loadIn_rowF (f:=Pt.cells) (sz:=2) (fun _=>rfl) (by simpa using hqt) (by decide)];simp
  have gs:∀ o o' o1,(((H'.alloc o).set H'.nx o').set id o1).get id=o1:=fun o o' o1=>get_set_own (by simp;omega);have gs2:∀ o o' o1 o2,((((H'.alloc o).set H'.nx o').set id o1).set id o2).get id=o2:=fun o o' o1 o2=>get_set_own (by simp;omega);have hm2:∀ o o' o1,H.nx≤(((H'.alloc o).set H'.nx o').set id o1).nx:=fun o o' o1=>by simp;omega
  have hm3:∀ o o' o1 o2,H.nx≤((((H'.alloc o).set H'.nx o').set id o1).set id o2).nx:=fun o o' o1 o2=>by simp;omega
  have hs1:Hide (∀ o o' o1 j,j < H.nx→j≠id→(((H'.alloc o).set H'.nx o').set id o1).get j=H.get j):=⟨fun o o' o1 j h1 h2=>by rw [get_set_ne h2,get_set_ne (by omega),get_alloc_lt (by omega)];exact hsame.h j h1 h2⟩
  have hs2:Hide (∀ o o' o1 o2 j,j < H.nx→j≠id→((((H'.alloc o).set H'.nx o').set id o1).set id o2).get j=H.get j):=⟨fun o o' o1 o2 j h1 h2=>by rw [get_set_ne h2];exact hs1.h o o' o1 j h1 h2⟩
  have hk2:=Hide.mk hm2;have hk3:=Hide.mk hm3;clear hps hpt hpc hbx hti hJ hq hN hib hqm hm2 hm3
  by_cases hx:t[q].x < l.xs[q].x.hi
  ·have hs:stepX l.xs[q] t[q]=some ⟨t[q].x+1,t[q].y⟩:=by unfold stepX;rw [if_pos hx]
   rw [hs] at hst;have hst:=Hide.mk hst;clear hne hs;(repeat' first|simp [*,initEnv,Box.cells,Span.cells,Pt.cells]|(apply wpIf_two<;>intro _ h<;>try simp [-Nat.le_zero_eq] at h));exact hk.h true _ (t.set q ⟨t[q].x+1,t[q].y⟩) (hk2.h _ _ _) (hs1.h _ _ _) (gs _ _ _) (hNs.h _) (fun _=>hst.h) (fun h=>by cases h)
  ·by_cases hy:t[q].y < l.xs[q].y.hi
   ·have hs:stepX l.xs[q] t[q]=some ⟨l.xs[q].x.lo,t[q].y+1⟩:=by unfold stepX;rw [if_neg hx,if_pos hy]
    rw [hs] at hst;have hst:=Hide.mk hst;clear hne hs;(repeat' first|simp [*,initEnv,Box.cells,Span.cells,Pt.cells]|(apply wpIf_two<;>intro _ h<;>try simp [-Nat.le_zero_eq] at h));exact hk.h true _ (t.set q ⟨l.xs[q].x.lo,t[q].y+1⟩) (hk3.h _ _ _ _) (hs2.h _ _ _ _) (gs2 _ _ _ _) (hNs.h _) (fun _=>hst.h) (fun h=>by cases h)
   ·have hs:stepX l.xs[q] t[q]=none:=by unfold stepX;rw [if_neg hx,if_neg hy]
    have hne:=Hide.mk (hne hs);clear hst hs;(repeat' first|simp [*,initEnv,Box.cells,Span.cells,Pt.cells]|(apply wpIf_two<;>intro _ h<;>try simp [-Nat.le_zero_eq] at h));exact ⟨i+1,by omega,by omega,by omega,by omega,⟨hs2.h _ _ _ _⟩,t.set q (lowB l.xs[q]),rfl,⟨hNs.h _⟩,hne⟩
 ·have hil:i=part.length:=by omega
  subst hil;have hJ':=hJ.h;rw [← hplH.h] at hJ';have hst:=Hide.mk (hJ'.stop hcl.h);clear hJ hJ';(repeat' first|simp [*,initEnv]|(apply wpIf_two<;>intro _ h<;>try simp [-Nat.le_zero_eq] at h));exact hk.h false _ t hnx hsame.h hg' hN.h (fun h=>by cases h) (fun _=>hst.h)
def hullK:List Pt→Box
 | []=>⟨⟨0,0⟩,⟨0,0⟩⟩
 | x::xs=>xs.foldl joinB (atB x)
theorem hullK_snoc {l:List Pt} (h:l≠[]) (x:Pt):hullK (l++[x])=joinB (hullK l) x:=by
 cases l with
 | nil=>exact absurd rfl h
 | cons y l=>simp [hullK,List.foldl_append]
theorem join_at (p:Pt):joinB (atB p) p=atB p:=by simp [joinB,atB]
def hX (h0:List Box) (part:List Nat) (S:List (List Pt)) (k:Nat):Box:=if S=[] then h0[part[k]!]! else hullK (S.map fun c=>c[k]!)
def oX (o0:List Pt) (part:List Nat) (S:List (List Pt)) (k:Nat):Pt:=match S with
 | []=>o0[part[k]!]!
 | c::_=>c[k]!
structure PartG (part:List Nat) (h0:List Box) (o0:List Pt) (T:Nat→List (List Pt)) (hb:List Box) (on:List Pt):Prop where
 hl:hb.length=h0.length
 ol:on.length=o0.length
 hout:∀ i,i ∉ part→hb[i]! = h0[i]!
 oout:∀ i,i ∉ part→on[i]! = o0[i]!
 hat:∀ k (h:k < part.length),hb[part[k]]! = hX h0 part (T k) k
 oat:∀ k (h:k < part.length),on[part[k]]! = oX o0 part (T k) k
def midT (S:List (List Pt)) (c:List Pt) (j:Nat):Nat→List (List Pt):=fun k=>if k < j then S++[c] else S
section
variable {part:List Nat} {h0 hb:List Box} {o0 on:List Pt} {S:List (List Pt)} {c:List Pt} {j:Nat}
theorem PartG.start:PartG part h0 o0 (fun _=>[]) h0 o0:=⟨rfl,rfl,fun _ _=>rfl,fun _ _=>rfl,fun k h=>by simp [hX,h],fun k h=>by simp [oX,h]⟩
theorem set_getE {α:Type} [Inhabited α] (l:List α) (i:Nat) (x:α) (j:Nat):(l.set i x)[j]! = if i=j∧i < l.length then x else l[j]! := by
 simp only [List.getElem!_eq_getElem?_getD,List.getElem?_set]
 split
 ·rename_i e;subst e
  split
  ·rename_i h;simp [h]
  ·rename_i h;simp [h]
 ·rename_i e;simp [e]
theorem nodup_ne (hn:part.Nodup) {i k:Nat} (hi:i < part.length) (hk:k < part.length) (e:i≠k):part[i]≠part[k]:=by
 rcases Nat.lt_or_gt_of_ne e with g|g
 ·exact List.pairwise_iff_getElem.1 hn i k hi hk g
 ·exact fun x=>List.pairwise_iff_getElem.1 hn k i hk hi g x.symm
theorem PartG.put (hn:part.Nodup) {T T':Nat→List (List Pt)} (h:PartG part h0 o0 T hb on) (hj:j < part.length) (hi:part[j] < hb.length) (hi2:part[j] < on.length) (hT:∀ k,k≠j→T' k=T k) {x:Box} {y:Pt} (hx:x=hX h0 part (T' j) j) (hy:y=oX o0 part (T' j) j):PartG part h0 o0 T' (hb.set part[j] x) (on.set part[j] y):=by
 have hm:part[j]∈part:=List.getElem_mem hj
 refine ⟨by rw [List.length_set,h.hl],by rw [List.length_set,h.ol],fun i hi'=>?_,fun i hi'=>?_,fun k hk=>?_,fun k hk=>?_⟩
 ·rw [set_getE,if_neg (fun (e:part[j]=i∧_)=>hi' (e.1 ▸ hm))];exact h.hout i hi'
 ·rw [set_getE,if_neg (fun (e:part[j]=i∧_)=>hi' (e.1 ▸ hm))];exact h.oout i hi'
 ·rw [set_getE]
  by_cases e:j=k
  ·subst e;rw [if_pos ⟨rfl,hi⟩,hx]
  ·rw [if_neg (fun (g:_∧_)=>nodup_ne hn hj hk e g.1),hT k fun g=>e g.symm];exact h.hat k hk
 ·rw [set_getE]
  by_cases e:j=k
  ·subst e;rw [if_pos ⟨rfl,hi2⟩,hy]
  ·rw [if_neg (fun (g:_∧_)=>nodup_ne hn hj hk e g.1),hT k fun g=>e g.symm];exact h.oat k hk
theorem mid_ne {k:Nat} (h:k≠j):midT S c (j+1) k=midT S c j k:=by
 unfold midT
 by_cases g:k < j
 ·rw [if_pos g,if_pos (by omega)]
 ·rw [if_neg g,if_neg (by omega)]
theorem mid_at:midT S c (j+1) j=S++[c]:=by simp [midT]
theorem mid_at':midT S c j j=S:=by simp [midT]
theorem PartG.first (hn:part.Nodup) (h:PartG part h0 o0 (midT [] c j) hb on) (hj:j < part.length) (hi:part[j] < hb.length) (hi2:part[j] < on.length):PartG part h0 o0 (midT [] c (j+1)) (hb.set part[j] (atB c[j]!)) (on.set part[j] c[j]!) :=
 h.put hn hj hi hi2 (fun k hk=>mid_ne hk) (by rw [mid_at];simp [hX,hullK]) (by rw [mid_at];simp [oX])
theorem set_same {α:Type} [Inhabited α] {l:List α} {i:Nat}:l.set i l[i]! = l:=by
 by_cases h:i < l.length
 ·rw [getElem!_pos l i h];exact List.set_getElem_self ..
 ·exact List.set_eq_of_length_le (by omega)
theorem PartG.more (hn:part.Nodup) (hS:S≠[]) (h:PartG part h0 o0 (midT S c j) hb on) (hj:j < part.length) (hi:part[j] < hb.length) (hi2:part[j] < on.length):PartG part h0 o0 (midT S c (j+1)) (hb.set part[j] (joinB hb[part[j]]! c[j]!)) on:=by
 have h1:=h.hat j hj;have h2:=h.oat j hj;rw [mid_at'] at h1 h2;have:=h.put (T':=midT S c (j+1)) (x:=joinB hb[part[j]]! c[j]!) (y:=on[part[j]]!) hn hj hi hi2 (fun k hk=>mid_ne hk) (by
  rw [mid_at,h1];unfold hX;rw [if_neg hS,if_neg (by simp),List.map_append,List.map_singleton,hullK_snoc (by simpa using hS)]) (by
  rw [mid_at,h2]
  cases S with
  | nil=>exact absurd rfl hS
  | cons a S=>rfl)
 rwa [set_same] at this
theorem PartG.mid (h:PartG part h0 o0 (fun _=>S) hb on):PartG part h0 o0 (midT S c 0) hb on :=
 ⟨h.hl,h.ol,h.hout,h.oout,fun k hk=>by simpa [midT] using h.hat k hk,fun k hk=>by simpa [midT] using h.oat k hk⟩
theorem PartG.done (h:PartG part h0 o0 (midT S c part.length) hb on):PartG part h0 o0 (fun _=>S++[c]) hb on :=
 ⟨h.hl,h.ol,h.hout,h.oout,fun k hk=>by simpa [midT,hk] using h.hat k hk,fun k hk=>by simpa [midT,hk] using h.oat k hk⟩
end
def okR (facts:List Fact) (l:List Box) (part:List Nat) (c:List Pt):Bool:=(aboutR facts part).all fun f=>!failsS f (setAll part c l)
structure PartL (facts:List Fact) (l:List Box) (part:List Nat) (h0:List Box) (o0:List Pt) (rest:List (List Pt)) (n:Nat) (hb:List Box) (on t:List Pt):Prop where
 len:t.length=o0.length
 nx:NextI part o0 t
 pre:∃ done,done++rest=allX (boxesOf l part)∧n=(done.filter (okR facts l part)).length∧PartG part h0 o0 (fun _=>done.filter (okR facts l part)) hb on
 run:∀ c r,rest=c::r→Runs (stepL (boxesOf l part)) c rest∧pick t part=c
theorem NextI.trans {part:List Nat} {a b c:List Pt} (h:NextI part a b) (h2:NextI part b c):NextI part a c:=⟨h2.len.trans h.len,fun j hj=>(h2.out j hj).trans (h.out j hj)⟩
theorem runs_tl {α:Type} {f:α→Option α} {c:α} {rest:List α} (h:Runs f c (c::rest)):(f c=none∧rest=[])∨∃ t r2,f c=some t∧rest=t::r2∧Runs f t rest:=by
 cases h with
 | last _ h=>exact .inl ⟨h,rfl⟩
 | step _ b _ h hl =>
  cases hl with
  | last _ h2=>exact .inr ⟨b,[],h,rfl,.last _ h2⟩
  | step _ b2 l2 h2 hl2=>exact .inr ⟨b,_,h,rfl,.step _ _ _ h2 hl2⟩
theorem runs_hd' {α:Type} {f:α→Option α} {a:α} {l:List α} (h:Runs f a l):∃ r,l=a::r:=by
 cases h with
 | last a h=>exact ⟨[],rfl⟩
 | step a b l h hl=>exact ⟨l,rfl⟩
theorem PartL.start {facts:List Fact} {l:List Box} {part:List Nat} {h0:List Box} {o0:List Pt} (hw:Wf (boxesOf l part)) (hlo:pick o0 part=(boxesOf l part).map lowB):PartL facts l part h0 o0 (allX (boxesOf l part)) 0 h0 o0 o0 :=
 ⟨rfl,⟨rfl,fun _ _=>rfl⟩,⟨[],rfl,rfl,PartG.start⟩,fun c r e=>by
  have h:=runs_all hw;obtain ⟨r2,e2⟩:=runs_hd' h;rw [e] at e2;simp only [List.cons.injEq] at e2;rw [hlo,← e2.1];rw [← e2.1] at h;exact ⟨h,rfl⟩⟩
theorem PartL.next {facts:List Fact} {l:List Box} {part:List Nat} {h0 hb hb':List Box} {o0 on on' t t' c:List Pt} {rest:List (List Pt)} {n n':Nat} (h:PartL facts l part h0 o0 (c::rest) n hb on t) {done:List (List Pt)} (e:done++(c::rest)=allX (boxesOf l part)) (hn:n=(done.filter (okR facts l part)).length) (hG:PartG part h0 o0 (fun _=>done.filter (okR facts l part)) hb on)
  (hg:if okR facts l part c=true then (n'=n+1∧PartG part h0 o0 (fun _=>done.filter (okR facts l part)++[c]) hb' on') else (n'=n∧hb'=hb∧on'=on))
  {b:Bool} (hN:NextI part t t') (h1:b=true→stepL (boxesOf l part) c=some (pick t' part)) (h2:b=false→stepL (boxesOf l part) c=none):b=!rest.isEmpty∧PartL facts l part h0 o0 rest n' hb' on' t':=by
 have hpre:∃ done,done++rest=allX (boxesOf l part)∧n'=(done.filter (okR facts l part)).length∧PartG part h0 o0 (fun _=>done.filter (okR facts l part)) hb' on':=by
  refine ⟨done++[c],by rw [← e];simp,?_,?_⟩
  ·rw [List.filter_append,List.length_append,← hn]
   cases ho:okR facts l part c with
   | true=>rw [if_pos ho] at hg;simp [ho,hg.1]
   | false=>rw [if_neg (by simp [ho])] at hg;simp [ho,hg.1]
  ·rw [List.filter_append]
   cases ho:okR facts l part c with
   | true=>rw [if_pos ho] at hg;simpa [ho] using hg.2
   | false=>rw [if_neg (by simp [ho])] at hg;rw [hg.2.1,hg.2.2];simpa [ho] using hG
 have hr:=(h.run c rest rfl).1;have hlen:t'.length=o0.length:=hN.len.trans h.len;rcases runs_tl hr with ⟨hn,rfl⟩|⟨u,r2,hs,rfl,hr2⟩
 ·cases b with
  | true=>rw [h1 rfl] at hn;simp at hn
  | false=>exact ⟨rfl,hlen,h.nx.trans hN,hpre,fun c' r' e=>by simp at e⟩
 ·cases b with
  | false=>rw [h2 rfl] at hs;simp at hs
  | true =>
   have e:pick t' part=u:=by rw [h1 rfl] at hs;simpa using hs
   refine ⟨rfl,hlen,h.nx.trans hN,hpre,fun c' r' e'=>?_⟩
   simp only [List.cons.injEq] at e';obtain ⟨rfl,rfl⟩:=e';exact ⟨hr2,e⟩
theorem mem_pick {l:List Box} {part:List Nat} {c:List Pt} (hc:c∈allX (boxesOf l part)):c.length=part.length∧∀ k (h:k < part.length) (h':k < c.length),inB' c[k] l[part[k]]! := by
 obtain ⟨h1,h2⟩:=mem_allX.1 hc;have e:(boxesOf l part).length=part.length:=by simp [boxesOf]
 exact ⟨by rw [h1,e],fun k h h'=>by have:=h2 k (by rw [e];exact h) h';simpa [boxesOf] using this⟩
theorem part_okP {l:List Box} {part:List Nat} {o0 t c:List Pt} (hN:NextI part o0 t) (hc:c∈allX (boxesOf l part)) (hp:pick t part=c) (ho:∀ p∈o0,okP p) (hv:∀ b∈l,validB b=true) (hi:∀ i∈part,i < l.length) (hol:o0.length=l.length):∀ p∈t,okP p:=by
 intro p hp';obtain ⟨j,hj,rfl⟩:=List.getElem_of_mem hp'
 by_cases hm:j∈part
 ·obtain ⟨k,hk,rfl⟩:=List.getElem_of_mem hm;obtain ⟨h1,h2⟩:=mem_pick hc;have hkc:k < c.length:=by rw [h1];exact hk
  have:=h2 k hk hkc;have e:c[k]=t[part[k]]:=by subst hp;rw [pick_get hk,getElem!_pos t _ hj]
  rw [e,getElem!_pos l _ (hi _ hm)] at this;have hb:=valid_iff.1 (hv _ (List.getElem_mem (hi _ hm)));unfold inB' at this;unfold okP;omega
 ·have:=hN.out j hm;have hj2:j < o0.length:=by rw [← hN.len];exact hj
  rw [getElem!_pos t j hj,getElem!_pos o0 j hj2] at this;rw [this];exact ho _ (List.getElem_mem hj2)
theorem sh_part:G.shared 71=true:=by decide
structure PartIn (p:Problem) (l:Sl Box) (part:List Nat) (o0:List Pt):Prop where
 nf:p.facts.xs.length≤60
 nl:l.xs.length≤12
 np:part.length≤12
 pos:0 < part.length
 nd:part.Nodup
 lt:∀ i∈part,i < l.xs.length
 val:∀ b∈l.xs,validB b=true
 form:∀ f∈p.facts.xs,formedB f l.xs.length=true
 wi:∀ f∈p.facts.xs,f.a.toNat∈part→Within part f
 vol:(allX (boxesOf l.xs part)).length≤65536
 ol:o0.length=l.xs.length
 ok:∀ q∈o0,okP q
 low:pick o0 part=(boxesOf l.xs part).map lowB
 wf:Wf (boxesOf l.xs part)
def solsR (p:Problem) (l:Sl Box) (part:List Nat):List (List Pt):=(allX (boxesOf l.xs part)).filter (okR p.facts.xs l.xs part)
structure FoundR (H:Heap) (F iH iO:Nat) (e:Int) (vN:AV) (N:List Int) (hb:List Box) (on:List Pt) (m:Nat):Prop where
 f:H.get F=.cells true [.pure (.int .i64 e),vN,.row iH 4 0 m,.row iO 2 0 m]
 n:GrowV intF 1 H vN N
 h:H.get iH=.cells true (rowOf Box.cells hb)
 o:H.get iO=.cells true (rowOf Pt.cells on)
 fh:F≠iH
 fo:F≠iO
 ho:iH≠iO
 nF:¬ Names vN F
 nH:¬ Names vN iH
 nO:¬ Names vN iO
structure FoundK (H H':Heap) (F iH iO:Nat) (vN:AV):Prop where
 nx:H.nx≤H'.nx
 get:∀ j,j < H.nx→j≠F→j≠iH→j≠iO→¬ Names vN j→H'.get j=H.get j
theorem FoundR.at2 {H H2:Heap} {F iH iO m:Nat} {e:Int} {vN:AV} {N:List Int} {hb:List Box} {on:List Pt} {o:AObj} (hF:FoundR H F iH iO e vN N hb on m) (hget:∀ id,id < (H.alloc o).nx→¬ Names vN id→H2.get id=(H.alloc o).get id):H2.get F=.cells true [.pure (.int .i64 e),vN,.row iH 4 0 m,.row iO 2 0 m]:=by
 have:=nx_of_get hF.f;rw [hget F (by simp;omega) hF.nF,get_alloc_lt this,hF.f]
theorem FoundR.grow {H H2:Heap} {F iH iO m:Nat} {e:Int} {vN v2:AV} {N N2:List Int} {hb:List Box} {on:List Pt} {o:AObj} (hF:FoundR H F iH iO e vN N hb on m) (hv:GrowV intF 1 H2 v2 N2) (hnx:(H.alloc o).nx≤H2.nx) (hget:∀ id,id < (H.alloc o).nx→¬ Names vN id→H2.get id=(H.alloc o).get id) (hnew:∀ id,Names v2 id→(H.alloc o).nx≤id) (e':Int) :
  FoundR (H2.set F (.cells true [.pure (.int .i64 e'),v2,.row iH 4 0 m,.row iO 2 0 m])) F iH iO e' v2 N2 hb on m∧FoundK H (H2.set F (.cells true [.pure (.int .i64 e'),v2,.row iH 4 0 m,.row iO 2 0 m])) F iH iO vN:=by
 have h1:=nx_of_get hF.f;have h2:=nx_of_get hF.h;have h3:=nx_of_get hF.o;simp only [nx_alloc] at hnx hget hnew;have nF:¬ Names v2 F:=fun h=>by have:=hnew F h;omega
 have nH:¬ Names v2 iH:=fun h=>by have:=hnew iH h;omega
 have nO:¬ Names v2 iO:=fun h=>by have:=hnew iO h;omega
 refine ⟨⟨get_set_own (by omega),hv.set nF _,?_,?_,hF.fh,hF.fo,hF.ho,nF,nH,nO⟩,⟨by simp;omega,fun j hj a1 a2 a3 a4=>?_⟩⟩
 ·rw [get_set_ne (Ne.symm hF.fh),hget iH (by omega) hF.nH,get_alloc_lt h2,hF.h]
 ·rw [get_set_ne (Ne.symm hF.fo),hget iO (by omega) hF.nO,get_alloc_lt h3,hF.o]
 ·rw [get_set_ne a1,hget j (by omega) a4,get_alloc_lt hj]
theorem unnamed_call {n:Nat} {H:Heap} {F iH iO m:Nat} {e:Int} {vN:AV} {N:List Int} {hb:List Box} {on:List Pt} {p:Problem} {l:Sl Box} {k0:Nat} {k:AV→Heap→Prop} (hF:FoundR H F iH iO e vN N hb on m) (nf:p.facts.xs.length≤60) (hk0:k0 < l.xs.length) (hv:∀ b∈l.xs,validB b=true) (hnm:namedA p.facts.xs (k0:Nat)=false) (hN:N.length≤12)
  (hk:∀ H' vN',FoundR H' F iH iO e vN' (N++[areaB l.xs[k0]!]) hb on m→FoundK H H' F iH iO vN→k (.tup []) H') :
  ∃ v H',Vm.call G (n+4) (.fn 71) [.box F 0,.pure (.agg p.cells),.pure (l.pv Box.cells 4),.pure (.agg (partF [k0]))] H=some (v,H')∧k v H':=by
 refine call_of rfl g71 rfl ?_
 obtain ⟨bs,fs⟩:=p;have hk:=Hide.mk hk;have hvv:=hv _ (List.getElem_mem hk0);rw [getElem!_pos l.xs k0 hk0] at hk;have h1:=fun H=>call_pureC (G:=G) (n:=n+3) (H:=H) (caps:=[]) (ps:=[.agg (Problem.mk bs fs).cells,.int .i64 (k0:Int)]) sh119 (e119 (n+2) ⟨bs,fs⟩ (k0:Int) nf);have h2:=fun H=>call_pureC (G:=G) (n:=n+3) (H:=H) (caps:=[]) (ps:=[.agg l.xs[k0].cells]) sh94 (e94 (n+2) l.xs[k0] hvv);rw [hnm] at h1;simp only [Problem.cells,Box.cells,Span.cells,List.map_cons,List.map_nil] at h1 h2;have hvN:GrowV intF 1 H vN N:=hF.n;have hf:=hF.f;have hidF:=nx_of_get hF.f;have hidH:=nx_of_get hF.h;have hidO:=nx_of_get hF.o;have hFF:=Hide.mk hF;have hkI:(k0:Int) < l.xs.length:=by omega
 have ha0:addrV 1 (.pure ((Sl.mk false (intsN [k0])).pv intF 1)) (.pure (.int .i64 0))=some (.val (.pure (.ptr false [.int .i64 (k0:Int)] 0))):=by
  have:=addrV_sl (k:=.i64) (n:=0) (f:=intF) (sz:=1) (s:=Sl.mk false (intsN [k0])) (by simp [intsN]);have e:(Sl.mk false (intsN [k0])).xs[0]'(by simp [intsN])=(k0:Int):=by simp [intsN]
  rw [e] at this;exact this
 clear hnm hF hv hvv;(repeat' first|simp [*,initEnv,c71,Problem.cells,partF,Box.cells,Span.cells]|(apply wpIf_two<;>intro _ h<;>try simp [-Nat.le_zero_eq] at h)|(show wpE 0 (doAppend ..) ..;refine wpE_appW ?_)|(refine after_intro fun v2 H2 hv2 hnx2 hget2 hnew2 hone2 hcel2=>?_));have g2:=hFF.h.at2 hget2;have hg:=hFF.h.grow hv2 hnx2 hget2 hnew2 e;have hg:=Hide.mk hg;have hid2:=nx_of_get g2;clear hget2 hnew2 hFF;(repeat' first|simp [*,initEnv]|(apply wpIf_two<;>intro _ h<;>try simp [-Nat.le_zero_eq] at h)|(show wpE 0 (doAppend ..) ..;refine wpE_appW ?_)|(refine after_intro fun v2 H2 hv2 hnx2 hget2 hnew2 hone2 hcel2=>?_));exact hk.h _ _ hg.h.1 hg.h.2
theorem all_congr' {α:Type} {f g:α→Bool}:∀ {l:List α},(∀ a∈l,f a=g a)→l.all f=l.all g
 | [],_=>rfl
 | a::l,h=>by rw [List.all_cons,List.all_cons,h a List.mem_cons_self,all_congr' fun b hb=>h b (List.mem_cons_of_mem _ hb)]
theorem FoundR.to {H H':Heap} {F iH iO m:Nat} {e:Int} {vN:AV} {N:List Int} {hb hb':List Box} {on on':List Pt} (hF:FoundR H F iH iO e vN N hb on m) (hk:∀ j,j < H.nx→j≠iH→j≠iO→H'.get j=H.get j) (g1:H'.get iH=.cells true (rowOf Box.cells hb')) (g2:H'.get iO=.cells true (rowOf Pt.cells on')):FoundR H' F iH iO e vN N hb' on' m:=by
 have h1:=nx_of_get hF.f
 refine ⟨by rw [hk F h1 hF.fh hF.fo,hF.f],⟨hF.n.1.keep fun i ⟨n,hi⟩=>?_,hF.n.2⟩,g1,g2,hF.fh,hF.fo,hF.ho,hF.nF,hF.nH,hF.nO⟩
 exact hk i (hF.n.1.names_lt ⟨_,_,_,hi⟩) (fun g=>hF.nH (g ▸ ⟨_,_,_,hi⟩)) (fun g=>hF.nO (g ▸ ⟨_,_,_,hi⟩))
theorem FoundR.keep {H H':Heap} {F iH iO m:Nat} {e:Int} {vN:AV} {N:List Int} {hb:List Box} {on:List Pt} (hF:FoundR H F iH iO e vN N hb on m) (hk:∀ j,j < H.nx→H'.get j=H.get j):FoundR H' F iH iO e vN N hb on m :=
 hF.to (fun j hj _ _=>hk j hj) (by rw [hk _ (nx_of_get hF.h),hF.h]) (by rw [hk _ (nx_of_get hF.o),hF.o])
structure PartH (H H':Heap) (F iH iO iP:Nat) (e:Int) (vN:AV) (N:List Int) (hb:List Box) (on t:List Pt) (m:Nat):Prop where
 fr:FoundR H' F iH iO e vN N hb on m
 p:H'.get iP=.cells true (rowOf Pt.cells t)
 nx:H.nx≤H'.nx
 lt:H.nx≤iP
 same:∀ j,j < H.nx→j≠F→j≠iH→j≠iO→H'.get j=H.get j
 lF:F < H.nx
 lH:iH < H.nx
 lO:iO < H.nx
theorem PartH.to {H H1 H2:Heap} {F iH iO iP m:Nat} {e:Int} {vN:AV} {N:List Int} {hb hb':List Box} {on on' t t':List Pt} (h:PartH H H1 F iH iO iP e vN N hb on t m) (hnx:H1.nx≤H2.nx) (hk:∀ j,j < H1.nx→j≠iH→j≠iO→j≠iP→H2.get j=H1.get j) (hv:∀ i,Names vN i→i < H.nx) (g1:H2.get iH=.cells true (rowOf Box.cells hb')) (g2:H2.get iO=.cells true (rowOf Pt.cells on')) (g3:H2.get iP=.cells true (rowOf Pt.cells t')):PartH H H2 F iH iO iP e vN N hb' on' t' m:=by
 have:=h.lt;have:=h.lF;have:=h.nx
 refine ⟨?_,g3,by omega,h.lt,fun j hj a b c=>?_,h.lF,h.lH,h.lO⟩
 ·refine ⟨?_,⟨h.fr.n.1.keep fun i ⟨n,hi⟩=>?_,h.fr.n.2⟩,g1,g2,h.fr.fh,h.fr.fo,h.fr.ho,h.fr.nF,h.fr.nH,h.fr.nO⟩
  ·rw [hk F (by omega) h.fr.fh h.fr.fo (by omega),h.fr.f]
  ·have hl:=hv i ⟨_,_,_,hi⟩;exact hk i (by omega) (fun g=>h.fr.nH (g ▸ ⟨_,_,_,hi⟩)) (fun g=>h.fr.nO (g ▸ ⟨_,_,_,hi⟩)) (by omega)
 ·rw [hk j (by omega) b c (by omega),h.same j hj a b c]
theorem okR_of {p:Problem} {l:Sl Box} {part:List Nat} {o0 t c:List Pt} (hp:PartIn p l part o0) (hN:NextI part o0 t) (hpk:pick t part=c):((aboutR p.facts.xs part).all fun f=>!failsS f (t.map atB))=okR p.facts.xs l.xs part c:=by
 unfold okR
 refine all_congr' fun f hf=>?_
 have hf':=List.mem_filter.1 hf;have hm:f.a.toNat∈part:=by
  have:=hf'.2;unfold inL at this;obtain ⟨k,hk,hk2⟩:=List.any_eq_true.1 this;simp only [decide_eq_true_eq] at hk2;rw [hk2,Int.toNat_natCast];exact hk
 subst hpk;rw [pick_fails (facts:=p.facts.xs) (hN.len.trans hp.ol) hp.nd hp.lt (hp.wi f hf'.1 hm)]
theorem holdIn {p:Problem} {l:Sl Box} {part:List Nat} {o0 t:List Pt} (hp:PartIn p l part o0) (hN:NextI part o0 t) (ho:∀ q∈t,okP q):∀ f∈aboutR p.facts.xs part,ROk f (t.map atB):=fun f hf=>by
 have hf':=List.mem_filter.1 hf
 refine fine_ok ?_
 unfold fineB;rw [Bool.and_eq_true,List.all_eq_true]
 refine ⟨fun b hb=>?_,by rw [List.length_map,hN.len,hp.ol];exact hp.form f hf'.1⟩
 obtain ⟨q,hq,rfl⟩:=List.mem_map.1 hb;have:=ho q hq;unfold okP at this;rw [valid_iff];simp only [atB];omega
theorem FoundR.setE {H:Heap} {F iH iO m:Nat} {e:Int} {vN:AV} {N:List Int} {hb:List Box} {on:List Pt} (hF:FoundR H F iH iO e vN N hb on m) (e':Int):FoundR (H.set F (.cells true [.pure (.int .i64 e'),vN,.row iH 4 0 m,.row iO 2 0 m])) F iH iO e' vN N hb on m :=
 ⟨get_set_own (nx_of_get hF.f),hF.n.set hF.nF _,by rw [get_set_ne (Ne.symm hF.fh),hF.h],by rw [get_set_ne (Ne.symm hF.fo),hF.o],hF.fh,hF.fo,hF.ho,hF.nF,hF.nH,hF.nO⟩
theorem FoundK.setE {H H':Heap} {F iH iO:Nat} {vN:AV} (h:FoundK H H' F iH iO vN) (o:AObj):FoundK H (H'.set F o) F iH iO vN:=⟨by simpa using h.nx,fun j hj a b c d=>by rw [get_set_ne a];exact h.get j hj a b c d⟩
theorem PartH.found {H H' H2:Heap} {F iH iO iP:Nat} {e:Int} {vN:AV} {N:List Int} {hb:List Box} {on t:List Pt} {m:Nat} (h:PartH H H' F iH iO iP e vN N hb on t m) (h2:FoundK H' H2 F iH iO vN):FoundK H H2 F iH iO vN :=
 ⟨Nat.le_trans h.nx h2.nx,fun j hj a b c d=>by rw [h2.get j (Nat.lt_of_lt_of_le hj h.nx) a b c d,h.same j hj a b c]⟩
theorem named_call {n:Nat} {H:Heap} {F iH iO m:Nat} {e:Int} {vN:AV} {N:List Int} {h0:List Box} {o0:List Pt} {p:Problem} {l:Sl Box} {part:List Nat} {k:AV→Heap→Prop} (hF:FoundR H F iH iO e vN N h0 o0 m) (hm:m=l.xs.length) (hp:PartIn p l part o0) (h0l:h0.length=l.xs.length) (hnm:namedA p.facts.xs (part[0]'hp.pos:Nat)=true) (hN:N.length≤12)
  (hk:∀ H' vN' hb on,FoundR H' F iH iO (if solsR p l part=[] then 9 else e) vN' (N++[((solsR p l part).length:Int)]) hb on m→FoundK H H' F iH iO vN→PartG part h0 o0 (fun _=>solsR p l part) hb on→k (.tup []) H') :
  ∃ v H',Vm.call G (n+4) (.fn 71) [.box F 0,.pure (.agg p.cells),.pure (l.pv Box.cells 4),.pure (.agg (partF part))] H=some (v,H')∧k v H':=by
 refine call_of rfl g71 rfl ?_
 subst hm;have hk:=Hide.mk hk;have nf:=hp.nf;have np:=hp.np;have nl:=hp.nl;have e1:(intsN part).length=part.length:=intsN_length part;have h1:=fun H=>call_pureC (G:=G) (n:=n+3) (H:=H) (caps:=[]) (ps:=[.agg p.cells,.int .i64 (part[0]'hp.pos:Nat)]) sh119 (e119 (n+2) p (part[0]'hp.pos:Nat) nf);have h2:=fun H=>call_pureC (G:=G) (n:=n+3) (H:=H) (caps:=[]) (ps:=[.agg p.cells,.agg (partF part)]) sh120 (e120 (n+2) p part nf np hp.nd);rw [hnm] at h1;obtain ⟨q0,hq0⟩:∃ q,part[0]'hp.pos=q:=⟨_,rfl⟩
 rw [hq0] at h1;obtain ⟨s0,hs0⟩:∃ s:Sl Fact,s=Sl.of (aboutR p.facts.xs part):=⟨_,rfl⟩
 rw [← hs0] at h2;have hs0H:=Hide.mk hs0;clear hs0;obtain ⟨x1,hx1⟩:∃ x,p.boxes.pv Box.cells 4=x:=⟨_,rfl⟩
 obtain ⟨x2,hx2⟩:∃ x,p.facts.pv Fact.cells 9=x:=⟨_,rfl⟩
 simp only [partF,Problem.cells,hx1,hx2,List.map_cons,List.map_nil] at h1 h2;have hpos:=hp.pos;have hj0:0 < (intsN part).length:=by rw [e1];exact hpos
 have ha0:addrV 1 (.pure ((Sl.mk false (intsN part)).pv intF 1)) (.pure (.int .i64 0))=some (.val (.pure (.ptr false [.int .i64 (q0:Nat)] 0))):=by
  have:=addrV_sl (k:=.i64) (n:=0) (f:=intF) (sz:=1) (s:=Sl.mk false (intsN part)) hj0;have e:(Sl.mk false (intsN part)).xs[0]'hj0=(q0:Nat):=by simp [intsN,hq0]
  rw [e] at this;exact this
 have hf:=hF.f;have ho:=hF.o;have hidF:=nx_of_get hF.f;have hidH:=nx_of_get hF.h;have hidO:=nx_of_get hF.o;have hFF:=Hide.mk hF;have hpH:=Hide.mk hp;have h0H:=Hide.mk h0l;have hol:=hp.ol;have hsl:sliceCells (H.alloc (.cells true [])) 2 (.row iO 2 0 l.xs.length)=some (rowOf Pt.cells o0,o0.length):=by
  rw [← hol,sliceCells_row1 (own:=true) (cs:=rowOf Pt.cells o0) (by rw [get_alloc_lt hidO];exact ho) (by rw [rowOf_length (sz:=2) (fun _=>rfl)];exact Nat.le_refl _),List.take_of_length_le (by rw [rowOf_length (sz:=2) (fun _=>rfl)];exact Nat.le_refl _)]
 clear hnm hF hp h0l hq0;(repeat' first|simp [*,initEnv,c71,partF,Problem.cells]|(apply wpIf_two<;>intro _ h<;>try simp [-Nat.le_zero_eq] at h)|(show wpE 0 (doAppend ..) ..;refine wpE_appW ?_)|(refine after_intro fun v2 H2 hv2 hnx2 hget2 hnew2 hone2 hcel2=>?_))
 refine wpE_appendL (f:=Pt.cells) (l:=[]) (m:=o0) (.inr ⟨H.nx,rfl,by simp [rowOf]⟩) (fun _=>rfl) (by decide) (fun _=>rfl) hsl (by simp [maxCells];omega) ?_
 intro v3 H3 ho3 hnx3 hget3 hnew3;have hne:o0≠[]:=fun g=>by
  have hq:=hpH.h.lt _ (List.getElem_mem hpos);rw [g] at hol;simp at hol;omega
 obtain ⟨iP,rfl,hgP⟩:=ho3.row (by simpa using hne);rw [List.nil_append] at hgP;have hPl:H.nx≤iP:=by
  rcases hnew3 iP ⟨_,_,_,rfl⟩ with ⟨_,_,_,g⟩|g
  ·simp at g;omega
  ·simp at g;omega
 have hk3:∀ j,j < H.nx→H3.get j=H.get j:=fun j hj=>by
  rw [hget3 j (by simp;omega) (fun ⟨_,_,_,g⟩=>by simp at g;omega),get_alloc_lt hj]
 have hPH:Hide (PartH H H3 F iH iO iP e vN N h0 o0 o0 l.xs.length):=⟨⟨hFF.h.keep hk3,hgP,by simp at hnx3;omega,hPl,fun j hj _ _ _=>hk3 j hj,hidF,hidH,hidO⟩⟩
 have hvl:Hide (∀ i,Names vN i→i < H.nx):=⟨fun i hi=>hFF.h.n.1.names_lt hi⟩
 have hPL:Hide (PartL p.facts.xs l.xs part h0 o0 (allX (boxesOf l.xs part)) 0 h0 o0 o0):=⟨PartL.start hpH.h.wf hpH.h.low⟩
 have hex:(allX (boxesOf l.xs part)).isEmpty=false:=by
  have:=(runs_all hpH.h.wf).ne
  cases hh:allX (boxesOf l.xs part) with
  | nil=>exact absurd hh this
  | cons a b=>rfl
 rw [List.nil_append,hol];clear ho3 hgP hPl hk3 hsl hget3 hnew3 hf ho h1 h2 ha0;(repeat' first|simp [*,initEnv]|(apply wpIf_two<;>intro _ h<;>try simp [-Nat.le_zero_eq] at h)|(show wpE 0 (doAppend ..) ..;refine wpE_appW ?_)|(refine after_intro fun v2 H2 hv2 hnx2 hget2 hnew2 hone2 hcel2=>?_))
 refine wp_loopF [(11,15),(50,132)] (fun (rest:List (List Pt)) env H'=>env 12=.pure (.bool (!rest.isEmpty))∧∃ (n:Nat) (hb:List Box) (on t:List Pt),env 11=.pure (.int .i64 n)∧Hide (PartH H H' F iH iO iP e vN N hb on t l.xs.length)∧Hide (PartL p.facts.xs l.xs part h0 o0 rest n hb on t)) (fun rest=>rest.length) (allX (boxesOf l.xs part)) ?_ ?_ ?_ ?_
 ·decide
 ·exact ⟨by simp [hex],0,h0,o0,o0,by simp,hPH,hPL⟩
 ·have:=hpH.h.vol;simp only [loopFuel];omega
 clear hPH hPL hex;rintro rest env H4 ⟨g12,nS,hb,on,t,g11,hPH,hPL⟩
 cases rest with
 | nil =>
  obtain ⟨done,hd,hn0,hG0⟩:=hPL.h.pre;rw [List.append_nil] at hd;subst hd;have hn:nS=(solsR p l part).length:=hn0;have hG:=Hide.mk (show PartG part h0 o0 (fun _=>solsR p l part) hb on from hG0);clear hn0 hG0;have g12:env 12=.pure (.bool false):=by simpa using g12
  have hf:=hPH.h.fr.f;have hid4:=nx_of_get hf;have hvN:GrowV intF 1 H4 vN N:=hPH.h.fr.n;have hnH:=Hide.mk hn;have hnB:(nS:Int) < 100000:=by
   have h1:=hpH.h.vol;have h2:(solsR p l part).length≤(allX (boxesOf l.xs part)).length:=List.length_filter_le _ _;omega
  clear hn hPL;(repeat' first|simp [*,initEnv]|(apply wpIf_two<;>intro _ h<;>try simp [-Nat.le_zero_eq] at h)|(show wpE 0 (doAppend ..) ..;refine wpE_appW ?_)|(refine after_intro fun v2 H2 hv2 hnx2 hget2 hnew2 hone2 hcel2=>?_));have g2:=hPH.h.fr.at2 hget2;have hg:=hPH.h.fr.grow hv2 hnx2 hget2 hnew2 e;have hgK:=Hide.mk (hPH.h.found hg.2);have hg:=Hide.mk hg.1;have hid2:=nx_of_get g2;clear hget2 hnew2 hFF hPH
  by_cases hz:nS=0
  ·subst hz;have hS:solsR p l part=[]:=List.eq_nil_of_length_eq_zero hnH.h.symm;(repeat' first|simp [*,initEnv]|(apply wpIf_two<;>intro _ h<;>try simp [-Nat.le_zero_eq] at h)|(show wpE 0 (doAppend ..) ..;refine wpE_appW ?_)|(refine after_intro fun v2 H2 hv2 hnx2 hget2 hnew2 hone2 hcel2=>?_))
   refine hk.h _ v2 hb on ?_ (hgK.h.setE _) hG.h
   rw [if_pos hS];have:=hg.h.setE 9;rw [hS]
   simpa using this
  ·have hS:solsR p l part≠[]:=fun g=>hz (by rw [hnH.h,g];rfl);have hzI:¬ (nS:Int)=0:=by omega
   (repeat' first|simp [*,initEnv]|(apply wpIf_two<;>intro _ h<;>try simp [-Nat.le_zero_eq] at h)|(show wpE 0 (doAppend ..) ..;refine wpE_appW ?_)|(refine after_intro fun v2 H2 hv2 hnx2 hget2 hnew2 hone2 hcel2=>?_))
   refine hk.h _ v2 hb on ?_ hgK.h hG.h
   rw [if_neg hS,← hnH.h];exact hg.h
 | cons c rest =>
  obtain ⟨done,hd,hn0,hG0⟩:=hPL.h.pre;obtain ⟨hrun,hpk⟩:=hPL.h.run c rest rfl;have hc:c∈allX (boxesOf l.xs part):=by rw [← hd];simp
  have hokP:=part_okP hPL.h.nx hc hpk hpH.h.ok hpH.h.val hpH.h.lt hpH.h.ol;have htl:t.length=l.xs.length:=hPL.h.len.trans hpH.h.ol;have hnB:(nS:Int) < 100000:=by
   have h1:=hpH.h.vol;have h2:(done.filter (okR p.facts.xs l.xs part)).length≤done.length:=List.length_filter_le _ _;have h3:done.length+(c::rest).length=(allX (boxesOf l.xs part)).length:=by rw [← hd,List.length_append]
   omega
  have hcl:=(mem_pick hc).1;obtain ⟨S,hS⟩:∃ S,done.filter (okR p.facts.xs l.xs part)=S:=⟨_,rfl⟩
  have hdH:=Hide.mk hd;have hn2:=Hide.mk hn0;have hG2:=Hide.mk hG0;rw [hS] at hn0 hG0;have hn1:=Hide.mk hn0;have hG1:=Hide.mk hG0;have hSH:=Hide.mk hS;clear hn0 hG0;have hHo:=holdIn hpH.h hPL.h.nx hokP;have hoR:=okR_of hpH.h hPL.h.nx hpk;have hbx:=Hide.mk (show ∀ b∈l.xs,boxIn 1048576 b from fun b hb=>by have:=valid_iff.1 (hpH.h.val b hb);unfold boxIn;omega);obtain ⟨s1,hs1,hf1⟩:=row_sl (n:=10) (f:=Pt.cells) (sz:=2) (fun _=>rfl) hPH.h.p htl;have hsa:s0.xs=aboutR p.facts.xs part:=by rw [hs0H.h,Sl.xs_of]
  have hal:(aboutR p.facts.xs part).length < 1000:=by
   have:(aboutR p.facts.xs part).length≤p.facts.xs.length:=List.length_filter_le _ _;omega
  have hc1:=e96 (n+1) s0 s1 (by rw [hsa,hs1];exact hHo) (by rw [hsa];exact hal);rw [hsa,hs1,hoR] at hc1;have g12:env 12=.pure (.bool true):=by simpa using g12
  have hokH:=Hide.mk hokP;have hpkH:=Hide.mk hpk;clear hHo hoR hs1 hsa hd hS hrun hc hpk hokP htl;(repeat' first|simp [*,initEnv]|(apply wpIf_two<;>intro _ h<;>try simp [-Nat.le_zero_eq] at h)|(show wpE 0 (doAppend ..) ..;refine wpE_appW ?_)|(refine after_intro fun v2 H2 hv2 hnx2 hget2 hnew2 hone2 hcel2=>?_))
  refine wpE_own (caps:=[]) (ps:=[_,_]) (by decide) (.cons (.pure _) (.cons hf1 .nil)) hc1 rfl ?_
  clear hc1 hf1
  cases hok:okR p.facts.xs l.xs part c with
  | false =>
   (repeat' first|simp [*,initEnv]|(apply wpIf_two<;>intro _ h<;>try simp [-Nat.le_zero_eq] at h)|(show wpE 0 (doAppend ..) ..;refine wpE_appW ?_)|(refine after_intro fun v2 H2 hv2 hnx2 hget2 hnew2 hone2 hcel2=>?_))
   refine wpE_run sh_next ?_
   refine next_call hPH.h.p (hPL.h.len.trans hpH.h.ol) hbx.h hokH.h nl np hpH.h.nd hpH.h.lt rfl ?_
   intro b H5 t2 hnx5 hsame5 hgt5 hN5 hb1 hb2;rw [hpkH.h] at hb1 hb2;obtain ⟨hbr,hPL2⟩:=hPL.h.next (n':=nS) (hb':=hb) (on':=on) hdH.h hn2.h hG2.h (by rw [if_neg (by simp [hok])];exact ⟨rfl,rfl,rfl⟩) hN5 hb1 hb2;have hPL2:=Hide.mk hPL2;have hlt:=hPH.h.lt;have hlH:=hPH.h.lH;have hlO:=hPH.h.lO;have hPH2:Hide (PartH H H5 F iH iO iP e vN N hb on t2 l.xs.length):=⟨hPH.h.to hnx5 (fun j hj _ _ c=>hsame5 j hj c) hvl.h (by rw [hsame5 iH (nx_of_get hPH.h.fr.h) (by omega)];exact hPH.h.fr.h) (by rw [hsame5 iO (nx_of_get hPH.h.fr.o) (by omega)];exact hPH.h.fr.o) hgt5⟩
   clear hb1 hb2 hgt5 hN5 hsame5 hPL hPH hn1 hG1 hn2 hG2 hokH hpkH hok;subst hbr;(repeat' first|simp [*,initEnv]|(apply wpIf_two<;>intro _ h<;>try simp [-Nat.le_zero_eq] at h)|(show wpE 0 (doAppend ..) ..;refine wpE_appW ?_)|(refine after_intro fun v2 H2 hv2 hnx2 hget2 hnew2 hone2 hcel2=>?_));exact ⟨rest,by simp,by simp,nS,rfl,hb,on,t2,hPH2,hPL2⟩
  | true =>
   have hPG:Hide (PartG part h0 o0 (midT S c 0) hb on):=⟨hG1.h.mid⟩
   have htc:Hide (∀ j (h:j < part.length),c[j]! = t[part[j]]!):=⟨fun j h=>by
    rw [← hpkH.h,getElem!_pos (pick t part) j (by rw [pick_len];exact h),pick_get h]⟩
   have htl:=hPL.h.len.trans hpH.h.ol;(repeat' first|simp [*,initEnv]|(apply wpIf_two<;>intro _ h<;>try simp [-Nat.le_zero_eq] at h)|(show wpE 0 (doAppend ..) ..;refine wpE_appW ?_)|(refine after_intro fun v2 H2 hv2 hnx2 hget2 hnew2 hone2 hcel2=>?_))
   refine wp_loopF [(14,15),(60,130)] (fun (j:Nat) env H'=>env 14=.pure (.int .i64 j)∧j≤part.length∧∃ (hb:List Box) (on:List Pt),Hide (PartH H H' F iH iO iP e vN N hb on t l.xs.length)∧Hide (PartG part h0 o0 (midT S c j) hb on)) (fun j=>part.length - j) 0 ?_ ?_ ?_ ?_
   ·decide
   ·exact ⟨by simp,by omega,hb,on,hPH,hPG⟩
   ·simp only [loopFuel];omega
   clear hPG;rintro j env2 H5 ⟨g14,hj,hb2,on2,hPH2,hPG2⟩
   by_cases hjl:j < part.length
   ·have w1:IntKind.i64.wrap ((j:Int)+1)=(j+1:Nat):=by rw [wrap64 (by omega) (by omega)];omega
    obtain ⟨q,hq⟩:∃ q,part[j]=q:=⟨_,rfl⟩
    have hql:q < l.xs.length:=hq ▸ hpH.h.lt _ (List.getElem_mem hjl);have hqt:q < t.length:=by omega
    have hbl:hb2.length=l.xs.length:=hPG2.h.hl.trans h0H.h;have onl:on2.length=l.xs.length:=hPG2.h.ol.trans hol;have hqb:q < hb2.length:=by omega
    have hqo:q < on2.length:=by omega
    have hjx:j < (intsN part).length:=by omega
    have gj:(intsN part)[j]=(q:Int):=by simp [intsN,hq]
    have hjI:(j:Int) < part.length:=by omega
    have hqI:(q:Int) < l.xs.length:=by omega
    have hcj:c[j]! = t[q]:=by rw [htc.h j hjl,hq,getElem!_pos t q hqt]
    have hf:=hPH2.h.fr.f;have hh:=hPH2.h.fr.h;have ho:=hPH2.h.fr.o;have hP:=hPH2.h.p;have i1:=nx_of_get hf;have i2:=nx_of_get hh;have i3:=nx_of_get ho;have i4:=nx_of_get hP;have hlt:=hPH2.h.lt;have hlF:=hPH2.h.lF;have hlH:=hPH2.h.lH;have hlO:=hPH2.h.lO;have n1:=hPH2.h.fr.fh;have n2:=hPH2.h.fr.fo;have n3:=hPH2.h.fr.ho;have n4:iP≠iH:=by omega
    have n5:iP≠iO:=by omega
    have pO:=putIn_rowG (f:=Pt.cells) (sz:=2) (l:=on2) (a:=t[q]) (fun _=>rfl) (fun _=>rfl) (by decide) hqo;have pH1:=fun b=>putIn_rowG (f:=Box.cells) (sz:=4) (l:=hb2) (a:=b) (fun _=>rfl) (fun _=>rfl) (by decide) hqb;have pH2:=fun b=>putIn_rowG (f:=Box.cells) (sz:=4) (l:=hb2.set q (atB t[q])) (i:=q) (a:=b) (fun _=>rfl) (fun _=>rfl) (by decide) (by simpa using hqb);simp only [List.set_set] at pH2;have lH:loadIn (.cells true (rowOf Box.cells (hb2.set q (atB t[q])))) 4 (q*4)=some ((atB t[q]).cells.map .pure):=by
     have:=loadIn_rowF (own:=true) (f:=Box.cells) (sz:=4) (size:=4) (off:=0) (l:=hb2.set q (atB t[q])) (i:=q) (fun _=>rfl) (by simpa using hqb) (by decide);rw [List.getElem_set_self] at this
     simpa [Box.cells,Span.cells] using this
    have hjn:=fun b H=>call_pureC (G:=G) (n:=n+3) (H:=H) (caps:=[]) (ps:=[.agg (Box.cells b),.agg t[q].cells]) sh122 (e122 (n+2) b t[q]);have hs2:Hide (∀ hb',PartH H (H5.set iH (.cells true (rowOf Box.cells hb'))) F iH iO iP e vN N hb' on2 t l.xs.length):=⟨fun hb'=>hPH2.h.to (by simp) (fun j hj a b c=>get_set_ne a) hvl.h (get_set_own i2) (by rw [get_set_ne (Ne.symm n3)];exact ho) (by rw [get_set_ne n4];exact hP)⟩
    have hs3:Hide (∀ o hb' on',PartH H (((H5.set iH o).set iO (.cells true (rowOf Pt.cells on'))).set iH (.cells true (rowOf Box.cells hb'))) F iH iO iP e vN N hb' on' t l.xs.length):=⟨fun o hb' on'=>hPH2.h.to (by simp) (fun j hj a b c=>by rw [get_set_ne a,get_set_ne b,get_set_ne a]) hvl.h (get_set_own (by simpa using i2)) (by rw [get_set_ne (Ne.symm n3)];exact get_set_own (by simpa using i3)) (by rw [get_set_ne n4,get_set_ne n5,get_set_ne n4];exact hP)⟩
    have r1:∀ o,(H5.set iH o).get F=H5.get F:=fun o=>get_set_ne n1;have r2:∀ o o',((H5.set iH o).set iO o').get F=H5.get F:=fun o o'=>by rw [get_set_ne n2,get_set_ne n1]
    have r3:∀ o o',((H5.set iH o).set iO o').get iH=o:=fun o o'=>by rw [get_set_ne n3];exact get_set_own i2
    have r4:∀ o,(H5.set iH o).get iP=H5.get iP:=fun o=>get_set_ne n4;have r5:∀ o o',((H5.set iH o).set iO o').get iP=H5.get iP:=fun o o'=>by rw [get_set_ne n5,get_set_ne n4]
    have r6:∀ o,(H5.set iH o).get iO=H5.get iO:=fun o=>get_set_ne (Ne.symm n3);clear hPH2 hlt hlF hlH hlO
    by_cases hz:nS=0
    ·subst hz;have hSe:S=[]:=List.eq_nil_of_length_eq_zero hn1.h.symm;clear hSH;subst hSe;have hG:=Hide.mk (hPG2.h.first hpH.h.nd hjl (by rw [hq];exact hqb) (by rw [hq];exact hqo));rw [hcj,hq] at hG;have hjn2:=hjn (atB t[q]);rw [join_at] at hjn2;have pH3:=pH1 (atB t[q]);have pH4:=pH2 (atB t[q]);simp only [atB,Box.cells,Span.cells,Pt.cells,List.map_cons,List.map_nil] at hjn2 pH3 pH4 lH pO;have g11:env 11=.pure (.int .i64 0):=by simpa using g11
     clear hPG2 hq hcj hs2 hjn pH1 pH2 hPL hnB hG1 hn1 hn2 hG2;(repeat' first|simp [*,initEnv,Box.cells,Span.cells,Pt.cells]|(apply wpIf_two<;>intro _ h<;>try simp [-Nat.le_zero_eq] at h)|(show wpE 0 (doAppend ..) ..;refine wpE_appW ?_)|(refine after_intro fun v2 H2 hv2 hnx2 hget2 hnew2 hone2 hcel2=>?_));exact ⟨j+1,by omega,by omega,by omega,_,_,⟨hs3.h _ _ _⟩,hG⟩
    ·have hSn:S≠[]:=fun g=>hz (by rw [hn1.h,g];rfl);have hG:=Hide.mk (hPG2.h.more hpH.h.nd hSn hjl (by rw [hq];exact hqb) (by rw [hq];exact hqo));rw [hcj] at hG;simp only [hq] at hG;rw [getElem!_pos hb2 q hqb] at hG;have hjn2:=hjn hb2[q];have pH3:=pH1 (joinB hb2[q] t[q]);simp only [Box.cells,Span.cells,Pt.cells,List.map_cons,List.map_nil] at hjn2 pH3;clear hjn pH1;generalize joinB hb2[q] t[q]=jb at *;have hzI:¬ (nS:Int)=0:=by omega
     clear hPG2 hq hcj hs3 pH2 lH pO r1 r2 r3 r4 r5 r6;(repeat' first|simp [*,initEnv,Box.cells,Span.cells,Pt.cells]|(apply wpIf_two<;>intro _ h<;>try simp [-Nat.le_zero_eq] at h)|(show wpE 0 (doAppend ..) ..;refine wpE_appW ?_)|(refine after_intro fun v2 H2 hv2 hnx2 hget2 hnew2 hone2 hcel2=>?_));exact ⟨j+1,by omega,by omega,by omega,_,_,⟨hs2.h _⟩,hG⟩
   ·have hjp:j=part.length:=by omega
    subst hjp;have hGd:=hPG2.h.done;rw [← hSH.h] at hGd;have w1:IntKind.i64.wrap ((nS:Int)+1)=(nS+1:Nat):=by rw [wrap64 (by omega) (by omega)];omega
    have hGd:=Hide.mk hGd;(repeat' first|simp [*,initEnv]|(apply wpIf_two<;>intro _ h<;>try simp [-Nat.le_zero_eq] at h)|(show wpE 0 (doAppend ..) ..;refine wpE_appW ?_)|(refine after_intro fun v2 H2 hv2 hnx2 hget2 hnew2 hone2 hcel2=>?_))
    refine wpE_run sh_next ?_
    refine next_call hPH2.h.p (hPL.h.len.trans hpH.h.ol) hbx.h hokH.h nl np hpH.h.nd hpH.h.lt rfl ?_
    intro b H6 t2 hnx5 hsame5 hgt5 hN5 hb1 hb3;rw [hpkH.h] at hb1 hb3;obtain ⟨hbr,hPL2⟩:=hPL.h.next (n':=nS+1) (hb':=hb2) (on':=on2) hdH.h hn2.h hG2.h (by rw [if_pos hok];exact ⟨rfl,hGd.h⟩) hN5 hb1 hb3;have hPL2:=Hide.mk hPL2;have hlt:=hPH2.h.lt;have hlH:=hPH2.h.lH;have hlO:=hPH2.h.lO;have hPH3:Hide (PartH H H6 F iH iO iP e vN N hb2 on2 t2 l.xs.length):=⟨hPH2.h.to hnx5 (fun j hj _ _ c=>hsame5 j hj c) hvl.h (by rw [hsame5 iH (nx_of_get hPH2.h.fr.h) (by omega)];exact hPH2.h.fr.h) (by rw [hsame5 iO (nx_of_get hPH2.h.fr.o) (by omega)];exact hPH2.h.fr.o) hgt5⟩
    clear hb1 hb3 hgt5 hN5 hsame5 hPL hPH hPH2 hPG2 hn1 hG1 hn2 hG2 hokH hpkH hok htc;subst hbr;(repeat' first|simp [*,initEnv]|(apply wpIf_two<;>intro _ h<;>try simp [-Nat.le_zero_eq] at h)|(show wpE 0 (doAppend ..) ..;refine wpE_appW ?_)|(refine after_intro fun v2 H2 hv2 hnx2 hget2 hnew2 hone2 hcel2=>?_));exact ⟨rest,by simp,by simp,nS+1,rfl,hb2,on2,t2,hPH3,hPL2⟩
def numR (p:Problem) (l:Sl Box) (g:List Nat):Int:=if 1 < g.length then ((solsR p l g).length:Int) else areaB l.xs[g[0]!]!
def badR (p:Problem) (l:Sl Box) (g:List Nat):Bool:=decide (1 < g.length)&&(solsR p l g).isEmpty
def hullR (p:Problem) (l:Sl Box) (g:List Nat) (k:Nat):Box:=if 1 < g.length then hX l.xs g (solsR p l g) k else l.xs[g[k]!]!
def oneR (p:Problem) (l:Sl Box) (g:List Nat) (k:Nat):Pt:=if 1 < g.length then oX (l.xs.map lowB) g (solsR p l g) k else lowB l.xs[g[k]!]!
structure SolveJ (p:Problem) (l:Sl Box) (ps:List (List Nat)) (i:Nat) (e:Int) (N:List Int) (hb:List Box) (on:List Pt):Prop where
 e:e=if (ps.take i).any (badR p l)=true then 9 else 0
 n:N=(ps.take i).map (numR p l)
 hl:hb.length=l.xs.length
 ol:on.length=l.xs.length
 at_:∀ g∈ps.take i,∀ k (h:k < g.length),hb[g[k]]! = hullR p l g k∧on[g[k]]! = oneR p l g k
 rest:∀ g∈ps.drop i,∀ x∈g,hb[x]! = l.xs[x]! ∧ on[x]! = lowB l.xs[x]!
theorem flat_disj {ps:List (List Nat)} (h:ps.flatten.Nodup) {i j:Nat} (hi:i < ps.length) (hj:j < ps.length) (hij:i≠j) {x:Nat} (hx:x∈ps[i]):x ∉ ps[j]:=fun hy=>by
 have hp:=(List.pairwise_flatten.1 h).2;rcases Nat.lt_or_gt_of_ne hij with g|g
 ·exact List.pairwise_iff_getElem.1 hp i j hi hj g x hx x hy rfl
 ·exact List.pairwise_iff_getElem.1 hp j i hj hi g x hy x hx rfl
theorem SolveJ.start {p:Problem} {l:Sl Box} {ps:List (List Nat)} (hx:∀ g∈ps,∀ x∈g,x < l.xs.length):SolveJ p l ps 0 0 [] l.xs (l.xs.map lowB) :=
 ⟨rfl,rfl,rfl,by simp,fun g hg=>by simp at hg,fun g hg x hxg=>⟨rfl,by
  have:=hx g (by simpa using hg) x hxg;rw [getElem!_pos (l.xs.map lowB) x (by simpa using this),getElem!_pos l.xs x this,List.getElem_map]⟩⟩
section
variable {p:Problem} {l:Sl Box} {ps:List (List Nat)} {i:Nat} {e:Int} {N:List Int} {hb hb':List Box} {on on':List Pt}
theorem mem_take_i {α:Type} {l:List α} {i:Nat} {a:α} (h:a∈l.take i):∃ j,∃ (hj:j < l.length),j < i∧l[j]=a:=by
 obtain ⟨j,hj,e⟩:=List.getElem_of_mem h;rw [List.length_take] at hj;exact ⟨j,by omega,by omega,by rw [← e,List.getElem_take]⟩
theorem mem_drop_i {α:Type} {l:List α} {i:Nat} {a:α} (h:a∈l.drop i):∃ j,∃ (hj:j < l.length),i≤j∧l[j]=a:=by
 obtain ⟨j,hj,e⟩:=List.getElem_of_mem h;rw [List.length_drop] at hj;exact ⟨i+j,by omega,by omega,by rw [← e,List.getElem_drop]⟩
theorem SolveJ.named (h:SolveJ p l ps i e N hb on) (hd:ps.flatten.Nodup) (hi:i < ps.length) (h1:1 < ps[i].length) (hlt:∀ x∈ps[i],x < l.xs.length) (hG:PartG ps[i] hb on (fun _=>solsR p l ps[i]) hb' on'):SolveJ p l ps (i+1) (if solsR p l ps[i]=[] then 9 else e) (N++[((solsR p l ps[i]).length:Int)]) hb' on':=by
 have hin:ps[i]∈ps.drop i:=by rw [List.drop_eq_getElem_cons hi];exact List.mem_cons_self
 have hr:=h.rest _ hin
 refine ⟨?_,?_,hG.hl.trans h.hl,hG.ol.trans h.ol,fun g hg k hk=>?_,fun g hg x hx=>?_⟩
 ·rw [← take_succ' hi,List.any_append,h.e];have:badR p l ps[i]=(solsR p l ps[i]).isEmpty:=by simp [badR,h1]
  by_cases hs:solsR p l ps[i]=[]
  ·simp [this,hs]
  ·rw [if_neg hs];simp [this,hs]
 ·rw [← take_succ' hi,List.map_append,h.n];simp [numR,h1]
 ·rw [← take_succ' hi,List.mem_append] at hg;rcases hg with hg|hg
  ·obtain ⟨j,hj,hji,e⟩:=mem_take_i hg;have hn:g[k] ∉ ps[i]:=flat_disj hd hj hi (by omega) (e ▸ List.getElem_mem hk);rw [hG.hout _ hn,hG.oout _ hn];exact h.at_ g hg k hk
  ·simp only [List.mem_singleton] at hg;subst hg;have hb1:=hr _ (List.getElem_mem hk);have hlk:=hlt _ (List.getElem_mem hk);rw [hG.hat k hk,hG.oat k hk];unfold hullR oneR;rw [if_pos h1,if_pos h1]
   constructor
   ·unfold hX;rw [getElem!_pos ps[i] k hk,hb1.1]
   ·unfold oX
    cases solsR p l ps[i] with
    | nil =>
     simp only;rw [getElem!_pos ps[i] k hk,hb1.2,getElem!_pos (l.xs.map lowB) _ (by simpa using hlk),List.getElem_map,getElem!_pos l.xs _ hlk]
    | cons a b=>rfl
 ·obtain ⟨j,hj,hji,e⟩:=mem_drop_i hg;have hn:x ∉ ps[i]:=flat_disj hd hj hi (by omega) (e ▸ hx);rw [hG.hout _ hn,hG.oout _ hn]
  refine h.rest g ?_ x hx
  rw [List.drop_eq_getElem_cons hi];exact List.mem_cons_of_mem _ hg
theorem SolveJ.alone (h:SolveJ p l ps i e N hb on) (hi:i < ps.length) (h1:ps[i].length=1) {k0:Nat} (hk:ps[i]=[k0]):SolveJ p l ps (i+1) e (N++[areaB l.xs[k0]!]) hb on:=by
 have hin:ps[i]∈ps.drop i:=by rw [List.drop_eq_getElem_cons hi];exact List.mem_cons_self
 have hr:=h.rest _ hin
 refine ⟨?_,?_,h.hl,h.ol,fun g hg k hk'=>?_,fun g hg x hx=>h.rest g ?_ x hx⟩
 ·rw [← take_succ' hi,List.any_append,h.e];simp [badR,h1]
 ·rw [← take_succ' hi,List.map_append,h.n];simp [numR,hk]
 ·rw [← take_succ' hi,List.mem_append] at hg;rcases hg with hg|hg
  ·exact h.at_ g hg k hk'
  ·simp only [List.mem_singleton] at hg;subst hg;have hb1:=hr _ (List.getElem_mem hk');unfold hullR oneR;rw [if_neg (by omega),if_neg (by omega),getElem!_pos ps[i] k hk'];exact hb1
 ·rw [List.drop_eq_getElem_cons hi];exact List.mem_cons_of_mem _ hg
end
theorem allX_len {l:List Box} {part:List Nat} (hn:part.Nodup):(allX (boxesOf l part)).length=(allC l part).length:=by
 refine nodup_eq (allX_nodup _) (allC_nodup _ _) fun c=>?_
 rw [mem_allX,mem_allC];have e:(boxesOf l part).length=part.length:=by simp [boxesOf]
 constructor
 ·rintro ⟨h1,h2⟩;exact ⟨by rw [h1,e],fun k h h'=>by have:=h2 k (by rw [e];exact h) h';simpa [boxesOf] using this⟩
 ·rintro ⟨h1,h2⟩
  refine ⟨by rw [h1,e],fun k h h'=>?_⟩
  rw [e] at h
  simpa [boxesOf] using h2 k h h'
theorem partIn {p:Problem} (ok:CheckOk p) {l:List Box} (hr:IsNar failsP p.facts.xs p.boxes.xs (some l)) {m:Nat→Nat} (hm:IsCls (edgesL p.facts.xs) p.boxes.xs.length m) {i:Nat} {e:Int} {N:List Int} {hb:List Box} {on:List Pt} (hi:i < (partsL' m p.boxes.xs.length).length) (hv:volP l (partsL' m p.boxes.xs.length)[i]≤65536) (h1:1 < (partsL' m p.boxes.xs.length)[i].length) (hJ:SolveJ p (Sl.mk false l) (partsL' m p.boxes.xs.length) i e N hb on) (hok:∀ q∈on,okP q):PartIn p (Sl.mk false l) (partsL' m p.boxes.xs.length)[i] on:=by
 have hl:l.length=p.boxes.xs.length:=hr.1.sub.1;have hd:=parts_div hm (fact_named ok);have hpo:=parts_ok m p.boxes.xs.length;have hin:=List.getElem_mem hi;obtain ⟨hnd,hlt⟩:=hd.one _ hin;have hval:=valid_sub ok hr.1.sub hr.1.wf;have hwf:Wf l:=hr.1.wf;have nb:=ok.nb;have hlt':∀ x∈(partsL' m p.boxes.xs.length)[i],x < l.length:=fun x hx=>by rw [hl];exact hlt x hx
 refine ⟨ok.nf,by rw [Sl.xs_mk];omega,by have:=(hpo.2 _ hin).1;omega,by omega,hnd,by rw [Sl.xs_mk];exact hlt',by rw [Sl.xs_mk];exact hval,fun f hf=>?_,fun f hf ha=>hd.within f hf _ hin ha,?_,by rw [hJ.ol],hok,?_,?_⟩
 ·rw [Sl.xs_mk,hl];exact ok.fact f hf
 ·rw [Sl.xs_mk,allX_len hnd];unfold volP at hv;rw [if_pos h1] at hv;have:=volG_len (fun k hk=>by rw [getElem!_pos l k hk];exact hwf _ (List.getElem_mem hk)) _ 1 hlt' (by omega) hv;omega
 ·refine List.ext_getElem (by simp [pick,boxesOf]) fun k h2 h3=>?_
  have hk:k < (partsL' m p.boxes.xs.length)[i].length:=by rw [pick_len] at h2;exact h2
  have hdr:(partsL' m p.boxes.xs.length)[i]∈(partsL' m p.boxes.xs.length).drop i:=by rw [List.drop_eq_getElem_cons hi];exact List.mem_cons_self
  rw [pick_get hk,(hJ.rest _ hdr _ (List.getElem_mem hk)).2];simp [boxesOf]
 ·intro b hb';unfold boxesOf at hb';obtain ⟨x,hx,rfl⟩:=List.mem_map.1 hb';rw [Sl.xs_mk,getElem!_pos l x (hlt' x hx)];exact hwf _ (List.getElem_mem _)
def SolveOut (p:Problem) (E:Int) (nS:Sl Int) (hS:Sl Box) (oS:Sl Pt):Prop :=
 (checkS p≠0∧E=checkS p∧nS=.nil∧hS=.nil∧oS=.nil) ∨
 (checkS p=0∧IsNar failsP p.facts.xs p.boxes.xs none∧E=9∧nS=.nil∧hS=.nil∧oS=.nil) ∨
 (checkS p=0∧∃ l m,IsNar failsP p.facts.xs p.boxes.xs (some l)∧IsCls (edgesL p.facts.xs) p.boxes.xs.length m∧65536 < volL l (partsL' m p.boxes.xs.length)∧E=2∧nS=.nil∧hS=.nil∧oS=.nil) ∨
 (checkS p=0∧∃ l m N hb on,IsNar failsP p.facts.xs p.boxes.xs (some l)∧IsCls (edgesL p.facts.xs) p.boxes.xs.length m∧volL l (partsL' m p.boxes.xs.length)≤65536∧SolveJ p (Sl.mk false l) (partsL' m p.boxes.xs.length) (partsL' m p.boxes.xs.length).length E N hb on∧nS=Sl.of N∧hS=Sl.mk false hb∧oS=Sl.of on)
theorem volL_le {l:List Box}:∀ {ps:List (List Nat)} {x:Int},x≤65536→(∀ g∈ps,volP l g≤65536)→ps.foldl (fun x g=>max x (volP l g)) x≤65536
 | [],x,hx,_=>hx
 | g::ps,x,hx,h=>by
  rw [List.foldl_cons];exact volL_le (by have:=h g List.mem_cons_self;omega) fun g' hg=>h g' (List.mem_cons_of_mem _ hg)
theorem volP_le {l:List Box} {ps:List (List Nat)} (h:volL l ps≤65536):∀ g∈ps,volP l g≤65536:=fun g hg=>Int.le_trans (volL_max hg) h
def volTo' (l:List Box) (ps:List (List Nat)) (i:Nat):Prop:=∀ j (h:j < ps.length),j < i→volP l ps[j]≤65536
theorem volTo'_all {l:List Box} {ps:List (List Nat)} (h:volTo' l ps ps.length):volL l ps≤65536:=volL_le (by omega) fun g hg=>by
 obtain ⟨j,hj,rfl⟩:=List.getElem_of_mem hg;exact h j hj hj
theorem nil1:(Sl.nil:Sl Int).pv intF 1=.nils:=rfl
theorem nil2:(Sl.nil:Sl Box).pv Box.cells 4=.nils:=rfl
theorem nil3:(Sl.nil:Sl Pt).pv Pt.cells 2=.nils:=rfl
theorem partIn' {p:Problem} (ok:CheckOk p) {l:List Box} {L:Sl Box} {ps:List (List Nat)} {q:List Nat} (hr:IsNar failsP p.facts.xs p.boxes.xs (some l)) {m:Nat→Nat} (hm:IsCls (edgesL p.facts.xs) p.boxes.xs.length m) (hps:partsL' m p.boxes.xs.length=ps) (hL:Sl.mk false l=L) {i:Nat} {e:Int} {N:List Int} {hb:List Box} {on:List Pt} (hi:i < ps.length) (hq:ps[i]=q) (hv:volP l q≤65536) (h1:1 < q.length) (hJ:SolveJ p L ps i e N hb on) (hok:∀ x∈on,okP x):PartIn p L q on:=by
 subst hps hL hq;exact partIn ok hr hm hi hv h1 hJ hok
theorem of_ne {α:Type} {l:List α} (h:l≠[]):Sl.of l=.mk false l:=by
 cases l with
 | nil=>exact absurd rfl h
 | cons a l=>rfl
theorem SolveJ.uniq {p:Problem} {l:Sl Box} {ps:List (List Nat)} {e e':Int} {N N':List Int} {hb hb':List Box} {on on':List Pt} (hd:∀ x,x < l.xs.length→∃ g∈ps,x∈g) (h:SolveJ p l ps ps.length e N hb on) (h':SolveJ p l ps ps.length e' N' hb' on'):N'=N∧hb'=hb∧on'=on∧e'=e:=by
 have key:∀ x,x < l.xs.length→hb'[x]! = hb[x]! ∧ on'[x]! = on[x]! := fun x hx=>by
  obtain ⟨g,hg,hxg⟩:=hd x hx;obtain ⟨k,hk,rfl⟩:=List.getElem_of_mem hxg;have h1:=h.at_ g (by rw [List.take_length];exact hg) k hk;have h2:=h'.at_ g (by rw [List.take_length];exact hg) k hk;exact ⟨h2.1.trans h1.1.symm,h2.2.trans h1.2.symm⟩
 refine ⟨h'.n.trans h.n.symm,?_,?_,h'.e.trans h.e.symm⟩
 ·refine List.ext_getElem (h'.hl.trans h.hl.symm) fun x h1 h2=>?_
  have:=(key x (by rw [← h.hl];exact h2)).1;rwa [getElem!_pos hb' x h1,getElem!_pos hb x h2] at this
 ·refine List.ext_getElem (h'.ol.trans h.ol.symm) fun x h1 h2=>?_
  have:=(key x (by rw [← h.ol];exact h2)).2;rwa [getElem!_pos on' x h1,getElem!_pos on x h2] at this
theorem not_zero {H:Heap} {v:AV} {N:List Int} (h0:H.get 0=.cells true [.pure (.int .i64 0),.pure .nils,.pure .nils,.pure .nils]) (h:GrowV intF 1 H v N):¬ Names v 0:=fun ⟨sz,off,m,hv⟩=>by
 rcases h.1 with ⟨_,rfl⟩|⟨id,rfl,hg⟩
 ·simp at hv
 ·simp only [AV.row.injEq] at hv;rw [hv.1,h0] at hg;simp only [AObj.cells.injEq,true_and] at hg
  match N,hg with
  | [],hg=>simp [rowOf] at hg
  | [a],hg=>simp [rowOf,intF] at hg
  | a::b::N,hg=>simp [rowOf,intF] at hg
theorem PartG.okP {p:Problem} {l:Sl Box} {part:List Nat} {h0 hb:List Box} {o0 on:List Pt} (h:PartG part h0 o0 (fun _=>solsR p l part) hb on) (hi:∀ i∈part,i < l.xs.length) (hv:∀ b∈l.xs,validB b=true) (hol:o0.length=l.xs.length) (ho:∀ q∈o0,Vm.okP q):∀ q∈on,Vm.okP q:=fun q hq=>by
 obtain ⟨j,hj,rfl⟩:=List.getElem_of_mem hq;have hj2:j < o0.length:=by rw [← h.ol];exact hj
 by_cases hm:j∈part
 ·obtain ⟨k,hk,rfl⟩:=List.getElem_of_mem hm;have:=h.oat k hk;rw [getElem!_pos on _ hj] at this;rw [this]
  cases hS:solsR p l part with
  | nil =>
   simp only [oX];rw [getElem!_pos part k hk,getElem!_pos o0 _ hj2];exact ho _ (List.getElem_mem hj2)
  | cons c r =>
   have hc:c∈allX (boxesOf l.xs part):=(List.mem_filter.1 (show c∈solsR p l part by rw [hS];exact List.mem_cons_self)).1;obtain ⟨h1,h2⟩:=mem_pick hc;have hkc:k < c.length:=by rw [h1];exact hk
   have h3:=h2 k hk hkc;have hlt:=hi _ (List.getElem_mem hk);rw [getElem!_pos l.xs _ hlt] at h3;have hb:=valid_iff.1 (hv _ (List.getElem_mem hlt));simp only [oX];rw [getElem!_pos c k hkc];unfold inB' at h3;unfold Vm.okP;omega
 ·have:=h.oout j hm;rw [getElem!_pos on j hj,getElem!_pos o0 j hj2] at this;rw [this];exact ho _ (List.getElem_mem hj2)
theorem sh33:G.shared 33=false:=by decide
theorem e33 (n:Nat) (p:Problem) (E:Int) (nS:Sl Int) (hS:Sl Box) (oS:Sl Pt) (h:SolveOut p E nS hS oS):callP G (n+10) 33 [.agg p.cells]=some (.agg [.int .i64 E,nS.pv intF 1,hS.pv Box.cells 4,oS.pv Pt.cells 2]):=by
 refine callP_of (ext_none _) rfl g33 rfl ?_
 have hc:=fun H=>call_pureC (G:=G) (n:=n+9) (H:=H) (caps:=[]) (ps:=[.agg p.cells]) sh28 (e28 (n+6) p);rcases h with ⟨h0,rfl,rfl,rfl,rfl⟩|⟨h0,hr,rfl,rfl,rfl,rfl⟩|⟨h0,l,m,hr,hm,hv,rfl,rfl,rfl,rfl⟩|⟨h0,l,m,N,hb,on,hr,hm,hv,hJ,rfl,rfl,rfl⟩
 ·rw [nil1,nil2,nil3];generalize checkS p=c at *;simp only [Problem.cells,List.map_cons,List.map_nil] at hc;(repeat' first|simp [*,initEnv,c33,Problem.cells]|(apply wpIf_two<;>intro _ h<;>try simp [-Nat.le_zero_eq] at h)|(show wpE 0 (doAppend ..) ..;refine wpE_appW ?_)|(refine after_intro fun v2 H2 hv2 hnx2 hget2 hnew2 hone2 hcel2=>?_))
 ·rw [nil1,nil2,nil3];have hn:=fun H=>call_pureC (G:=G) (n:=n+9) (H:=H) (caps:=[]) (ps:=[.agg p.cells]) sh63 (e63 n p (check_ok.1 h0) none hr);rw [h0] at hc;have hnone:refPV none=.nils:=rfl;rw [hnone] at hn;simp only [Problem.cells,List.map_cons,List.map_nil] at hc hn;clear h0 hr hnone;(repeat' first|simp [*,initEnv,c33,Problem.cells]|(apply wpIf_two<;>intro _ h<;>try simp [-Nat.le_zero_eq] at h)|(show wpE 0 (doAppend ..) ..;refine wpE_appW ?_)|(refine after_intro fun v2 H2 hv2 hnx2 hget2 hnew2 hone2 hcel2=>?_))
 ·rw [nil1,nil2,nil3];have ok:=check_ok.1 h0;have hl:l.length=p.boxes.xs.length:=hr.1.sub.1;have hn:=fun H=>call_pureC (G:=G) (n:=n+9) (H:=H) (caps:=[]) (ps:=[.agg p.cells]) sh63 (e63 n p ok (some l) hr);have hp:=fun H=>call_pureC (G:=G) (n:=n+9) (H:=H) (caps:=[]) (ps:=[.agg p.cells]) sh29 (e29 (n+7) p ok m hm);have hpo:=parts_ok m p.boxes.xs.length;have nb:=ok.nb;have hvl:Hide (∀ (x:List Nat),x∈partsL' m p.boxes.xs.length→∀ H,doCall (calleeOf G (n+9)) H (.pure (.func 66 [])) [.pure (.agg p.cells),.pure ((Sl.mk false l).pv Box.cells 4),.pure (.agg (partF x))]=some (.val (.pure (.int .i64 (volP l x))))):=⟨fun x hx H=>by
   obtain ⟨hx0,hx1⟩:=namedA_part ok hm hx;exact call_pureC (caps:=[]) (ps:=[_,_,_]) sh66 (e66 (n+7) p (Sl.mk false l) x ok.nf (by rw [Sl.xs_mk];omega) (by have:=(hpo.2 x hx).1;omega) hx0 (by rw [Sl.xs_mk];exact valid_sub ok hr.1.sub hr.1.wf) (by rw [Sl.xs_mk,hl];exact (hpo.2 x hx).2) hx1)⟩
  have hq:refPV (some l)=(Sl.mk false l).pv Box.cells 4:=rfl;rw [h0] at hc;rw [hq] at hn;rw [partsPV_sl] at hp;obtain ⟨s,hs⟩:∃ s:Sl (List Nat),Sl.of (partsL' m p.boxes.xs.length)=s:=⟨_,rfl⟩
  have hsx:partsL' m p.boxes.xs.length=s.xs:=by rw [← hs,Sl.xs_of]
  rw [hs] at hp;have ns:s.xs.length≤12:=by rw [← hsx];omega
  rw [hsx] at hvl hv;have hvH:=Hide.mk hv;generalize (Sl.mk false l).pv Box.cells 4=y at *;simp only [Problem.cells,List.map_cons,List.map_nil] at hc hn hp hvl;clear h0 hr hm hpo hq ok nb hl hs hsx hv;(repeat' first|simp [*,initEnv,c33,Problem.cells]|(apply wpIf_two<;>intro _ h<;>try simp [-Nat.le_zero_eq] at h)|(show wpE 0 (doAppend ..) ..;refine wpE_appW ?_)|(refine after_intro fun v2 H2 hv2 hnx2 hget2 hnew2 hone2 hcel2=>?_));clear hc hn hp
  refine wp_loopF [(7,7),(27,41)] (fun (i:Nat) env H=>env 7=.pure (.int .i64 i)∧i≤s.xs.length∧H=Heap.empty.alloc (.cells true [.pure (.int .i64 0),.pure .nils,.pure .nils,.pure .nils])∧Hide (volTo' l s.xs i)) (fun i=>s.xs.length - i) 0 ?_ ?_ ?_ ?_
  ·decide
  ·exact ⟨by simp,by omega,rfl,⟨fun j _ h=>by omega⟩⟩
  ·simp only [loopFuel];omega
  rintro i env H ⟨g13,hi,rfl,hx⟩
  by_cases hlt:i < s.xs.length
  ·have w1:IntKind.i64.wrap ((i:Int)+1)=(i+1:Nat):=by rw [wrap64 (by omega) (by omega)];omega
   have hltI:(i:Int) < s.xs.length:=by omega
   obtain ⟨q,hq⟩:∃ q,s.xs[i]=q:=⟨_,rfl⟩
   have hv:=hvl.h q (by rw [← hq];exact List.getElem_mem hlt);obtain ⟨z,hz⟩:∃ z,volP l q=z:=⟨_,rfl⟩
   rw [hz] at hv;have hx2:z≤65536→Hide (volTo' l s.xs (i+1)):=fun hle=>⟨fun j hj hji=>by
    rcases Nat.lt_or_ge j i with g|g
    ·exact hx.h j hj g
    ·obtain rfl:j=i:=by omega
     rw [hq,hz];exact hle⟩
   simp only [partF] at hv;clear hx hz
   by_cases hle:z≤65536
   ·have hx2:=hx2 hle;(repeat' first|simp [*,initEnv,partF]|(apply wpIf_two<;>intro _ h<;>try simp [-Nat.le_zero_eq] at h)|(show wpE 0 (doAppend ..) ..;refine wpE_appW ?_)|(refine after_intro fun v2 H2 hv2 hnx2 hget2 hnew2 hone2 hcel2=>?_));exact ⟨i+1,by omega,by omega,by omega,hx2⟩
   ·have hle':65536 < z:=by omega
    clear hx2 hle;(repeat' first|simp [*,initEnv,partF]|(apply wpIf_two<;>intro _ h<;>try simp [-Nat.le_zero_eq] at h)|(show wpE 0 (doAppend ..) ..;refine wpE_appW ?_)|(refine after_intro fun v2 H2 hv2 hnx2 hget2 hnew2 hone2 hcel2=>?_))
  ·have hiN:i=s.xs.length:=by omega
   subst hiN;have h1:=volTo'_all hx.h;have h2:=hvH.h;omega
 ·have ok:=check_ok.1 h0;have hl:l.length=p.boxes.xs.length:=hr.1.sub.1;have hn:=fun H=>call_pureC (G:=G) (n:=n+9) (H:=H) (caps:=[]) (ps:=[.agg p.cells]) sh63 (e63 n p ok (some l) hr);have hp:=fun H=>call_pureC (G:=G) (n:=n+9) (H:=H) (caps:=[]) (ps:=[.agg p.cells]) sh29 (e29 (n+7) p ok m hm);have hpo:=parts_ok m p.boxes.xs.length;have nb:=ok.nb;have hvl:Hide (∀ (x:List Nat),x∈partsL' m p.boxes.xs.length→∀ H,doCall (calleeOf G (n+9)) H (.pure (.func 66 [])) [.pure (.agg p.cells),.pure ((Sl.mk false l).pv Box.cells 4),.pure (.agg (partF x))]=some (.val (.pure (.int .i64 (volP l x))))):=⟨fun x hx H=>by
   obtain ⟨hx0,hx1⟩:=namedA_part ok hm hx;exact call_pureC (caps:=[]) (ps:=[_,_,_]) sh66 (e66 (n+7) p (Sl.mk false l) x ok.nf (by rw [Sl.xs_mk];omega) (by have:=(hpo.2 x hx).1;omega) hx0 (by rw [Sl.xs_mk];exact valid_sub ok hr.1.sub hr.1.wf) (by rw [Sl.xs_mk,hl];exact (hpo.2 x hx).2) hx1)⟩
  have hq:refPV (some l)=(Sl.mk false l).pv Box.cells 4:=rfl;rw [h0] at hc;rw [hq] at hn;rw [partsPV_sl] at hp;obtain ⟨s,hs⟩:∃ s:Sl (List Nat),Sl.of (partsL' m p.boxes.xs.length)=s:=⟨_,rfl⟩
  have hsx:partsL' m p.boxes.xs.length=s.xs:=by rw [← hs,Sl.xs_of]
  rw [hs] at hp;have ns:s.xs.length≤12:=by rw [← hsx];omega
  rw [hsx] at hvl;obtain ⟨L,hL⟩:∃ L:Sl Box,Sl.mk false l=L:=⟨_,rfl⟩
  have hLx:L.xs=l:=by rw [← hL,Sl.xs_mk]
  rw [hL] at hn hvl;have hsc:Hide (∀ Hx,sliceCells Hx 4 (.pure (L.pv Box.cells 4))=some (rowOf Box.cells l,l.length)):=⟨fun Hx=>by rw [← hLx];exact sliceCells_sl' (f:=Box.cells) (sz:=4) (fun _=>rfl) _⟩
  have hJH:=Hide.mk hJ;have hvH:=Hide.mk hv;have hsxH:=Hide.mk hsx;have hrH:=Hide.mk hr;have hmH:=Hide.mk hm;have hLH:=Hide.mk hL;have hLxH:=Hide.mk hLx;have nl:L.xs.length≤12:=by rw [hLx];omega
  have hlH:=Hide.mk (show L.xs.length=p.boxes.xs.length by rw [hLx];exact hl);have okH:=Hide.mk ok;have hRES:Hide (∀ e' N' hb' on',SolveJ p L s.xs s.xs.length e' N' hb' on'→e'=E∧N'=N∧hb'=hb∧on'=on):=⟨fun e' N' hb' on' h=>by
   have hd:=parts_div hm (fact_named ok);rw [← hL,← hsx] at h;have:=SolveJ.uniq (fun x hx=>by
    rw [Sl.xs_mk,hl] at hx;exact List.mem_flatten.1 ((hd.all x).1 hx)) hJ h
   exact ⟨this.2.2.2,this.1,this.2.1,this.2.2.1⟩⟩
  simp only [Problem.cells,List.map_cons,List.map_nil] at hc hn hp hvl;have hpos:Hide (p.boxes.xs=[]∨0 < L.xs.length):=⟨by
   cases hb0:p.boxes.xs with
   | nil=>exact .inl rfl
   | cons a b=>right;rw [hlH.h,hb0];simp⟩
  clear h0 hr hm hpo hq ok nb hl hs hsx hv hJ hL hLx;(repeat' first|simp [*,initEnv,c33,Problem.cells]|(apply wpIf_two<;>intro _ h<;>try simp [-Nat.le_zero_eq] at h)|(show wpE 0 (doAppend ..) ..;refine wpE_appW ?_)|(refine after_intro fun v2 H2 hv2 hnx2 hget2 hnew2 hone2 hcel2=>?_));clear hc hn hp
  refine wp_loopF [(7,7),(27,41)] (fun (i:Nat) env H=>env 7=.pure (.int .i64 i)∧i≤s.xs.length∧H=Heap.empty.alloc (.cells true [.pure (.int .i64 0),.pure .nils,.pure .nils,.pure .nils])) (fun i=>s.xs.length - i) 0 ?_ ?_ ?_ ?_
  ·decide
  ·exact ⟨by simp,by omega,rfl⟩
  ·simp only [loopFuel];omega
  rintro i env H ⟨g13,hi,rfl⟩
  by_cases hlt:i < s.xs.length
  ·have w1:IntKind.i64.wrap ((i:Int)+1)=(i+1:Nat):=by rw [wrap64 (by omega) (by omega)];omega
   have hltI:(i:Int) < s.xs.length:=by omega
   obtain ⟨q,hq⟩:∃ q,s.xs[i]=q:=⟨_,rfl⟩
   have hv:=hvl.h q (by rw [← hq];exact List.getElem_mem hlt);have hle:volP l q≤65536:=volP_le hvH.h q (by rw [hsxH.h,← hq];exact List.getElem_mem hlt);obtain ⟨z,hz⟩:∃ z,volP l q=z:=⟨_,rfl⟩
   rw [hz] at hv hle;have hle2:¬ 65536 < z:=by omega
   simp only [partF] at hv;clear hz hle;(repeat' first|simp [*,initEnv,partF]|(apply wpIf_two<;>intro _ h<;>try simp [-Nat.le_zero_eq] at h)|(show wpE 0 (doAppend ..) ..;refine wpE_appW ?_)|(refine after_intro fun v2 H2 hv2 hnx2 hget2 hnew2 hone2 hcel2=>?_));exact ⟨i+1,by omega,by omega,by omega⟩
  have hiN:i=s.xs.length:=by omega
  subst hiN;clear hvl;rcases hpos.h with hb0|hb0
  ·have hlL:L.xs.length=0:=by rw [hlH.h,hb0];rfl
   have hLn:L.xs=[]:=List.eq_nil_of_length_eq_zero hlL;have hs0:s.xs.length=0:=by
    have:=(parts_ok m p.boxes.xs.length).1;rw [hsxH.h,hb0] at this
    simpa using this
   have hR:=hRES.h 0 [] L.xs (L.xs.map lowB) (by
    rw [hs0]
    refine SolveJ.start fun g hg=>?_
    rw [List.eq_nil_of_length_eq_zero hs0] at hg;simp at hg)
   obtain ⟨rfl,rfl,r3,r4⟩:=hR;rw [hLn] at r3 r4;subst r3;have r4:on=[]:=r4.symm;subst r4;have hap:doAppend ((Heap.empty.alloc (AObj.cells true [.pure (.int .i64 0),.pure .nils,.pure .nils,.pure .nils])).alloc (AObj.cells true [])) 4 32 (.row 1 4 0 0) (.pure (L.pv Box.cells 4))=some (.upd (.row 1 4 0 0) (((Heap.empty.alloc (AObj.cells true [.pure (.int .i64 0),.pure .nils,.pure .nils,.pure .nils])).alloc (AObj.cells true [])).set 1 (.cells true []))):=by
    have h:=hsc.h ((Heap.empty.alloc (AObj.cells true [.pure (.int .i64 0),.pure .nils,.pure .nils,.pure .nils])).alloc (AObj.cells true []));rw [← hLxH.h,hLn] at h;have hr0:rowOf Box.cells []=[]:=rfl;rw [hr0] at h;simp only [doAppend,h];rfl
   have z1:(Sl.of ([]:List Int)).pv intF 1=.nils:=rfl;have z2:(Sl.of ([]:List Pt)).pv Pt.cells 2=.nils:=rfl;have z3:(Sl.mk false ([]:List Box)).pv Box.cells 4=.slice false 4 []:=rfl;rw [z1,z2,z3];have hb0H:=Hide.mk hb0;clear hRES hJH hvH hsxH hrH hmH hLH hLxH hlH okH hpos hsc hLn z1 z2 z3 hb0;(repeat' first|simp [*,initEnv]|(apply wpIf_two<;>intro _ h<;>try simp [-Nat.le_zero_eq] at h)|(show wpE 0 (doAppend ..) ..;refine wpE_appW ?_)|(refine after_intro fun v2 H2 hv2 hnx2 hget2 hnew2 hone2 hcel2=>?_))
   refine wp_loopF [(9,9),(46,69)] (fun (u:Nat) env H=>env 9=.pure (.int .i64 0)∧H.get 0=.cells true [.pure (.int .i64 0),.pure .nils,.pure .nils,.pure .nils]∧H.get 1=.cells true []∧H.get 2=.cells true [.pure (.int .i64 0),.pure .nils,.row 1 4 0 0,.pure .nils]) (fun u=>u) 0 ?_ ?_ ?_ ?_
   ·decide
   ·exact ⟨by simp,by simp,by simp,by simp⟩
   ·simp only [loopFuel];omega
   clear hap;rintro u env2 H5 ⟨g9,q0,q1,q2⟩;have i0:=nx_of_get q0;have i2:=nx_of_get q2;(repeat' first|simp [*,initEnv]|(apply wpIf_two<;>intro _ h<;>try simp [-Nat.le_zero_eq] at h)|(show wpE 0 (doAppend ..) ..;refine wpE_appW ?_)|(refine after_intro fun v2 H2 hv2 hnx2 hget2 hnew2 hone2 hcel2=>?_))
   refine wp_loopF [(10,10),(70,82)] (fun (u:Nat) env H=>env 10=.pure (.int .i64 0)∧H.get 0=.cells true [.pure (.int .i64 0),.pure .nils,.pure .nils,.pure .nils]∧H.get 1=.cells true []∧H.get 2=.cells true [.pure (.int .i64 0),.pure .nils,.row 1 4 0 0,.pure .nils]) (fun u=>u) 0 ?_ ?_ ?_ ?_
   ·decide
   ·exact ⟨by simp,q0,q1,q2⟩
   ·simp only [loopFuel];omega
   clear q0 q1 q2 i0 i2;rintro u2 env3 H6 ⟨g10,q0,q1,q2⟩;have i0:=nx_of_get q0;have i2:=nx_of_get q2;have hH1:=row_res (n:=9) (id:=1) (l:=([]:List Box)) (f:=Box.cells) (sz:=4) (H:=H6.set 0 (.cells true [.pure (.int .i64 0),.pure .nils,.row 1 4 0 0,.pure .nils])) (m:=0) (fun _=>rfl) (by rw [get_set_ne (show 1≠0 by omega)];exact q1) rfl;have z3:(Sl.mk false ([]:List Box)).pv Box.cells 4=.slice false 4 []:=rfl;rw [z3] at hH1;obtain ⟨ids,hids⟩:=FrzK.aggV (n:=11) (FrzL.cons (FrzK.pure (.int .i64 0)) (.cons (FrzK.pure .nils) (.cons hH1 (.cons (FrzK.pure .nils) .nil))));clear hH1 z3;(repeat' first|simp [*,initEnv]|(apply wpIf_two<;>intro _ h<;>try simp [-Nat.le_zero_eq] at h)|(show wpE 0 (doAppend ..) ..;refine wpE_appW ?_)|(refine after_intro fun v2 H2 hv2 hnx2 hget2 hnew2 hone2 hcel2=>?_));exact ⟨ids,hids⟩
  (repeat' first|simp [*,initEnv]|(apply wpIf_two<;>intro _ h<;>try simp [-Nat.le_zero_eq] at h)|(show wpE 0 (doAppend ..) ..;refine wpE_appW ?_)|(refine after_intro fun v2 H2 hv2 hnx2 hget2 hnew2 hone2 hcel2=>?_))
  refine wpE_appendL (f:=Box.cells) (l:=[]) (m:=l) (.inr ⟨1,rfl,by simp [rowOf_nil]⟩) (fun _=>rfl) (by decide) (fun _=>rfl) (hsc.h _) (by have:=hLxH.h;simp [maxCells];rw [← this];omega) ?_
  intro v3 H3 ho3 hnx3 hget3 hnew3;obtain ⟨iH,rfl,hgH⟩:=ho3.row (by intro g;rw [List.nil_append,← hLxH.h] at g;rw [g] at hb0;simp at hb0);rw [List.nil_append] at hgH;rw [List.nil_append,← hLxH.h];rw [← hLxH.h] at hgH;have hiH:0 < iH:=by
   rcases hnew3 iH ⟨_,_,_,rfl⟩ with ⟨_,_,_,g⟩|g
   ·simp at g;omega
   ·simp at g;omega
  have hg0:H3.get 0=.cells true [.pure (.int .i64 0),.pure .nils,.pure .nils,.pure .nils]:=by
   rw [hget3 0 (by simp) (fun ⟨_,_,_,g⟩=>by simp at g)];simp
  clear hget3 hnew3 ho3;(repeat' first|simp [*,initEnv]|(apply wpIf_two<;>intro _ h<;>try simp [-Nat.le_zero_eq] at h)|(show wpE 0 (doAppend ..) ..;refine wpE_appW ?_)|(refine after_intro fun v2 H2 hv2 hnx2 hget2 hnew2 hone2 hcel2=>?_));obtain ⟨F,hFe⟩:∃ F,H3.nx=F:=⟨_,rfl⟩
  have hFp:1 < F:=by simp at hnx3;omega
  have hiF:iH < F:=by rw [← hFe];exact nx_of_get hgH
  rw [hFe];have hH1:((H3.alloc (.cells true [.pure (.int .i64 0),.pure .nils,.pure .nils,.pure .nils])).set F (.cells true [.pure (.int .i64 0),.pure .nils,.row iH 4 0 L.xs.length,.pure .nils])).get F=.cells true [.pure (.int .i64 0),.pure .nils,.row iH 4 0 L.xs.length,.pure .nils]:=get_set_own (by simp;omega);have hH2:((H3.alloc (.cells true [.pure (.int .i64 0),.pure .nils,.pure .nils,.pure .nils])).set F (.cells true [.pure (.int .i64 0),.pure .nils,.row iH 4 0 L.xs.length,.pure .nils])).get iH=.cells true (rowOf Box.cells L.xs):=by rw [get_set_ne (by omega),get_alloc_lt (by omega),hgH]
  have hH3:((H3.alloc (.cells true [.pure (.int .i64 0),.pure .nils,.pure .nils,.pure .nils])).set F (.cells true [.pure (.int .i64 0),.pure .nils,.row iH 4 0 L.xs.length,.pure .nils])).get 0=.cells true [.pure (.int .i64 0),.pure .nils,.pure .nils,.pure .nils]:=by rw [get_set_ne (by omega),get_alloc_lt (by omega),hg0]
  generalize (H3.alloc (.cells true [.pure (.int .i64 0),.pure .nils,.pure .nils,.pure .nils])).set F (.cells true [.pure (.int .i64 0),.pure .nils,.row iH 4 0 L.xs.length,.pure .nils])=H4 at *;clear hgH hg0 hnx3 hFe
  refine wp_loopF [(9,9),(46,69)] (fun (i:Nat) env H=>env 9=.pure (.int .i64 i)∧i≤L.xs.length∧H.get iH=.cells true (rowOf Box.cells L.xs)∧H.get 0=.cells true [.pure (.int .i64 0),.pure .nils,.pure .nils,.pure .nils]∧∃ vO,H.get F=.cells true [.pure (.int .i64 0),.pure .nils,.row iH 4 0 L.xs.length,vO]∧GrowV Pt.cells 2 H vO ((L.xs.map lowB).take i)∧¬ Names vO F∧¬ Names vO iH∧¬ Names vO 0) (fun i=>L.xs.length - i) 0 ?_ ?_ ?_ ?_
  ·decide
  ·exact ⟨by simp,by omega,hH2,hH3,.pure .nils,hH1,by simpa using GrowV.nil,fun ⟨_,_,_,g⟩=>by simp at g,fun ⟨_,_,_,g⟩=>by simp at g,fun ⟨_,_,_,g⟩=>by simp at g⟩
  ·simp only [loopFuel];omega
  clear hH1 hH2 hH3;rintro i env2 H5 ⟨g9,hi,hgI,hg0,vO,hgF,hvO,n1,n2,n3⟩;have i1:=nx_of_get hgF;have i2:=nx_of_get hgI;have i3:=nx_of_get hg0
  by_cases hlt:i < L.xs.length
  ·have w1:IntKind.i64.wrap ((i:Int)+1)=(i+1:Nat):=by rw [wrap64 (by omega) (by omega)];omega
   have hltI:(i:Int) < L.xs.length:=by omega
   have hst:=Hide.mk (map_take_succ (f:=lowB) hlt);have hlT:((L.xs.map lowB).take i).length=i:=by simp;omega
   (repeat' first|simp [*,initEnv,Box.cells,Span.cells]|(apply wpIf_two<;>intro _ h<;>try simp [-Nat.le_zero_eq] at h)|(show wpE 0 (doAppend ..) ..;refine wpE_appW ?_)|(refine after_intro fun v2 H2 hv2 hnx2 hget2 hnew2 hone2 hcel2=>?_));have q1:H2.get F=.cells true [.pure (.int .i64 0),.pure .nils,.row iH 4 0 L.xs.length,vO]:=by rw [hget2 F (by simp;omega) n1,get_alloc_lt i1];exact hgF
   have q2:H2.get iH=.cells true (rowOf Box.cells L.xs):=by rw [hget2 iH (by simp;omega) n2,get_alloc_lt i2];exact hgI
   have q3:H2.get 0=.cells true [.pure (.int .i64 0),.pure .nils,.pure .nils,.pure .nils]:=by rw [hget2 0 (by simp) n3,get_alloc_lt i3];exact hg0
   have m1:¬ Names v2 F:=fun h=>by have:=hnew2 F h;simp at this;omega
   have m2:¬ Names v2 iH:=fun h=>by have:=hnew2 iH h;simp at this;omega
   have m3:¬ Names v2 0:=fun h=>by have:=hnew2 0 h;simp at this
   have j1:=nx_of_get q1;have r1:∀ o,(H2.set F o).get iH=.cells true (rowOf Box.cells L.xs):=fun o=>by rw [get_set_ne (by omega)];exact q2
   have r2:∀ o,(H2.set F o).get 0=.cells true [.pure (.int .i64 0),.pure .nils,.pure .nils,.pure .nils]:=fun o=>by rw [get_set_ne (by omega)];exact q3
   have r3:∀ o,(H2.set F o).get F=o:=fun o=>get_set_own j1;have hvS:Hide (∀ o,GrowV Pt.cells 2 (H2.set F o) v2 ((L.xs.map lowB).take (i+1))):=⟨fun o=>(hv2.set m1 o).cast hst.h⟩
   clear hget2 hnew2 hv2 hvO n1 n2 n3 hgF hgI hg0 hst;(repeat' first|simp [*,initEnv]|(apply wpIf_two<;>intro _ h<;>try simp [-Nat.le_zero_eq] at h)|(show wpE 0 (doAppend ..) ..;refine wpE_appW ?_)|(refine after_intro fun v2 H2 hv2 hnx2 hget2 hnew2 hone2 hcel2=>?_));exact ⟨i+1,by omega,by omega,by omega,hvS.h _⟩
  have hil:i=L.xs.length:=by omega
  subst hil;rw [List.take_of_length_le (by rw [List.length_map];exact Nat.le_refl _)] at hvO;obtain ⟨iO,rfl,hgO⟩:=hvO.1.row (fun g=>by rw [List.map_eq_nil_iff] at g;rw [g] at hb0;simp at hb0);rw [List.length_map] at hgF;have hFR:Hide (FoundR H5 F iH iO 0 (.pure .nils) [] L.xs (L.xs.map lowB) L.xs.length):=⟨⟨hgF,GrowV.nil,hgI,hgO,by omega,fun g=>n1 (g ▸ ⟨_,_,_,rfl⟩),fun g=>n2 (g ▸ ⟨_,_,_,rfl⟩),fun ⟨_,_,_,g⟩=>by simp at g,fun ⟨_,_,_,g⟩=>by simp at g,fun ⟨_,_,_,g⟩=>by simp at g⟩⟩
  have hJ0:Hide (SolveJ p L s.xs 0 0 [] L.xs (L.xs.map lowB)):=⟨SolveJ.start fun g hg x hx=>by
   rw [← hsxH.h] at hg;rw [hlH.h];exact ((parts_ok m p.boxes.xs.length).2 g hg).2 x hx⟩
  have hval:Hide (∀ b∈L.xs,validB b=true):=⟨by rw [hLxH.h];exact valid_sub okH.h hrH.h.1.sub hrH.h.1.wf⟩
  have hok0:Hide (∀ q∈L.xs.map lowB,okP q):=⟨fun q hq=>by
   obtain ⟨b,hb,rfl⟩:=List.mem_map.1 hq;have:=valid_iff.1 (hval.h b hb);unfold okP;simp only [lowB];omega⟩
  have h0O:iO≠0:=fun g=>n3 (g ▸ ⟨_,_,_,rfl⟩);clear hgI hgF hvO hgO n1 n2 n3 i1 i2 i3;(repeat' first|simp [*,initEnv]|(apply wpIf_two<;>intro _ h<;>try simp [-Nat.le_zero_eq] at h)|(show wpE 0 (doAppend ..) ..;refine wpE_appW ?_)|(refine after_intro fun v2 H2 hv2 hnx2 hget2 hnew2 hone2 hcel2=>?_))
  refine wp_loopF [(10,10),(70,82)] (fun (i:Nat) env H=>env 10=.pure (.int .i64 i)∧i≤s.xs.length∧H.get 0=.cells true [.pure (.int .i64 0),.pure .nils,.pure .nils,.pure .nils]∧∃ (e:Int) (vN:AV) (N:List Int) (hb:List Box) (on:List Pt),Hide (FoundR H F iH iO e vN N hb on L.xs.length)∧Hide (SolveJ p L s.xs i e N hb on)∧Hide (∀ q∈on,okP q)) (fun i=>s.xs.length - i) 0 ?_ ?_ ?_ ?_
  ·decide
  ·exact ⟨by simp,by omega,hg0,0,.pure .nils,[],L.xs,L.xs.map lowB,hFR,hJ0,hok0⟩
  ·simp only [loopFuel];omega
  clear hFR hJ0 hok0 hg0;rintro i env3 H6 ⟨g10,hi,hg0,e,vN,N1,hb1,on1,hFR,hJ1,hok1⟩
  by_cases hlt:i < s.xs.length
  ·have w1:IntKind.i64.wrap ((i:Int)+1)=(i+1:Nat):=by rw [wrap64 (by omega) (by omega)];omega
   have hltI:(i:Int) < s.xs.length:=by omega
   obtain ⟨q,hq⟩:∃ q,s.xs[i]=q:=⟨_,rfl⟩
   have hqm:q∈partsL' m p.boxes.xs.length:=by rw [hsxH.h,← hq];exact List.getElem_mem hlt
   obtain ⟨hq0,hq1⟩:=namedA_part okH.h hmH.h hqm;have hN12:N1.length≤12:=by rw [hJ1.h.n,List.length_map,List.length_take];omega
   have hd:=parts_div hmH.h (fact_named okH.h);have hlt2:∀ x∈q,x < L.xs.length:=fun x hx=>by rw [hlH.h];exact (hd.one q hqm).2 x hx
   have hdn:=hd.nodup;rw [hsxH.h] at hdn;have hvq:volP l q≤65536:=volP_le hvH.h q hqm;have hlt2:=Hide.mk hlt2;have hdn:=Hide.mk hdn;have hi0:=nx_of_get hg0;have hn0:=Hide.mk (not_zero hg0 hFR.h.n);clear hqm hd;(repeat' first|simp [*,initEnv,partF]|(apply wpIf_two<;>intro _ h<;>try simp [-Nat.le_zero_eq] at h)|(show wpE 0 (doAppend ..) ..;refine wpE_appW ?_)|(refine after_intro fun v2 H2 hv2 hnx2 hget2 hnew2 hone2 hcel2=>?_))
   refine wpE_run sh_part ?_
   by_cases h1:1 < q.length
   ·rw [decide_eq_true h1] at hq1;have hPI:=partIn' okH.h hrH.h hmH.h hsxH.h hLH.h hlt hq hvq h1 hJ1.h hok1.h
    refine named_call (n:=n+5) hFR.h rfl hPI hJ1.h.hl hq1 hN12 ?_
    intro H7 vN7 hb7 on7 hF7 hK7 hG7;have g0:=(hK7.get 0 hi0 (by omega) (by omega) (Ne.symm h0O) hn0.h).trans hg0;have hJ2:=hJ1.h.named hdn.h hlt (by rw [hq];exact h1) (by rw [hq];exact hlt2.h) (by rw [hq];exact hG7);rw [hq] at hJ2;have hJ2:=Hide.mk hJ2;have hok2:=Hide.mk (hG7.okP hlt2.h hval.h hJ1.h.ol hok1.h);have hF7:=Hide.mk hF7;clear hK7 hG7 hPI hJ1 hok1 hFR hg0 hq1 hn0;(repeat' first|simp [*,initEnv]|(apply wpIf_two<;>intro _ h<;>try simp [-Nat.le_zero_eq] at h)|(show wpE 0 (doAppend ..) ..;refine wpE_appW ?_)|(refine after_intro fun v2 H2 hv2 hnx2 hget2 hnew2 hone2 hcel2=>?_));exact ⟨i+1,by omega,by omega,by omega,_,_,_,_,_,hF7,hJ2,hok2⟩
   ·have hql:q.length=1:=by omega
    obtain ⟨k0,hk0⟩:∃ k0,q=[k0]:=by
     match q,hql with
     | [k0],_=>exact ⟨k0,rfl⟩
    rw [decide_eq_false h1] at hq1;have hk0l:k0 < L.xs.length:=hlt2.h k0 (by rw [hk0];simp);have hnm:namedA p.facts.xs (k0:Nat)=false:=by subst hk0;exact hq1
    have hJ2:=hJ1.h.alone hlt (by rw [hq];exact hql) (by rw [hq];exact hk0);have hJ2:=Hide.mk hJ2;rw [hk0]
    refine unnamed_call (n:=n+5) hFR.h okH.h.nf hk0l hval.h hnm hN12 ?_
    intro H7 vN7 hF7 hK7;have g0:=(hK7.get 0 hi0 (by omega) (by omega) (Ne.symm h0O) hn0.h).trans hg0;have hF7:=Hide.mk hF7;clear hK7 hJ1 hFR hg0 hq1 hn0;(repeat' first|simp [*,initEnv]|(apply wpIf_two<;>intro _ h<;>try simp [-Nat.le_zero_eq] at h)|(show wpE 0 (doAppend ..) ..;refine wpE_appW ?_)|(refine after_intro fun v2 H2 hv2 hnx2 hget2 hnew2 hone2 hcel2=>?_));exact ⟨i+1,by omega,by omega,by omega,_,_,_,_,_,hF7,hJ2,hok1⟩
  ·have hil:i=s.xs.length:=by omega
   subst hil;obtain ⟨he,hN,hh,ho⟩:=hRES.h _ _ _ _ hJ1.h;subst he hN hh ho;have hf:=hFR.h.f;have hz:=not_zero hg0 hFR.h.n;have hone:=hFR.h.n.1.one;have hi0:=nx_of_get hg0;have hb1l:=hJ1.h.hl;have on1l:=hJ1.h.ol;have hof:Sl.of on1=Sl.mk false on1:=of_ne (fun g=>by rw [g] at on1l;simp at on1l;omega);have hN1:=((hFR.h.n.set hz (.cells true [.pure (.int .i64 e),vN,.row iH 4 0 L.xs.length,.row iO 2 0 L.xs.length])).res (n:=9) (fun _=>rfl))
   have hH1:=row_res (n:=9) (id:=iH) (l:=hb1) (f:=Box.cells) (sz:=4) (H:=H6.set 0 (.cells true [.pure (.int .i64 e),vN,.row iH 4 0 L.xs.length,.row iO 2 0 L.xs.length])) (fun _=>rfl) (by rw [get_set_ne (show iH≠0 by omega)];exact hFR.h.h) hb1l;have hO1:=row_res (n:=9) (id:=iO) (l:=on1) (f:=Pt.cells) (sz:=2) (H:=H6.set 0 (.cells true [.pure (.int .i64 e),vN,.row iH 4 0 L.xs.length,.row iO 2 0 L.xs.length])) (fun _=>rfl) (by rw [get_set_ne h0O];exact hFR.h.o) on1l;rw [hof];obtain ⟨ids,hids⟩:=FrzK.aggV (n:=11) (FrzL.cons (FrzK.pure (.int .i64 e)) (.cons hN1 (.cons hH1 (.cons hO1 .nil))));clear hN1 hH1 hO1 hRES hJ1 hok1 hFR;(repeat' first|simp [*,initEnv]|(apply wpIf_two<;>intro _ h<;>try simp [-Nat.le_zero_eq] at h)|(show wpE 0 (doAppend ..) ..;refine wpE_appW ?_)|(refine after_intro fun v2 H2 hv2 hnx2 hget2 hnew2 hone2 hcel2=>?_));exact ⟨ids,hids⟩
end Go.Proofs.YtmghcpdpilgplaaGreat.Vm
