/- Where a loop over the boxes stands that steps the points. Plain Lean. The specification's join and next, walked. The specification's later: the next choice in lexicographic order, in the caller's memory. -/
import Derived.Test.YtmghcpdpilgplaaGreatQk8
import Derived.Test.YtmghcpdpilgplaaGreatQk17
import Derived.Test.YtmghcpdpilgplaaGreatQk28
import Derived.Test.YtmghcpdpilgplaaGreatQk23
namespace Go.Proofs.YtmghcpdpilgplaaGreat.Vm
open Go
set_option linter.unusedSimpArgs false
set_option linter.unusedVariables false
set_option maxHeartbeats 4000000
theorem putIn_px {l:List Pt} {i:Nat} (h:i < l.length) (v:Int):putIn (.cells true (rowOf Pt.cells l)) 1 (i*2) [.pure (.int .i64 v)]=some (.cells true (rowOf Pt.cells (l.set i ⟨v,l[i].y⟩))) :=
 putIn_rowP (off:=0) (f:=Pt.cells) (sz:=2) (vs:=[.int .i64 v]) (b:=⟨v,l[i].y⟩) (fun _=>rfl) rfl (by decide) h (by decide) rfl rfl
theorem putIn_py {l:List Pt} {i:Nat} (h:i < l.length) (v:Int):putIn (.cells true (rowOf Pt.cells l)) 1 (i*2+1) [.pure (.int .i64 v)]=some (.cells true (rowOf Pt.cells (l.set i ⟨l[i].x,v⟩))) :=
 putIn_rowP (off:=1) (f:=Pt.cells) (sz:=2) (vs:=[.int .i64 v]) (b:=⟨l[i].x,v⟩) (fun _=>rfl) rfl (by decide) h (by decide) rfl rfl
def boxIn (M:Int) (b:Box):Prop:=(-M≤b.x.lo∧b.x.lo≤M∧-M≤b.x.hi∧b.x.hi≤M)∧(-M≤b.y.lo∧b.y.lo≤M∧-M≤b.y.hi∧b.y.hi≤M)
structure AfterJ (l:List Box) (c:List Pt) (i:Nat) (t:List Pt):Prop where
 len:t.length=l.length
 val:t=(l.take i).map lowB++c.drop i
 res:stepL l c=(stepL (l.drop i) (c.drop i)).map fun u=>(l.take i).map lowB++u
theorem AfterJ.start {l:List Box} {c:List Pt} (h:c.length=l.length):AfterJ l c 0 c:=⟨h,by simp,by simp⟩
theorem AfterJ.setAt {l:List Box} {c t:List Pt} {i:Nat} (h:AfterJ l c i t) (hi:i < l.length) (hc:c.length=l.length) (p:Pt):t.set i p=(l.take i).map lowB++(p::c.drop (i+1)):=by
 have hl:((l.take i).map lowB).length=i:=by simp;omega
 rw [h.val,List.set_append_right _ _ (by omega),hl,Nat.sub_self,List.drop_eq_getElem_cons (show i < c.length by omega)];rfl
theorem AfterJ.stepX' {l:List Box} {c t:List Pt} {i:Nat} (h:AfterJ l c i t) (hi:i < l.length) (hc:c.length=l.length):stepL l c=match stepX l[i] (c[i]'(by omega)) with
  | some q=>some (t.set i q)
  | none=>(stepL (l.drop (i+1)) (c.drop (i+1))).map fun u=>(l.take (i+1)).map lowB++u:=by
 rw [h.res,List.drop_eq_getElem_cons hi,List.drop_eq_getElem_cons (show i < c.length by omega)];simp only [stepL]
 cases hs:stepX l[i] c[i] with
 | some q=>simp only [Option.map_some];rw [h.setAt hi hc]
 | none =>
  simp only [Option.map_map]
  congr 1
  funext u
  show (l.take i).map lowB++lowB l[i]::u=(l.take (i+1)).map lowB++u;rw [← take_succ' hi,List.map_append,List.append_assoc];rfl
theorem AfterJ.next {l:List Box} {c t:List Pt} {i:Nat} (h:AfterJ l c i t) (hi:i < l.length) (hc:c.length=l.length) (hs:stepX l[i] (c[i]'(by omega))=none):AfterJ l c (i+1) (t.set i (lowB l[i])):=by
 refine ⟨by simp [h.len],?_,?_⟩
 ·rw [h.setAt hi hc,← take_succ' hi,List.map_append,List.append_assoc];rfl
 ·rw [h.stepX' hi hc,hs]
theorem AfterJ.stop {l:List Box} {c t:List Pt} (h:AfterJ l c l.length t) (hc:c.length=l.length):stepL l c=none:=by
 rw [h.res,List.drop_length,← hc,List.drop_length];rfl
set_option maxRecDepth 4000
def joinB (b:Box) (p:Pt):Box:=⟨⟨min b.x.lo p.x,max b.x.hi p.x⟩,⟨min b.y.lo p.y,max b.y.hi p.y⟩⟩
structure NextI (part:List Nat) (s t:List Pt):Prop where
 len:t.length=s.length
 out:∀ j,j ∉ part→t[j]! = s[j]!
theorem NextI.set {part:List Nat} {s t:List Pt} (h:NextI part s t) {k:Nat} (hk:k∈part) (p:Pt):NextI part s (t.set k p):=by
 refine ⟨by rw [List.length_set,h.len],fun j hj=>?_⟩
 rw [← h.out j hj];have:k≠j:=fun e=>hj (e ▸ hk);simp only [List.getElem!_eq_getElem?_getD,List.getElem?_set_ne this]
def boxesOf (l:List Box) (part:List Nat):List Box:=part.map fun i=>l[i]!
theorem stepR_front:∀ {k:Nat} {l:List Box} {c:List Pt} {qs:List Pt},c.length=l.length→k≤l.length→stepR (l.drop k) (c.drop k)=some qs→stepR l c=some (c.take k++qs)
 | 0,l,c,qs,_,_,h=>by simpa using h
 | k+1,[],c,qs,_,hk,_=>by simp at hk
 | k+1,b::l,[],qs,hc,_,_=>by simp at hc
 | k+1,b::l,p::c,qs,hc,hk,h=>by
  have ih:=stepR_front (k:=k) (l:=l) (c:=c) (by simpa using hc) (by simpa using hk) (by simpa using h);simp only [stepR,ih,List.take_succ_cons,List.cons_append]
theorem stepR_at {l:List Box} {c:List Pt} {i:Nat} (hc:c.length=l.length) (hi:i < l.length) (hn:stepR (l.drop (i+1)) (c.drop (i+1))=none) :
  stepR (l.drop i) (c.drop i)=(stepY l[i] c[i]).map (· :: (l.drop (i+1)).map lowB):=by
 rw [List.drop_eq_getElem_cons hi,List.drop_eq_getElem_cons (show i < c.length by omega),stepR,hn]
def backL (l:List Box) (c:List Pt) (i:Nat):List Pt:=c.take i++(l.drop i).map lowB
theorem backL_len {l:List Box} {c:List Pt} {i:Nat} (hc:c.length=l.length) (hi:i≤l.length):(backL l c i).length=l.length:=by
 unfold backL;rw [List.length_append,List.length_take,List.length_map,List.length_drop];omega
theorem backL_end {l:List Box} {c:List Pt} (hc:c.length=l.length):backL l c l.length=c:=by
 unfold backL;rw [List.drop_length,List.map_nil,List.append_nil,← hc,List.take_length]
theorem backL_get {l:List Box} {c:List Pt} {i:Nat} (hc:c.length=l.length) (hi:i < l.length) (h:i < (backL l c (i+1)).length):(backL l c (i+1))[i]=c[i]:=by
 unfold backL at h ⊢;rw [List.getElem_append_left (by rw [List.length_take];omega),List.getElem_take]
theorem backL_set {l:List Box} {c:List Pt} {i:Nat} (hc:c.length=l.length) (hi:i < l.length) (q:Pt):(backL l c (i+1)).set i q=c.take i++q::(l.drop (i+1)).map lowB:=by
 unfold backL;have e:c.take (i+1)=c.take i++[c[i]]:=by rw [List.take_add_one,List.getElem?_eq_getElem (by omega)];rfl
 rw [e,List.append_assoc,List.singleton_append,List.set_append_right _ _ (by rw [List.length_take];omega),List.length_take,Nat.min_eq_left (by omega),Nat.sub_self,List.set_cons_zero]
theorem backL_low {l:List Box} {c:List Pt} {i:Nat} (hc:c.length=l.length) (hi:i < l.length):(backL l c (i+1)).set i (lowB l[i])=backL l c i:=by
 rw [backL_set hc hi];unfold backL;rw [List.drop_eq_getElem_cons hi,List.map_cons]
theorem sh_later:G.shared 95=true:=by decide
theorem later_call {n:Nat} {H:Heap} {id:Nat} {l:Sl Box} {c:List Pt} {k:AV→Heap→Prop} (hg:H.get id=.cells true (rowOf Pt.cells c)) (hc:c.length=l.xs.length) (hb:∀ b∈l.xs,boxIn 1048576 b) (hcb:∀ p∈c,okP p) (hlen:l.xs.length≤12) {m:Nat} (hm:m=l.xs.length)
  (hk:∀ b H' t,H.nx≤H'.nx→(∀ j,j≠id→H'.get j=H.get j)→H'.get id=.cells true (rowOf Pt.cells t)→t.length=l.xs.length→(b=true→stepR l.xs c=some t)→(b=false→stepR l.xs c=none)→k (.pure (.bool b)) H') :
  ∃ v H',Vm.call G (n+1) (.fn 95) [.pure (l.pv Box.cells 4),.row id 2 0 m] H=some (v,H')∧k v H':=by
 refine call_of rfl g95 rfl ?_
 have hkH:=Hide.mk hk;have hbH:=Hide.mk hb;have hcbH:=Hide.mk hcb;have hcH:=Hide.mk hc;have hmH:=Hide.mk hm;have w0:IntKind.i64.wrap ((m:Int) - 1)=(m:Int) - 1:=wrap64 (by omega) (by omega);have hm12:m≤12:=by omega
 clear hk hb hcb hc hm;(repeat' first|simp [*,initEnv,c95]|(apply wpIf_two<;>intro _ h<;>try simp [-Nat.le_zero_eq] at h))
 refine wp_loopF [(4,5),(9,72)] (fun (i:Nat) env H'=>env 5=.pure (.int .i64 ((i:Int) - 1))∧i≤m∧H'.nx=H.nx∧Hide (H'.get id=.cells true (rowOf Pt.cells (backL l.xs c i))∧(∀ j,j≠id→H'.get j=H.get j)∧stepR (l.xs.drop i) (c.drop i)=none)) (fun i=>i) m ?_ ?_ ?_ ?_
 ·decide
 ·refine ⟨by simp,Nat.le_refl _,rfl,⟨?_,fun _ _=>rfl,?_⟩⟩
  ·rw [hmH.h,backL_end hcH.h];exact hg
  ·rw [hmH.h,List.drop_length,← hcH.h,List.drop_length];rfl
 ·simp only [loopFuel];omega
 have hidH:=nx_of_get hg;rintro i env H' ⟨g5,hi,hnx,hJ⟩
 cases i with
 | zero =>
  have g5':env 5=.pure (.int .i64 (-1)):=by rw [g5];rfl
  clear g5;have hst:=Hide.mk hJ.h.2.2;(repeat' first|simp [*,initEnv]|(apply wpIf_two<;>intro _ h<;>try simp [-Nat.le_zero_eq] at h))
  refine hkH.h false _ _ (by omega) hJ.h.2.1 hJ.h.1 (backL_len hcH.h (by omega)) (fun h=>by cases h) (fun _=>by simpa using hst.h)
 | succ i =>
  have g5':env 5=.pure (.int .i64 (i:Int)):=by rw [g5];congr 2;omega
  clear g5;have hil:i < l.xs.length:=by have:=hmH.h;omega
  have hiI:(i:Int) < l.xs.length:=by omega
  have him:i < m:=by omega
  have himI:(i:Int) < m:=by omega
  have hi0:(0:Int)≤(i:Int):=by omega
  have hg':=hJ.h.1;have hid:=nx_of_get hg';have hic:i < c.length:=by have:=hcH.h;omega
  have htl:(backL l.xs c (i+1)).length=m:=by rw [backL_len hcH.h (by omega),hmH.h]
  have hit:i < (backL l.xs c (i+1)).length:=by omega
  have hti:=backL_get hcH.h hil hit;have hat:=stepR_at hcH.h hil hJ.h.2.2;have hset:=fun q=>backL_set hcH.h hil q;have hlow:=backL_low hcH.h hil;obtain ⟨⟨o1,o2⟩,o3,o4⟩:=hcbH.h _ (List.getElem_mem hic);have ob:=hbH.h _ (List.getElem_mem hil);unfold boxIn at ob;have hres:Hide (∀ q,stepY l.xs[i] c[i]=some q→stepR l.xs c=some ((backL l.xs c (i+1)).set i q)):=⟨fun q hq=>by
   rw [hq,Option.map_some] at hat;rw [hset q];exact stepR_front hcH.h (by omega) hat⟩
  have hnone:Hide (stepY l.xs[i] c[i]=none→stepR (l.xs.drop i) (c.drop i)=none):=⟨fun h=>by rw [hat,h];rfl⟩
  obtain ⟨⟨cx,cy⟩,hcx⟩:∃ q,c[i]=q:=⟨_,rfl⟩
  rw [hcx] at hti hres hnone o1 o2 o3 o4;simp only at o1 o2 o3 o4;have hsame:=Hide.mk hJ.h.2.1;have hlowH:=Hide.mk hlow;have w1:IntKind.i64.wrap (cx+1)=cx+1:=wrap64 (by omega) (by omega);have w2:IntKind.i64.wrap (cy+1)=cy+1:=wrap64 (by omega) (by omega);have w3:IntKind.i64.wrap ((i:Int) - 1)=(i:Int) - 1:=wrap64 (by omega) (by omega);clear hset hat hcx hlow hJ o1 o2 o3 o4 ob;generalize backL l.xs c (i+1)=t at *;have p1:=putIn_px hit;have p2:=putIn_py hit;rw [hti] at p1 p2;simp only at p1 p2;have p3:∀ v,putIn (.cells true (rowOf Pt.cells (t.set i ⟨cx,l.xs[i].y.lo⟩))) 1 (i*2) [.pure (.int .i64 v)]=some (.cells true (rowOf Pt.cells (t.set i ⟨v,l.xs[i].y.lo⟩))):=fun v=>by
   have:=putIn_px (l:=t.set i ⟨cx,l.xs[i].y.lo⟩) (i:=i) (by simpa using hit) v;rw [List.set_set] at this
   simpa using this
  have q3:loadIn (.cells true (rowOf Pt.cells (t.set i ⟨cx,l.xs[i].y.lo⟩))) 1 (i*2)=some [.pure (.int .i64 cx)]:=by
   have:=loadIn_rowF (f:=Pt.cells) (sz:=2) (l:=t.set i ⟨cx,l.xs[i].y.lo⟩) (i:=i) (size:=1) (off:=0) (own:=true) (fun _=>rfl) (by simpa using hit) (by decide);rw [Nat.add_zero] at this;rw [this];simp
  have gs:∀ o,(H'.set id o).get id=o:=fun o=>get_set_own hid;have gs2:∀ o o',((H'.set id o).set id o').get id=o':=fun o o'=>get_set_own (by simpa using hid);have hs1:Hide (∀ o j,j≠id→(H'.set id o).get j=H.get j):=⟨fun o j h=>by rw [get_set_ne h];exact hsame.h j h⟩
  have hs2:Hide (∀ o o' j,j≠id→((H'.set id o).set id o').get j=H.get j):=⟨fun o o' j h=>by rw [get_set_ne h];exact hs1.h o j h⟩
  have hsl:∀ q,(t.set i q).length=l.xs.length:=fun q=>by rw [List.length_set,htl,hmH.h]
  have hslH:=Hide.mk hsl;clear hsl
  by_cases hy:cy < l.xs[i].y.hi
  ·have hs:stepY l.xs[i] ⟨cx,cy⟩=some ⟨cx,cy+1⟩:=by unfold stepY;rw [if_pos hy]
   have hst:=Hide.mk (hres.h _ hs);clear hs hres hnone;(repeat' first|simp [*,initEnv,Box.cells,Span.cells,Pt.cells]|(apply wpIf_two<;>intro _ h<;>try simp [-Nat.le_zero_eq] at h));exact hkH.h true _ (t.set i ⟨cx,cy+1⟩) (by simp [hnx]) (hs1.h _) (gs _) (hslH.h _) (fun _=>hst.h) (fun h=>by cases h)
  ·by_cases hx:cx < l.xs[i].x.hi
   ·have hs:stepY l.xs[i] ⟨cx,cy⟩=some ⟨cx+1,l.xs[i].y.lo⟩:=by unfold stepY;rw [if_neg hy,if_pos hx]
    have hst:=Hide.mk (hres.h _ hs);clear hs hres hnone;(repeat' first|simp [*,initEnv,Box.cells,Span.cells,Pt.cells]|(apply wpIf_two<;>intro _ h<;>try simp [-Nat.le_zero_eq] at h));exact hkH.h true _ (t.set i ⟨cx+1,l.xs[i].y.lo⟩) (by simp [hnx]) (hs2.h _ _) (gs2 _ _) (hslH.h _) (fun _=>hst.h) (fun h=>by cases h)
   ·have hs:stepY l.xs[i] ⟨cx,cy⟩=none:=by unfold stepY;rw [if_neg hy,if_neg hx]
    have hne:=Hide.mk (hnone.h hs);clear hs hres hnone;(repeat' first|simp [*,initEnv,Box.cells,Span.cells,Pt.cells]|(apply wpIf_two<;>intro _ h<;>try simp [-Nat.le_zero_eq] at h));exact ⟨i,by omega,rfl,by omega,⟨by first|(rw [gs2,← hlowH.h];rfl)|(rw [← hlowH.h];rfl),hs2.h _ _,hne.h⟩⟩
end Go.Proofs.YtmghcpdpilgplaaGreat.Vm
