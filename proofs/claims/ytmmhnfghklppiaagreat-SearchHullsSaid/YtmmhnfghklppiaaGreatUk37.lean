/- Where a loop over the boxes stands that steps the points. Plain Lean. The specification's join and next, walked. What the specification's part gathers from the solutions of a part. Plain Lean. The specification's part, walked. Part after part: what the specification's Solve gathers. Plain Lean. The specification's Solve, walked. -/
import Derived.Test.YtmmhnfghklppiaaGreatUk35
import Derived.Test.YtmmhnfghklppiaaGreatUk19
import Derived.Test.YtmmhnfghklppiaaGreatUk36
import Derived.Test.YtmmhnfghklppiaaGreatUk8
import Derived.Test.YtmmhnfghklppiaaGreatUk22
import Derived.Test.YtmmhnfghklppiaaGreatUk25
namespace Go.Proofs.YtmmhnfghklppiaaGreat.Vm
open Go
set_option linter.unusedSimpArgs false
set_option linter.unusedVariables false
set_option maxHeartbeats 4000000
theorem zrM {l:List Pt} {i:Nat} (h:i < l.length) (v:Int):vK (.cells true (zq Pt.cells l)) 1 (i*2) [.pure (.int .i64 v)]=some (.cells true (zq Pt.cells (l.set i ⟨v,l[i].y⟩))) :=
 SL (off:=0) (f:=Pt.cells) (sz:=2) (vs:=[.int .i64 v]) (b:=⟨v,l[i].y⟩) (fun _=>rfl) rfl (by decide) h (by decide) rfl rfl
theorem zmy {l:List Pt} {i:Nat} (h:i < l.length) (v:Int):vK (.cells true (zq Pt.cells l)) 1 (i*2+1) [.pure (.int .i64 v)]=some (.cells true (zq Pt.cells (l.set i ⟨l[i].x,v⟩))) :=
 SL (off:=1) (f:=Pt.cells) (sz:=2) (vs:=[.int .i64 v]) (b:=⟨l[i].x,v⟩) (fun _=>rfl) rfl (by decide) h (by decide) rfl rfl
def Zo (M:Int) (b:Box):Prop:=(-M<=b.x.lo/\b.x.lo<=M/\-M<=b.x.hi/\b.x.hi<=M)/\(-M<=b.y.lo/\b.y.lo<=M/\-M<=b.y.hi/\b.y.hi<=M)
structure je (l:List Box) (c:List Pt) (i:Nat) (t:List Pt):Prop where
 len:t.length=l.length
 val:t=(l.take i).map iW++c.drop i
 res:Di l c=(Di (l.drop i) (c.drop i)).map fun u=>(l.take i).map iW++u
theorem je.start {l:List Box} {c:List Pt} (h:c.length=l.length):je l c 0 c:=⟨h,by simp,by simp⟩
theorem je.cur {l:List Box} {c t:List Pt} {i:Nat} (h:je l c i t) (hi:i < l.length) (hc:c.length=l.length):∃ h':i < t.length,t[i]=c[i]:=by
 have ht:i < t.length:=by rw [h.len];exact hi
 refine ⟨ht,?_⟩
 have hl:((l.take i).map iW).length=i:=by simp;omega
 have e:t[i]?=c[i]?:=by
  rw [h.val,List.getElem?_append_right (by omega),hl,Nat.sub_self,List.getElem?_drop];simp
 rw [List.getElem?_eq_getElem ht,List.getElem?_eq_getElem (by omega)] at e
 simpa using e
theorem je.setAt {l:List Box} {c t:List Pt} {i:Nat} (h:je l c i t) (hi:i < l.length) (hc:c.length=l.length) (p:Pt):t.set i p=(l.take i).map iW++(p::c.drop (i+1)):=by
 have hl:((l.take i).map iW).length=i:=by simp;omega
 rw [h.val,List.set_append_right _ _ (by omega),hl,Nat.sub_self,List.drop_eq_getElem_cons (show i < c.length by omega)];rfl
theorem je.JH {l:List Box} {c t:List Pt} {i:Nat} (h:je l c i t) (hi:i < l.length) (hc:c.length=l.length):Di l c=match FK l[i] (c[i]'(by omega)) with
  | some q=>some (t.set i q)
  | none=>(Di (l.drop (i+1)) (c.drop (i+1))).map fun u=>(l.take (i+1)).map iW++u:=by
 rw [h.res,List.drop_eq_getElem_cons hi,List.drop_eq_getElem_cons (show i < c.length by omega)];simp only [Di]
 cases hs:FK l[i] c[i] with
 | some q=>simp only [Option.map_some];rw [h.setAt hi hc]
 | none =>
  simp only [Option.map_map]
  congr 1
  funext u
  show (l.take i).map iW++iW l[i]::u=(l.take (i+1)).map iW++u;rw [<- DY hi,List.map_append,List.append_assoc];rfl
theorem je.next {l:List Box} {c t:List Pt} {i:Nat} (h:je l c i t) (hi:i < l.length) (hc:c.length=l.length) (hs:FK l[i] (c[i]'(by omega))=none):je l c (i+1) (t.set i (iW l[i])):=by
 refine ⟨by simp [h.len],?_,?_⟩
 .rw [h.setAt hi hc,<- DY hi,List.map_append,List.append_assoc];rfl
 .rw [h.JH hi hc,hs]
theorem je.stop {l:List Box} {c t:List Pt} (h:je l c l.length t) (hc:c.length=l.length):Di l c=none:=by
 rw [h.res,List.drop_length,<- hc,List.drop_length];rfl
set_option maxRecDepth 4000
def xx (b:Box) (p:Pt):Box:=⟨⟨min b.x.lo p.x,max b.x.hi p.x⟩,⟨min b.y.lo p.y,max b.y.hi p.y⟩⟩
theorem sh89:G.shared 89=false:=by decide
theorem e89 (n:Nat) (b:Box) (p:Pt):zF G (n+1) 89 [.agg b.cells,.agg p.cells]=some (.agg (xx b p).cells):=by
 refine zy (zx _) rfl g89 rfl ?_
 simp [*,zb,c89,Box.cells,Span.cells,Pt.cells,xx]
theorem M0 (t:List Pt) (part:List Nat):(pick t part).length=part.length:=by simp [pick]
theorem KJ {t:List Pt} {part:List Nat} {i:Nat} (h:i < part.length):(pick t part)[i]'(by rw [M0];exact h)=t[part[i]]! := by simp [pick]
theorem zrx {t:List Pt} {part:List Nat} {i:Nat} (hn:part.Nodup) (h:i < part.length) (hk:part[i] < t.length) (p:Pt):pick (t.set part[i] p) part=(pick t part).set i p:=by
 refine List.ext_getElem (by simp [M0]) fun j h1 h2=>?_
 have hj:j < part.length:=by rw [M0] at h1;exact h1
 rw [KJ hj,List.getElem_set]
 by_cases e:i=j
 .subst e;rw [if_pos rfl,getElem!_pos _ _ (by simpa using hk),List.getElem_set_self]
 .have bC:part[i]≠part[j]:=by
   rcases Nat.lt_or_gt_of_ne e with g|g
   .exact List.pairwise_iff_getElem.1 hn i j h hj g
   .exact fun x=>List.pairwise_iff_getElem.1 hn j i hj h g x.symm
  rw [if_neg e,KJ hj];simp only [List.getElem!_eq_getElem?_getD,List.getElem?_set_ne bC]
structure lK (part:List Nat) (s t:List Pt):Prop where
 len:t.length=s.length
 out:∀ j,j ∉ part->t[j]! = s[j]!
theorem lK.set {part:List Nat} {s t:List Pt} (h:lK part s t) {k:Nat} (hk:k∈part) (p:Pt):lK part s (t.set k p):=by
 refine ⟨by rw [List.length_set,h.len],fun j hj=>?_⟩
 rw [<- h.out j hj];have:k≠j:=fun e=>hj (e ▸ hk);simp only [List.getElem!_eq_getElem?_getD,List.getElem?_set_ne this]
def zQ (l:List Box) (part:List Nat):List Box:=part.map fun i=>l[i]!
theorem zoI:G.shared 87=true:=by decide
theorem zjQ {n:Nat} {H:Heap} {id:Nat} {l:Sl Box} {part:List Nat} {c:List Pt} {k:AV->Heap->Prop} (hg:H.get id=.cells true (zq Pt.cells c)) (hc:c.length=l.xs.length) (hb:∀ b∈l.xs,Zo 1048576 b) (TS:∀ p∈c,mO p) (hlen:l.xs.length<=12)
  (np:part.length<=12) (hn:part.Nodup) (hi:∀ i∈part,i < l.xs.length) {m:Nat} (hm:m=l.xs.length)
  (hk:∀ b H' t,H.nx<=H'.nx->(∀ j,j < H.nx->j≠id->H'.get j=H.get j)->H'.get id=.cells true (zq Pt.cells t)->lK part c t->(b=true->Di (zQ l.xs part) (pick c part)=some (pick t part))->(b=false->Di (zQ l.xs part) (pick c part)=none)->k (.pure (.bool b)) H') :
  ∃ v H',Vm.call G (n+1) (.fn 87) [.pure (l.pv Box.cells 4),.pure (.agg (qz part)),.row id 2 0 m] H=some (v,H')/\k v H':=by
 subst hm
 refine F8 rfl g87 rfl ?_
 have hk:=Hide.mk hk;have hb:=Hide.mk hb;have TS:=Hide.mk TS;have MF:=Hide.mk hn;have Dj:=Hide.mk hi;have KC:=Hide.mk hc;have o9:(zQ l.xs part).length=part.length:=by simp [zQ]
 have bW:Hide ((pick c part).length=(zQ l.xs part).length):=⟨by rw [M0,o9]⟩
 have WL:=Hide.mk o9;have e1:(zL part).length=part.length:=z8 part;clear hc hn hi o9;(repeat' first|simp [*,zb,c87,qz]|(apply za<;>intro _ h<;>try simp [-Nat.le_zero_eq] at h))
 refine zA [(6,73)] (fun (i:Nat) env H'=>env 7=.pure (.int .i64 i)/\i<=part.length/\H.nx<=H'.nx/\Hide (∀ j,j < H.nx->j≠id->H'.get j=H.get j)/\∃ t,H'.get id=.cells true (zq Pt.cells t)/\Hide (lK part c t)/\Hide (je (zQ l.xs part) (pick c part) i (pick t part))) (fun i=>part.length - i) 0 ?_ ?_ ?_ ?_
 .decide
 .exact ⟨by simp,by omega,Nat.le_refl _,⟨fun _ _ _=>rfl⟩,c,hg,⟨⟨rfl,fun _ _=>rfl⟩⟩,⟨je.start bW.h⟩⟩
 .simp only [zz];omega
 have Bv:=zo hg;rintro i env H' ⟨g0,hi,bU,ah,t,tq,hN,hJ⟩
 by_cases aK:i < part.length
 .have w0:IntKind.i64.wrap ((i:Int)+1)=(i+1:Nat):=by rw [wrap64 (by omega) (by omega)];omega
  have G5:i < (zQ l.xs part).length:=by rw [WL.h];exact aK
  obtain ⟨_,Oc⟩:=hJ.h.cur G5 bW.h;obtain ⟨q,hq⟩:∃ q,part[i]=q:=⟨_,rfl⟩
  have OH:q∈part:=hq ▸ List.getElem_mem aK;have CF:=Dj.h q OH;have OI:q < t.length:=by rw [hN.h.len,KC.h];exact CF
  have hqc:q < c.length:=by rw [KC.h];exact CF
  have SY:i < (zL part).length:=by rw [e1];exact aK
  have gj:(zL part)[i]=(q:Int):=by simp [zL,hq]
  have jM:(i:Int) < part.length:=by omega
  have Oj:(q:Int) < l.xs.length:=by omega
  have hqtI:(q:Int) < t.length:=by omega
  have xm:(zQ l.xs part)[i]=l.xs[q]:=by simp only [zQ,List.getElem_map,hq];rw [getElem!_pos l.xs q CF]
  have AR:∀ h,(pick t part)[i]'h=t[q]:=fun h=>by rw [KJ aK,hq,getElem!_pos t q OI]
  have BC:∀ h,(pick c part)[i]'h=c[q]:=fun h=>by rw [KJ aK,hq,getElem!_pos c q hqc]
  have sD:∀ p,(pick t part).set i p=pick (t.set q p) part:=fun p=>by subst hq;exact (zrx MF.h aK OI p).symm
  rw [AR,BC] at Oc;have aB:=zo tq;have p1:=zrM OI;have p2:=zmy OI;obtain ⟨⟨o1,o2⟩,o3,o4⟩:=TS.h _ (List.getElem_mem hqc);rw [<- Oc] at o1 o2 o3 o4;have ob:=hb.h _ (List.getElem_mem CF);unfold Zo at ob;have w1:IntKind.i64.wrap (t[q].x+1)=t[q].x+1:=wrap64 (by omega) (by omega);have w2:IntKind.i64.wrap (t[q].y+1)=t[q].y+1:=wrap64 (by omega) (by omega);clear o1 o2 o3 o4 ob;have bu:=hJ.h.JH G5 bW.h;have bC:=hJ.h.next G5 bW.h;rw [xm] at bu bC;rw [BC] at bu bC;rw [<- Oc] at bu bC;simp only [sD] at bu bC;have hNs:Hide (∀ p,lK part c (t.set q p)):=⟨fun p=>hN.h.set OH p⟩
  have Qf:id≠H'.nx:=by omega
  have oh:H'.nx≠id:=by omega
  have p3:∀ v,vK (.cells true (zq Pt.cells (t.set q ⟨l.xs[q].x.lo,t[q].y⟩))) 1 (q*2+1) [.pure (.int .i64 v)]=some (.cells true (zq Pt.cells (t.set q ⟨l.xs[q].x.lo,v⟩))):=fun v=>by
   have:=zmy (l:=t.set q ⟨l.xs[q].x.lo,t[q].y⟩) (i:=q) (by simpa using OI) v;rw [List.set_set] at this
   simpa using this
  have q3:Fh (.cells true (zq Pt.cells (t.set q ⟨l.xs[q].x.lo,t[q].y⟩))) 1 (q*2+1)=some [.pure (.int .i64 t[q].y)]:=by
   rw [zC (f:=Pt.cells) (sz:=2) (fun _=>rfl) (by simpa using OI) (by decide)];simp
  have gs:∀ o o' o1,(((H'.alloc o).set H'.nx o').set id o1).get id=o1:=fun o o' o1=>zn (by simp;omega);have gs2:∀ o o' o1 o2,((((H'.alloc o).set H'.nx o').set id o1).set id o2).get id=o2:=fun o o' o1 o2=>zn (by simp;omega);have NH:∀ o o' o1,H.nx<=(((H'.alloc o).set H'.nx o').set id o1).nx:=fun o o' o1=>by simp;omega
  have hm3:∀ o o' o1 o2,H.nx<=((((H'.alloc o).set H'.nx o').set id o1).set id o2).nx:=fun o o' o1 o2=>by simp;omega
  have AP:Hide (∀ o o' o1 j,j < H.nx->j≠id->(((H'.alloc o).set H'.nx o').set id o1).get j=H.get j):=⟨fun o o' o1 j h1 h2=>by rw [zg h2,zg (by omega),zi (by omega)];exact ah.h j h1 h2⟩
  have sN:Hide (∀ o o' o1 o2 j,j < H.nx->j≠id->((((H'.alloc o).set H'.nx o').set id o1).set id o2).get j=H.get j):=⟨fun o o' o1 o2 j h1 h2=>by rw [zg h2];exact AP.h o o' o1 j h1 h2⟩
  have nM:=Hide.mk NH;have WM:=Hide.mk hm3;clear sD AR BC xm Oc hJ hq hN G5 OH NH hm3
  by_cases hx:t[q].x < l.xs[q].x.hi
  .have hs:FK l.xs[q] t[q]=some ⟨t[q].x+1,t[q].y⟩:=by unfold FK;rw [if_pos hx]
   rw [hs] at bu;have bu:=Hide.mk bu;clear bC hs;(repeat' first|simp [*,zb,Box.cells,Span.cells,Pt.cells]|(apply za<;>intro _ h<;>try simp [-Nat.le_zero_eq] at h));exact hk.h true _ (t.set q ⟨t[q].x+1,t[q].y⟩) (nM.h _ _ _) (AP.h _ _ _) (gs _ _ _) (hNs.h _) (fun _=>bu.h) (fun h=>by cases h)
  .by_cases hy:t[q].y < l.xs[q].y.hi
   .have hs:FK l.xs[q] t[q]=some ⟨l.xs[q].x.lo,t[q].y+1⟩:=by unfold FK;rw [if_neg hx,if_pos hy]
    rw [hs] at bu;have bu:=Hide.mk bu;clear bC hs;(repeat' first|simp [*,zb,Box.cells,Span.cells,Pt.cells]|(apply za<;>intro _ h<;>try simp [-Nat.le_zero_eq] at h));exact hk.h true _ (t.set q ⟨l.xs[q].x.lo,t[q].y+1⟩) (WM.h _ _ _ _) (sN.h _ _ _ _) (gs2 _ _ _ _) (hNs.h _) (fun _=>bu.h) (fun h=>by cases h)
   .have hs:FK l.xs[q] t[q]=none:=by unfold FK;rw [if_neg hx,if_neg hy]
    have bC:=Hide.mk (bC hs);clear bu hs;(repeat' first|simp [*,zb,Box.cells,Span.cells,Pt.cells]|(apply za<;>intro _ h<;>try simp [-Nat.le_zero_eq] at h));exact ⟨i+1,by omega,by omega,by omega,by omega,⟨sN.h _ _ _ _⟩,t.set q (iW l.xs[q]),rfl,⟨hNs.h _⟩,bC⟩
 .have aT:i=part.length:=by omega
  subst aT;have hJ':=hJ.h;rw [<- WL.h] at hJ';have bu:=Hide.mk (hJ'.stop bW.h);clear hJ hJ';(repeat' first|simp [*,zb]|(apply za<;>intro _ h<;>try simp [-Nat.le_zero_eq] at h));exact hk.h false _ t bU ah.h tq hN.h (fun h=>by cases h) (fun _=>bu.h)
def QN:List Pt->Box
 | []=>⟨⟨0,0⟩,⟨0,0⟩⟩
 | x::xs=>xs.foldl xx (bf x)
theorem znG {l:List Pt} (h:l≠[]) (x:Pt):QN (l++[x])=xx (QN l) x:=by
 cases l with
 | nil=>exact absurd rfl h
 | cons y l=>simp [QN,List.foldl_append]
theorem zsH (p:Pt):xx (bf p) p=bf p:=by simp [xx,bf]
def hX (h0:List Box) (part:List Nat) (S:List (List Pt)) (k:Nat):Box:=if S=[] then h0[part[k]!]! else QN (S.map fun c=>c[k]!)
def oX (o0:List Pt) (part:List Nat) (S:List (List Pt)) (k:Nat):Pt:=match S with
 | []=>o0[part[k]!]!
 | c::_=>c[k]!
structure bZ (part:List Nat) (h0:List Box) (o0:List Pt) (T:Nat->List (List Pt)) (hb:List Box) (on:List Pt):Prop where
 hl:hb.length=h0.length
 ol:on.length=o0.length
 fU:∀ i,i ∉ part->hb[i]! = h0[i]!
 GM:∀ i,i ∉ part->on[i]! = o0[i]!
 sw:∀ k (h:k < part.length),hb[part[k]]! = hX h0 part (T k) k
 TA:∀ k (h:k < part.length),on[part[k]]! = oX o0 part (T k) k
def ng (S:List (List Pt)) (c:List Pt) (j:Nat):Nat->List (List Pt):=fun k=>if k < j then S++[c] else S
section
variable {part:List Nat} {h0 hb:List Box} {o0 on:List Pt} {S:List (List Pt)} {c:List Pt} {j:Nat}
theorem bZ.start:bZ part h0 o0 (fun _=>[]) h0 o0:=⟨rfl,rfl,fun _ _=>rfl,fun _ _=>rfl,fun k h=>by simp [hX,h],fun k h=>by simp [oX,h]⟩
theorem Zp {α:Type} [Inhabited α] (l:List α) (i:Nat) (x:α) (j:Nat):(l.set i x)[j]! = if i=j/\i < l.length then x else l[j]! := by
 simp only [List.getElem!_eq_getElem?_getD,List.getElem?_set]
 split
 .rename_i e;subst e
  split
  .rename_i h;simp [h]
  .rename_i h;simp [h]
 .rename_i e;simp [e]
theorem zms (hn:part.Nodup) {i k:Nat} (hi:i < part.length) (hk:k < part.length) (e:i≠k):part[i]≠part[k]:=by
 rcases Nat.lt_or_gt_of_ne e with g|g
 .exact List.pairwise_iff_getElem.1 hn i k hi hk g
 .exact fun x=>List.pairwise_iff_getElem.1 hn k i hk hi g x.symm
theorem bZ.put (hn:part.Nodup) {T T':Nat->List (List Pt)} (h:bZ part h0 o0 T hb on) (hj:j < part.length) (hi:part[j] < hb.length) (G6:part[j] < on.length) (hT:∀ k,k≠j->T' k=T k) {x:Box} {y:Pt} (hx:x=hX h0 part (T' j) j) (hy:y=oX o0 part (T' j) j):bZ part h0 o0 T' (hb.set part[j] x) (on.set part[j] y):=by
 have hm:part[j]∈part:=List.getElem_mem hj
 refine ⟨by rw [List.length_set,h.hl],by rw [List.length_set,h.ol],fun i bV=>?_,fun i bV=>?_,fun k hk=>?_,fun k hk=>?_⟩
 .rw [Zp,if_neg (fun (e:part[j]=i/\_)=>bV (e.1 ▸ hm))];exact h.fU i bV
 .rw [Zp,if_neg (fun (e:part[j]=i/\_)=>bV (e.1 ▸ hm))];exact h.GM i bV
 .rw [Zp]
  by_cases e:j=k
  .subst e;rw [if_pos ⟨rfl,hi⟩,hx]
  .rw [if_neg (fun (g:_/\_)=>zms hn hj hk e g.1),hT k fun g=>e g.symm];exact h.sw k hk
 .rw [Zp]
  by_cases e:j=k
  .subst e;rw [if_pos ⟨rfl,G6⟩,hy]
  .rw [if_neg (fun (g:_/\_)=>zms hn hj hk e g.1),hT k fun g=>e g.symm];exact h.TA k hk
theorem zq5 {k:Nat} (h:k≠j):ng S c (j+1) k=ng S c j k:=by
 unfold ng
 by_cases g:k < j
 .rw [if_pos g,if_pos (by omega)]
 .rw [if_neg g,if_neg (by omega)]
theorem Zq:ng S c (j+1) j=S++[c]:=by simp [ng]
theorem zsB:ng S c j j=S:=by simp [ng]
theorem bZ.first (hn:part.Nodup) (h:bZ part h0 o0 (ng [] c j) hb on) (hj:j < part.length) (hi:part[j] < hb.length) (G6:part[j] < on.length):bZ part h0 o0 (ng [] c (j+1)) (hb.set part[j] (bf c[j]!)) (on.set part[j] c[j]!) :=
 h.put hn hj hi G6 (fun k hk=>zq5 hk) (by rw [Zq];simp [hX,QN]) (by rw [Zq];simp [oX])
theorem zq2 {α:Type} [Inhabited α] {l:List α} {i:Nat}:l.set i l[i]! = l:=by
 by_cases h:i < l.length
 .rw [getElem!_pos l i h];exact List.set_getElem_self ..
 .exact List.set_eq_of_length_le (by omega)
theorem bZ.more (hn:part.Nodup) (hS:S≠[]) (h:bZ part h0 o0 (ng S c j) hb on) (hj:j < part.length) (hi:part[j] < hb.length) (G6:part[j] < on.length):bZ part h0 o0 (ng S c (j+1)) (hb.set part[j] (xx hb[part[j]]! c[j]!)) on:=by
 have h1:=h.sw j hj;have h2:=h.TA j hj;rw [zsB] at h1 h2;have:=h.put (T':=ng S c (j+1)) (x:=xx hb[part[j]]! c[j]!) (y:=on[part[j]]!) hn hj hi G6 (fun k hk=>zq5 hk) (by
  rw [Zq,h1];unfold hX;rw [if_neg hS,if_neg (by simp),List.map_append,List.map_singleton,znG (by simpa using hS)]) (by
  rw [Zq,h2]
  cases S with
  | nil=>exact absurd rfl hS
  | cons a S=>rfl)
 rwa [zq2] at this
theorem bZ.mid (h:bZ part h0 o0 (fun _=>S) hb on):bZ part h0 o0 (ng S c 0) hb on :=
 ⟨h.hl,h.ol,h.fU,h.GM,fun k hk=>by simpa [ng] using h.sw k hk,fun k hk=>by simpa [ng] using h.TA k hk⟩
theorem bZ.done (h:bZ part h0 o0 (ng S c part.length) hb on):bZ part h0 o0 (fun _=>S++[c]) hb on :=
 ⟨h.hl,h.ol,h.fU,h.GM,fun k hk=>by simpa [ng,hk] using h.sw k hk,fun k hk=>by simpa [ng,hk] using h.TA k hk⟩
end
def AY (facts:List Fact) (l:List Box) (part:List Nat) (c:List Pt):Bool:=(yf facts part).all fun f=>!zD f (vL part c l)
structure tL (facts:List Fact) (l:List Box) (part:List Nat) (h0:List Box) (o0:List Pt) (rest:List (List Pt)) (n:Nat) (hb:List Box) (on t:List Pt):Prop where
 len:t.length=o0.length
 nx:lK part o0 t
 pre:∃ done,done++rest=jG (zQ l part)/\n=(done.filter (AY facts l part)).length/\bZ part h0 o0 (fun _=>done.filter (AY facts l part)) hb on
 run:∀ c r,rest=c::r->iV (Di (zQ l part)) c rest/\pick t part=c
theorem lK.trans {part:List Nat} {a b c:List Pt} (h:lK part a b) (h2:lK part b c):lK part a c:=⟨h2.len.trans h.len,fun j hj=>(h2.out j hj).trans (h.out j hj)⟩
theorem zsR {α:Type} {f:α->Option α} {c:α} {rest:List α} (h:iV f c (c::rest)):(f c=none/\rest=[])\/∃ t r2,f c=some t/\rest=t::r2/\iV f t rest:=by
 cases h with
 | last _ h=>exact .inl ⟨h,rfl⟩
 | step _ b _ h hl =>
  cases hl with
  | last _ h2=>exact .inr ⟨b,[],h,rfl,.last _ h2⟩
  | step _ b2 l2 h2 xL=>exact .inr ⟨b,_,h,rfl,.step _ _ _ h2 xL⟩
theorem zrr {α:Type} {f:α->Option α} {a:α} {l:List α} (h:iV f a l):∃ r,l=a::r:=by
 cases h with
 | last a h=>exact ⟨[],rfl⟩
 | step a b l h hl=>exact ⟨l,rfl⟩
theorem tL.start {facts:List Fact} {l:List Box} {part:List Nat} {h0:List Box} {o0:List Pt} (hw:Wf (zQ l part)) (iG:pick o0 part=(zQ l part).map iW):tL facts l part h0 o0 (jG (zQ l part)) 0 h0 o0 o0 :=
 ⟨rfl,⟨rfl,fun _ _=>rfl⟩,⟨[],rfl,rfl,bZ.start⟩,fun c r e=>by
  have h:=ziA hw;obtain ⟨r2,e2⟩:=zrr h;rw [e] at e2;simp only [List.cons.injEq] at e2;rw [iG,<- e2.1];rw [<- e2.1] at h;exact ⟨h,rfl⟩⟩
theorem tL.next {facts:List Fact} {l:List Box} {part:List Nat} {h0 hb hb':List Box} {o0 on on' t t' c:List Pt} {rest:List (List Pt)} {n n':Nat} (h:tL facts l part h0 o0 (c::rest) n hb on t) {done:List (List Pt)} (e:done++(c::rest)=jG (zQ l part)) (hn:n=(done.filter (AY facts l part)).length) (hG:bZ part h0 o0 (fun _=>done.filter (AY facts l part)) hb on)
  (hg:if AY facts l part c=true then (n'=n+1/\bZ part h0 o0 (fun _=>done.filter (AY facts l part)++[c]) hb' on') else (n'=n/\hb'=hb/\on'=on))
  {b:Bool} (hN:lK part t t') (h1:b=true->Di (zQ l part) c=some (pick t' part)) (h2:b=false->Di (zQ l part) c=none):b=!rest.isEmpty/\tL facts l part h0 o0 rest n' hb' on' t':=by
 have vG:∃ done,done++rest=jG (zQ l part)/\n'=(done.filter (AY facts l part)).length/\bZ part h0 o0 (fun _=>done.filter (AY facts l part)) hb' on':=by
  refine ⟨done++[c],by rw [<- e];simp,?_,?_⟩
  .rw [List.filter_append,List.length_append,<- hn]
   cases ho:AY facts l part c with
   | true=>rw [if_pos ho] at hg;simp [ho,hg.1]
   | false=>rw [if_neg (by simp [ho])] at hg;simp [ho,hg.1]
  .rw [List.filter_append]
   cases ho:AY facts l part c with
   | true=>rw [if_pos ho] at hg;simpa [ho] using hg.2
   | false=>rw [if_neg (by simp [ho])] at hg;rw [hg.2.1,hg.2.2];simpa [ho] using hG
 have hr:=(h.run c rest rfl).1;have hlen:t'.length=o0.length:=hN.len.trans h.len;rcases zsR hr with ⟨hn,rfl⟩|⟨u,r2,hs,rfl,Fg⟩
 .cases b with
  | true=>rw [h1 rfl] at hn;simp at hn
  | false=>exact ⟨rfl,hlen,h.nx.trans hN,vG,fun c' r' e=>by simp at e⟩
 .cases b with
  | false=>rw [h2 rfl] at hs;simp at hs
  | true =>
   have e:pick t' part=u:=by rw [h1 rfl] at hs;simpa using hs
   refine ⟨rfl,hlen,h.nx.trans hN,vG,fun c' r' e'=>?_⟩
   simp only [List.cons.injEq] at e';obtain ⟨rfl,rfl⟩:=e';exact ⟨Fg,e⟩
theorem zjg {l:List Box} {part:List Nat} {c:List Pt} (hc:c∈jG (zQ l part)):c.length=part.length/\∀ k (h:k < part.length) (h':k < c.length),bF c[k] l[part[k]]! := by
 obtain ⟨h1,h2⟩:=mZ.1 hc;have e:(zQ l part).length=part.length:=by simp [zQ]
 exact ⟨by rw [h1,e],fun k h h'=>by have:=h2 k (by rw [e];exact h) h';simpa [zQ] using this⟩
theorem zrj {l:List Box} {part:List Nat} {o0 t c:List Pt} (hN:lK part o0 t) (hc:c∈jG (zQ l part)) (hp:pick t part=c) (ho:∀ p∈o0,mO p) (hv:∀ b∈l,mJ b=true) (hi:∀ i∈part,i < l.length) (IC:o0.length=l.length):∀ p∈t,mO p:=by
 intro p tC;obtain ⟨j,hj,rfl⟩:=List.getElem_of_mem tC
 by_cases hm:j∈part
 .obtain ⟨k,hk,rfl⟩:=List.getElem_of_mem hm;obtain ⟨h1,h2⟩:=zjg hc;have AL:k < c.length:=by rw [h1];exact hk
  have:=h2 k hk AL;have e:c[k]=t[part[k]]:=by subst hp;rw [KJ hk,getElem!_pos t _ hj]
  rw [e,getElem!_pos l _ (hi _ hm)] at this;have hb:=aH.1 (hv _ (List.getElem_mem (hi _ hm)));unfold bF at this;unfold mO;omega
 .have:=hN.out j hm;have DF:j < o0.length:=by rw [<- hN.len];exact hj
  rw [getElem!_pos t j hj,getElem!_pos o0 j DF] at this;rw [this];exact ho _ (List.getElem_mem DF)
theorem zs5:G.shared 43=true:=by decide
structure vZ (p:Problem) (l:Sl Box) (part:List Nat) (o0:List Pt):Prop where
 nf:p.facts.xs.length<=60
 nl:l.xs.length<=12
 np:part.length<=12
 pos:0 < part.length
 nd:part.Nodup
 lt:∀ i∈part,i < l.xs.length
 val:∀ b∈l.xs,mJ b=true
 form:∀ f∈p.facts.xs,qh f l.xs.length=true
 wi:∀ f∈p.facts.xs,f.a.toNat∈part->Within part f
 QO:(jG (zQ l.xs part)).length<=65536
 ol:o0.length=l.xs.length
 ok:∀ q∈o0,mO q
 low:pick o0 part=(zQ l.xs part).map iW
 wf:Wf (zQ l.xs part)
def sW (p:Problem) (l:Sl Box) (part:List Nat):List (List Pt):=(jG (zQ l.xs part)).filter (AY p.facts.xs l.xs part)
structure fq (H:Heap) (F iH iO:Nat) (e:Int) (vN:AV) (N:List Int) (hb:List Box) (on:List Pt) (m:Nat):Prop where
 f:H.get F=.cells true [.pure (.int .i64 e),vN,.row iH 4 0 m,.row iO 2 0 m]
 n:aC aF 1 H vN N
 h:H.get iH=.cells true (zq Box.cells hb)
 o:H.get iO=.cells true (zq Pt.cells on)
 fh:F≠iH
 fo:F≠iO
 ho:iH≠iO
 nF:¬ Names vN F
 nH:¬ Names vN iH
 nO:¬ Names vN iO
structure oU (H H':Heap) (F iH iO:Nat) (vN:AV):Prop where
 nx:H.nx<=H'.nx
 get:∀ j,j < H.nx->j≠F->j≠iH->j≠iO->¬ Names vN j->H'.get j=H.get j
theorem fq.at2 {H H2:Heap} {F iH iO m:Nat} {e:Int} {vN:AV} {N:List Int} {hb:List Box} {on:List Pt} {o:aP} (hF:fq H F iH iO e vN N hb on m) (bq:∀ id,id < (H.alloc o).nx->¬ Names vN id->H2.get id=(H.alloc o).get id):H2.get F=.cells true [.pure (.int .i64 e),vN,.row iH 4 0 m,.row iO 2 0 m]:=by
 have:=zo hF.f;rw [bq F (by simp;omega) hF.nF,zi this,hF.f]
theorem fq.grow {H H2:Heap} {F iH iO m:Nat} {e:Int} {vN v2:AV} {N N2:List Int} {hb:List Box} {on:List Pt} {o:aP} (hF:fq H F iH iO e vN N hb on m) (hv:aC aF 1 H2 v2 N2) (bU:(H.alloc o).nx<=H2.nx) (bq:∀ id,id < (H.alloc o).nx->¬ Names vN id->H2.get id=(H.alloc o).get id) (aS:∀ id,Names v2 id->(H.alloc o).nx<=id) (e':Int) :
  fq (H2.set F (.cells true [.pure (.int .i64 e'),v2,.row iH 4 0 m,.row iO 2 0 m])) F iH iO e' v2 N2 hb on m/\oU H (H2.set F (.cells true [.pure (.int .i64 e'),v2,.row iH 4 0 m,.row iO 2 0 m])) F iH iO vN:=by
 have h1:=zo hF.f;have h2:=zo hF.h;have h3:=zo hF.o;simp only [qp] at bU bq aS;have nF:¬ Names v2 F:=fun h=>by have:=aS F h;omega
 have nH:¬ Names v2 iH:=fun h=>by have:=aS iH h;omega
 have nO:¬ Names v2 iO:=fun h=>by have:=aS iO h;omega
 refine ⟨⟨zn (by omega),hv.set nF _,?_,?_,hF.fh,hF.fo,hF.ho,nF,nH,nO⟩,⟨by simp;omega,fun j hj a1 a2 a3 a4=>?_⟩⟩
 .rw [zg (Ne.symm hF.fh),bq iH (by omega) hF.nH,zi h2,hF.h]
 .rw [zg (Ne.symm hF.fo),bq iO (by omega) hF.nO,zi h3,hF.o]
 .rw [zg a1,bq j (by omega) a4,zi hj]
theorem zk6 {n:Nat} {H:Heap} {F iH iO m:Nat} {e:Int} {vN:AV} {N:List Int} {hb:List Box} {on:List Pt} {p:Problem} {l:Sl Box} {k0:Nat} {k:AV->Heap->Prop} (hF:fq H F iH iO e vN N hb on m) (nf:p.facts.xs.length<=60) (AX:k0 < l.xs.length) (hv:∀ b∈l.xs,mJ b=true) (wC:MZ p.facts.xs (k0:Nat)=false) (hN:N.length<=12)
  (hk:∀ H' vN',fq H' F iH iO e vN' (N++[oq l.xs[k0]!]) hb on m->oU H H' F iH iO vN->k (.aQ []) H') :
  ∃ v H',Vm.call G (n+4) (.fn 43) [.box F 0,.pure (.agg p.cells),.pure (l.pv Box.cells 4),.pure (.agg (qz [k0]))] H=some (v,H')/\k v H':=by
 refine F8 rfl g43 rfl ?_
 obtain ⟨bs,fs⟩:=p;have hk:=Hide.mk hk;have wG:=hv _ (List.getElem_mem AX);rw [getElem!_pos l.xs k0 AX] at hk;have h1:=fun H=>zf (G:=G) (n:=n+3) (H:=H) (caps:=[]) (ps:=[.agg (Problem.mk bs fs).cells,.int .i64 (k0:Int)]) sh84 (e84 (n+2) ⟨bs,fs⟩ (k0:Int) nf);have h2:=fun H=>zf (G:=G) (n:=n+3) (H:=H) (caps:=[]) (ps:=[.agg l.xs[k0].cells]) sh85 (e85 (n+2) l.xs[k0] wG);rw [wC] at h1;simp only [Problem.cells,Box.cells,Span.cells,List.map] at h1 h2;have hvN:aC aF 1 H vN N:=hF.n;have hf:=hF.f;have WN:=zo hF.f;have Bv:=zo hF.h;have QP:=zo hF.o;have QQ:=Hide.mk hF;have Hu:(k0:Int) < l.xs.length:=by omega
 have Zm:yV 1 (.pure ((Sl.mk false (zL [k0])).pv aF 1)) (.pure (.int .i64 0))=some (.val (.pure (.ptr false [.int .i64 (k0:Int)] 0))):=by
  have:=pR (k:=.i64) (n:=0) (f:=aF) (sz:=1) (s:=Sl.mk false (zL [k0])) (by simp [zL]);have e:(Sl.mk false (zL [k0])).xs[0]'(by simp [zL])=(k0:Int):=by simp [zL]
  rw [e] at this;exact this
 clear wC hF hv wG;(repeat' first|simp [*,zb,c43,Problem.cells,qz,Box.cells,Span.cells]|(apply za<;>intro _ h<;>try simp [-Nat.le_zero_eq] at h)|(show wpE 0 (zh ..) ..;refine zm ?_)|(refine ze fun v2 H2 aV aD ae af ai aj=>?_));have g2:=QQ.h.at2 ae;have hg:=QQ.h.grow aV aD ae af e;have hg:=Hide.mk hg;have jD:=zo g2;clear ae af QQ;(repeat' first|simp [*,zb]|(apply za<;>intro _ h<;>try simp [-Nat.le_zero_eq] at h)|(show wpE 0 (zh ..) ..;refine zm ?_)|(refine ze fun v2 H2 aV aD ae af ai aj=>?_));exact hk.h _ _ hg.h.1 hg.h.2
theorem zif {α:Type} {f g:α->Bool}:∀ {l:List α},(∀ a∈l,f a=g a)->l.all f=l.all g
 | [],_=>rfl
 | a::l,h=>by rw [List.all_cons,List.all_cons,h a List.mem_cons_self,zif fun b hb=>h b (List.mem_cons_of_mem _ hb)]
theorem fq.to {H H':Heap} {F iH iO m:Nat} {e:Int} {vN:AV} {N:List Int} {hb hb':List Box} {on on':List Pt} (hF:fq H F iH iO e vN N hb on m) (hk:∀ j,j < H.nx->j≠iH->j≠iO->H'.get j=H.get j) (g1:H'.get iH=.cells true (zq Box.cells hb')) (g2:H'.get iO=.cells true (zq Pt.cells on')):fq H' F iH iO e vN N hb' on' m:=by
 have h1:=zo hF.f
 refine ⟨by rw [hk F h1 hF.fh hF.fo,hF.f],⟨hF.n.1.keep fun i ⟨n,hi⟩=>?_,hF.n.2⟩,g1,g2,hF.fh,hF.fo,hF.ho,hF.nF,hF.nH,hF.nO⟩
 exact hk i (hF.n.1.names_lt ⟨_,_,_,hi⟩) (fun g=>hF.nH (g ▸ ⟨_,_,_,hi⟩)) (fun g=>hF.nO (g ▸ ⟨_,_,_,hi⟩))
theorem fq.keep {H H':Heap} {F iH iO m:Nat} {e:Int} {vN:AV} {N:List Int} {hb:List Box} {on:List Pt} (hF:fq H F iH iO e vN N hb on m) (hk:∀ j,j < H.nx->H'.get j=H.get j):fq H' F iH iO e vN N hb on m :=
 hF.to (fun j hj _ _=>hk j hj) (by rw [hk _ (zo hF.h),hF.h]) (by rw [hk _ (zo hF.o),hF.o])
structure nT (H H':Heap) (F iH iO iP:Nat) (e:Int) (vN:AV) (N:List Int) (hb:List Box) (on t:List Pt) (m:Nat):Prop where
 fr:fq H' F iH iO e vN N hb on m
 p:H'.get iP=.cells true (zq Pt.cells t)
 nx:H.nx<=H'.nx
 lt:H.nx<=iP
 same:∀ j,j < H.nx->j≠F->j≠iH->j≠iO->H'.get j=H.get j
 lF:F < H.nx
 lH:iH < H.nx
 lO:iO < H.nx
theorem nT.to {H H1 H2:Heap} {F iH iO iP m:Nat} {e:Int} {vN:AV} {N:List Int} {hb hb':List Box} {on on' t t':List Pt} (h:nT H H1 F iH iO iP e vN N hb on t m) (bU:H1.nx<=H2.nx) (hk:∀ j,j < H1.nx->j≠iH->j≠iO->j≠iP->H2.get j=H1.get j) (hv:∀ i,Names vN i->i < H.nx) (g1:H2.get iH=.cells true (zq Box.cells hb')) (g2:H2.get iO=.cells true (zq Pt.cells on')) (g3:H2.get iP=.cells true (zq Pt.cells t')):nT H H2 F iH iO iP e vN N hb' on' t' m:=by
 have:=h.lt;have:=h.lF;have:=h.nx
 refine ⟨?_,g3,by omega,h.lt,fun j hj a b c=>?_,h.lF,h.lH,h.lO⟩
 .refine ⟨?_,⟨h.fr.n.1.keep fun i ⟨n,hi⟩=>?_,h.fr.n.2⟩,g1,g2,h.fr.fh,h.fr.fo,h.fr.ho,h.fr.nF,h.fr.nH,h.fr.nO⟩
  .rw [hk F (by omega) h.fr.fh h.fr.fo (by omega),h.fr.f]
  .have hl:=hv i ⟨_,_,_,hi⟩;exact hk i (by omega) (fun g=>h.fr.nH (g ▸ ⟨_,_,_,hi⟩)) (fun g=>h.fr.nO (g ▸ ⟨_,_,_,hi⟩)) (by omega)
 .rw [hk j (by omega) b c (by omega),h.same j hj a b c]
theorem zuu {p:Problem} {l:Sl Box} {part:List Nat} {o0 t c:List Pt} (hp:vZ p l part o0) (hN:lK part o0 t) (CW:pick t part=c):((yf p.facts.xs part).all fun f=>!zD f (t.map bf))=AY p.facts.xs l.xs part c:=by
 unfold AY
 refine zif fun f hf=>?_
 have wD:=List.mem_filter.1 hf;have hm:f.a.toNat∈part:=by
  have:=wD.2;unfold Ew at this;obtain ⟨k,hk,nM⟩:=List.any_eq_true.1 this;simp only [decide_eq_true_eq] at nM;rw [nM,Int.toNat_natCast];exact hk
 subst CW;rw [YN (facts:=p.facts.xs) (hN.len.trans hp.ol) hp.nd hp.lt (hp.wi f wD.1 hm)]
theorem zuA {p:Problem} {l:Sl Box} {part:List Nat} {o0 t:List Pt} (hp:vZ p l part o0) (hN:lK part o0 t) (ho:∀ q∈t,mO q):∀ f∈yf p.facts.xs part,rT f (t.map bf):=fun f hf=>by
 have wD:=List.mem_filter.1 hf
 refine YF ?_
 unfold P9;rw [Bool.and_eq_true,List.all_eq_true]
 refine ⟨fun b hb=>?_,by rw [List.length_map,hN.len,hp.ol];exact hp.form f wD.1⟩
 obtain ⟨q,hq,rfl⟩:=List.mem_map.1 hb;have:=ho q hq;unfold mO at this;rw [aH];simp only [bf];omega
theorem fq.QR {H:Heap} {F iH iO m:Nat} {e:Int} {vN:AV} {N:List Int} {hb:List Box} {on:List Pt} (hF:fq H F iH iO e vN N hb on m) (e':Int):fq (H.set F (.cells true [.pure (.int .i64 e'),vN,.row iH 4 0 m,.row iO 2 0 m])) F iH iO e' vN N hb on m :=
 ⟨zn (zo hF.f),hF.n.set hF.nF _,by rw [zg (Ne.symm hF.fh),hF.h],by rw [zg (Ne.symm hF.fo),hF.o],hF.fh,hF.fo,hF.ho,hF.nF,hF.nH,hF.nO⟩
theorem oU.QR {H H':Heap} {F iH iO:Nat} {vN:AV} (h:oU H H' F iH iO vN) (o:aP):oU H (H'.set F o) F iH iO vN:=⟨by simpa using h.nx,fun j hj a b c d=>by rw [zg a];exact h.get j hj a b c d⟩
theorem nT.found {H H' H2:Heap} {F iH iO iP:Nat} {e:Int} {vN:AV} {N:List Int} {hb:List Box} {on t:List Pt} {m:Nat} (h:nT H H' F iH iO iP e vN N hb on t m) (h2:oU H' H2 F iH iO vN):oU H H2 F iH iO vN :=
 ⟨Nat.le_trans h.nx h2.nx,fun j hj a b c d=>by rw [h2.get j (Nat.lt_of_lt_of_le hj h.nx) a b c d,h.same j hj a b c]⟩
theorem znp {n:Nat} {H:Heap} {F iH iO m:Nat} {e:Int} {vN:AV} {N:List Int} {h0:List Box} {o0:List Pt} {p:Problem} {l:Sl Box} {part:List Nat} {k:AV->Heap->Prop} (hF:fq H F iH iO e vN N h0 o0 m) (hm:m=l.xs.length) (hp:vZ p l part o0) (h0l:h0.length=l.xs.length) (wC:MZ p.facts.xs (part[0]'hp.pos:Nat)=true) (hN:N.length<=12)
  (hk:∀ H' vN' hb on,fq H' F iH iO (if sW p l part=[] then 9 else e) vN' (N++[((sW p l part).length:Int)]) hb on m->oU H H' F iH iO vN->bZ part h0 o0 (fun _=>sW p l part) hb on->k (.aQ []) H') :
  ∃ v H',Vm.call G (n+4) (.fn 43) [.box F 0,.pure (.agg p.cells),.pure (l.pv Box.cells 4),.pure (.agg (qz part))] H=some (v,H')/\k v H':=by
 refine F8 rfl g43 rfl ?_
 subst hm;have hk:=Hide.mk hk;have nf:=hp.nf;have np:=hp.np;have nl:=hp.nl;have e1:(zL part).length=part.length:=z8 part;have h1:=fun H=>zf (G:=G) (n:=n+3) (H:=H) (caps:=[]) (ps:=[.agg p.cells,.int .i64 (part[0]'hp.pos:Nat)]) sh84 (e84 (n+2) p (part[0]'hp.pos:Nat) nf);have h2:=fun H=>zf (G:=G) (n:=n+3) (H:=H) (caps:=[]) (ps:=[.agg p.cells,.agg (qz part)]) sh86 (e86 (n+2) p part nf np hp.nd);rw [wC] at h1;obtain ⟨q0,Zr⟩:∃ q,part[0]'hp.pos=q:=⟨_,rfl⟩
 rw [Zr] at h1;obtain ⟨s0,nU⟩:∃ s:Sl Fact,s=Sl.of (yf p.facts.xs part):=⟨_,rfl⟩
 rw [<- nU] at h2;have hs0H:=Hide.mk nU;clear nU;obtain ⟨x1,wX⟩:∃ x,p.boxes.pv Box.cells 4=x:=⟨_,rfl⟩
 obtain ⟨x2,rz⟩:∃ x,p.facts.pv Fact.cells 9=x:=⟨_,rfl⟩
 simp only [qz,Problem.cells,wX,rz,List.map] at h1 h2;have mg:=hp.pos;have R8:0 < (zL part).length:=by rw [e1];exact mg
 have Zm:yV 1 (.pure ((Sl.mk false (zL part)).pv aF 1)) (.pure (.int .i64 0))=some (.val (.pure (.ptr false [.int .i64 (q0:Nat)] 0))):=by
  have:=pR (k:=.i64) (n:=0) (f:=aF) (sz:=1) (s:=Sl.mk false (zL part)) R8;have e:(Sl.mk false (zL part)).xs[0]'R8=(q0:Nat):=by simp [zL,Zr]
  rw [e] at this;exact this
 have hf:=hF.f;have ho:=hF.o;have WN:=zo hF.f;have Bv:=zo hF.h;have QP:=zo hF.o;have QQ:=Hide.mk hF;have pK:=Hide.mk hp;have YJ:=Hide.mk h0l;have IC:=hp.ol;have Ah:zM (H.alloc (.cells true [])) 2 (.row iO 2 0 l.xs.length)=some (zq Pt.cells o0,o0.length):=by
  rw [<- IC,zhE (own:=true) (cs:=zq Pt.cells o0) (by rw [zi QP];exact ho) (by rw [DX (sz:=2) (fun _=>rfl)];exact Nat.le_refl _),List.take_of_length_le (by rw [DX (sz:=2) (fun _=>rfl)];exact Nat.le_refl _)]
 clear wC hF hp h0l Zr;(repeat' first|simp [*,zb,c43,qz,Problem.cells]|(apply za<;>intro _ h<;>try simp [-Nat.le_zero_eq] at h)|(show wpE 0 (zh ..) ..;refine zm ?_)|(refine ze fun v2 H2 aV aD ae af ai aj=>?_))
 refine Yp (f:=Pt.cells) (l:=[]) (m:=o0) (.inr ⟨H.nx,rfl,by simp [zq]⟩) (fun _=>rfl) (by decide) (fun _=>rfl) Ah (by simp [zu];omega) ?_
 intro v3 H3 Lm Ad CG CJ;have bC:o0≠[]:=fun g=>by
  have hq:=pK.h.lt _ (List.getElem_mem mg);rw [g] at IC;simp at IC;omega
 obtain ⟨iP,rfl,hgP⟩:=Lm.row (by simpa using bC);rw [List.nil_append] at hgP;have hPl:H.nx<=iP:=by
  rcases CJ iP ⟨_,_,_,rfl⟩ with ⟨_,_,_,g⟩|g
  .simp at g;omega
  .simp at g;omega
 have WM:∀ j,j < H.nx->H3.get j=H.get j:=fun j hj=>by
  rw [CG j (by simp;omega) (fun ⟨_,_,_,g⟩=>by simp at g;omega),zi hj]
 have wO:Hide (nT H H3 F iH iO iP e vN N h0 o0 o0 l.xs.length):=⟨⟨QQ.h.keep WM,hgP,by simp at Ad;omega,hPl,fun j hj _ _ _=>WM j hj,WN,Bv,QP⟩⟩
 have vD:Hide (∀ i,Names vN i->i < H.nx):=⟨fun i hi=>QQ.h.n.1.names_lt hi⟩
 have Ak:Hide (tL p.facts.xs l.xs part h0 o0 (jG (zQ l.xs part)) 0 h0 o0 o0):=⟨tL.start pK.h.wf pK.h.low⟩
 have hex:(jG (zQ l.xs part)).isEmpty=false:=by
  have:=(ziA pK.h.wf).ne
  cases hh:jG (zQ l.xs part) with
  | nil=>exact absurd hh this
  | cons a b=>rfl
 rw [List.nil_append,IC];clear Lm hgP hPl WM Ah CG CJ hf ho h1 h2 Zm;(repeat' first|simp [*,zb]|(apply za<;>intro _ h<;>try simp [-Nat.le_zero_eq] at h)|(show wpE 0 (zh ..) ..;refine zm ?_)|(refine ze fun v2 H2 aV aD ae af ai aj=>?_))
 refine zA [(11,15),(50,132)] (fun (rest:List (List Pt)) env H'=>env 12=.pure (.bool (!rest.isEmpty))/\∃ (n:Nat) (hb:List Box) (on t:List Pt),env 11=.pure (.int .i64 n)/\Hide (nT H H' F iH iO iP e vN N hb on t l.xs.length)/\Hide (tL p.facts.xs l.xs part h0 o0 rest n hb on t)) (fun rest=>rest.length) (jG (zQ l.xs part)) ?_ ?_ ?_ ?_
 .decide
 .exact ⟨by simp [hex],0,h0,o0,o0,by simp,wO,Ak⟩
 .have:=pK.h.QO;simp only [zz];omega
 clear wO Ak hex;rintro rest env H4 ⟨g12,nS,hb,on,t,g11,wO,Ak⟩
 cases rest with
 | nil =>
  obtain ⟨done,hd,qU,HV⟩:=Ak.h.pre;rw [List.append_nil] at hd;subst hd;have hn:nS=(sW p l part).length:=qU;have hG:=Hide.mk (show bZ part h0 o0 (fun _=>sW p l part) hb on from HV);clear qU HV;have g12:env 12=.pure (.bool false):=by simpa using g12
  have hf:=wO.h.fr.f;have CK:=zo hf;have hvN:aC aF 1 H4 vN N:=wO.h.fr.n;have MF:=Hide.mk hn;have hnB:(nS:Int) < 100000:=by
   have h1:=pK.h.QO;have h2:(sW p l part).length<=(jG (zQ l.xs part)).length:=List.length_filter_le _ _;omega
  clear hn Ak;(repeat' first|simp [*,zb]|(apply za<;>intro _ h<;>try simp [-Nat.le_zero_eq] at h)|(show wpE 0 (zh ..) ..;refine zm ?_)|(refine ze fun v2 H2 aV aD ae af ai aj=>?_));have g2:=wO.h.fr.at2 ae;have hg:=wO.h.fr.grow aV aD ae af e;have hgK:=Hide.mk (wO.h.found hg.2);have hg:=Hide.mk hg.1;have jD:=zo g2;clear ae af QQ wO
  by_cases hz:nS=0
  .subst hz;have hS:sW p l part=[]:=List.eq_nil_of_length_eq_zero MF.h.symm;(repeat' first|simp [*,zb]|(apply za<;>intro _ h<;>try simp [-Nat.le_zero_eq] at h)|(show wpE 0 (zh ..) ..;refine zm ?_)|(refine ze fun v2 H2 aV aD ae af ai aj=>?_))
   refine hk.h _ v2 hb on ?_ (hgK.h.QR _) hG.h
   rw [if_pos hS];have:=hg.h.QR 9;rw [hS]
   simpa using this
  .have hS:sW p l part≠[]:=fun g=>hz (by rw [MF.h,g];rfl);have hzI:¬ (nS:Int)=0:=by omega
   (repeat' first|simp [*,zb]|(apply za<;>intro _ h<;>try simp [-Nat.le_zero_eq] at h)|(show wpE 0 (zh ..) ..;refine zm ?_)|(refine ze fun v2 H2 aV aD ae af ai aj=>?_))
   refine hk.h _ v2 hb on ?_ hgK.h hG.h
   rw [if_neg hS,<- MF.h];exact hg.h
 | cons c rest =>
  obtain ⟨done,hd,qU,HV⟩:=Ak.h.pre;obtain ⟨bO,CW⟩:=Ak.h.run c rest rfl;have hc:c∈jG (zQ l.xs part):=by rw [<- hd];simp
  have QS:=zrj Ak.h.nx hc CW pK.h.ok pK.h.val pK.h.lt pK.h.ol;have qx:t.length=l.xs.length:=Ak.h.len.trans pK.h.ol;have hnB:(nS:Int) < 100000:=by
   have h1:=pK.h.QO;have h2:(done.filter (AY p.facts.xs l.xs part)).length<=done.length:=List.length_filter_le _ _;have h3:done.length+(c::rest).length=(jG (zQ l.xs part)).length:=by rw [<- hd,List.length_append]
   omega
  have bW:=(zjg hc).1;obtain ⟨S,hS⟩:∃ S,done.filter (AY p.facts.xs l.xs part)=S:=⟨_,rfl⟩
  have QT:=Hide.mk hd;have IZ:=Hide.mk qU;have WO:=Hide.mk HV;rw [hS] at qU HV;have vJ:=Hide.mk qU;have Zt:=Hide.mk HV;have Ta:=Hide.mk hS;clear qU HV;have hHo:=zuA pK.h Ak.h.nx QS;have hoR:=zuu pK.h Ak.h.nx CW;have xm:=Hide.mk (show ∀ b∈l.xs,Zo 1048576 b from fun b hb=>by have:=aH.1 (pK.h.val b hb);unfold Zo;omega);obtain ⟨s1,AP,Hw⟩:=Ha (n:=10) (f:=Pt.cells) (sz:=2) (fun _=>rfl) wO.h.p qx;have Zu:s0.xs=yf p.facts.xs part:=by rw [hs0H.h,Sl.fP]
  have um:(yf p.facts.xs part).length < 1000:=by
   have:(yf p.facts.xs part).length<=p.facts.xs.length:=List.length_filter_le _ _;omega
  have M3:=e88 (n+1) s0 s1 (by rw [Zu,AP];exact hHo) (by rw [Zu];exact um);rw [Zu,AP,hoR] at M3;have g12:env 12=.pure (.bool true):=by simpa using g12
  have M4:=Hide.mk QS;have JI:=Hide.mk CW;clear hHo hoR AP Zu hd hS bO hc CW QS qx;(repeat' first|simp [*,zb]|(apply za<;>intro _ h<;>try simp [-Nat.le_zero_eq] at h)|(show wpE 0 (zh ..) ..;refine zm ?_)|(refine ze fun v2 H2 aV aD ae af ai aj=>?_))
  refine LC (caps:=[]) (ps:=[_,_]) (by decide) (.cons (.pure _) (.cons Hw .nil)) M3 rfl ?_
  clear M3 Hw
  cases bQ:AY p.facts.xs l.xs part c with
  | false =>
   (repeat' first|simp [*,zb]|(apply za<;>intro _ h<;>try simp [-Nat.le_zero_eq] at h)|(show wpE 0 (zh ..) ..;refine zm ?_)|(refine ze fun v2 H2 aV aD ae af ai aj=>?_))
   refine LB zoI ?_
   refine zjQ wO.h.p (Ak.h.len.trans pK.h.ol) xm.h M4.h nl np pK.h.nd pK.h.lt rfl ?_
   intro b H5 t2 QU nL JJ WQ sF vF;rw [JI.h] at sF vF;obtain ⟨R4,Ey⟩:=Ak.h.next (n':=nS) (hb':=hb) (on':=on) QT.h IZ.h WO.h (by rw [if_neg (by simp [bQ])];exact ⟨rfl,rfl,rfl⟩) WQ sF vF;have Ey:=Hide.mk Ey;have aK:=wO.h.lt;have Ju:=wO.h.lH;have hlO:=wO.h.lO;have jO:Hide (nT H H5 F iH iO iP e vN N hb on t2 l.xs.length):=⟨wO.h.to QU (fun j hj _ _ c=>nL j hj c) vD.h (by rw [nL iH (zo wO.h.fr.h) (by omega)];exact wO.h.fr.h) (by rw [nL iO (zo wO.h.fr.o) (by omega)];exact wO.h.fr.o) JJ⟩
   clear sF vF JJ WQ nL Ak wO vJ Zt IZ WO M4 JI bQ;subst R4;(repeat' first|simp [*,zb]|(apply za<;>intro _ h<;>try simp [-Nat.le_zero_eq] at h)|(show wpE 0 (zh ..) ..;refine zm ?_)|(refine ze fun v2 H2 aV aD ae af ai aj=>?_));exact ⟨rest,by simp,by simp,nS,rfl,hb,on,t2,jO,Ey⟩
  | true =>
   have hPG:Hide (bZ part h0 o0 (ng S c 0) hb on):=⟨Zt.h.mid⟩
   have htc:Hide (∀ j (h:j < part.length),c[j]! = t[part[j]]!):=⟨fun j h=>by
    rw [<- JI.h,getElem!_pos (pick t part) j (by rw [M0];exact h),KJ h]⟩
   have qx:=Ak.h.len.trans pK.h.ol;(repeat' first|simp [*,zb]|(apply za<;>intro _ h<;>try simp [-Nat.le_zero_eq] at h)|(show wpE 0 (zh ..) ..;refine zm ?_)|(refine ze fun v2 H2 aV aD ae af ai aj=>?_))
   refine zA [(14,15),(60,130)] (fun (j:Nat) env H'=>env 14=.pure (.int .i64 j)/\j<=part.length/\∃ (hb:List Box) (on:List Pt),Hide (nT H H' F iH iO iP e vN N hb on t l.xs.length)/\Hide (bZ part h0 o0 (ng S c j) hb on)) (fun j=>part.length - j) 0 ?_ ?_ ?_ ?_
   .decide
   .exact ⟨by simp,by omega,hb,on,wO,hPG⟩
   .simp only [zz];omega
   clear hPG;rintro j iB H5 ⟨g14,hj,vF,QV,jO,CL⟩
   by_cases iX:j < part.length
   .have w1:IntKind.i64.wrap ((j:Int)+1)=(j+1:Nat):=by rw [wrap64 (by omega) (by omega)];omega
    obtain ⟨q,hq⟩:∃ q,part[j]=q:=⟨_,rfl⟩
    have CF:q < l.xs.length:=hq ▸ pK.h.lt _ (List.getElem_mem iX);have OI:q < t.length:=by omega
    have ES:vF.length=l.xs.length:=CL.h.hl.trans YJ.h;have onl:QV.length=l.xs.length:=CL.h.ol.trans IC;have TB:q < vF.length:=by omega
    have hqo:q < QV.length:=by omega
    have SY:j < (zL part).length:=by omega
    have gj:(zL part)[j]=(q:Int):=by simp [zL,hq]
    have SX:(j:Int) < part.length:=by omega
    have Oj:(q:Int) < l.xs.length:=by omega
    have PW:c[j]! = t[q]:=by rw [htc.h j iX,hq,getElem!_pos t q OI]
    have hf:=jO.h.fr.f;have hh:=jO.h.fr.h;have ho:=jO.h.fr.o;have hP:=jO.h.p;have i1:=zo hf;have i2:=zo hh;have i3:=zo ho;have i4:=zo hP;have aK:=jO.h.lt;have hlF:=jO.h.lF;have Ju:=jO.h.lH;have hlO:=jO.h.lO;have n1:=jO.h.fr.fh;have n2:=jO.h.fr.fo;have n3:=jO.h.fr.ho;have n4:iP≠iH:=by omega
    have n5:iP≠iO:=by omega
    have pO:=Fj (f:=Pt.cells) (sz:=2) (l:=QV) (a:=t[q]) (fun _=>rfl) (fun _=>rfl) (by decide) hqo;have Zw:=fun b=>Fj (f:=Box.cells) (sz:=4) (l:=vF) (a:=b) (fun _=>rfl) (fun _=>rfl) (by decide) TB;have Zx:=fun b=>Fj (f:=Box.cells) (sz:=4) (l:=vF.set q (bf t[q])) (i:=q) (a:=b) (fun _=>rfl) (fun _=>rfl) (by decide) (by simpa using TB);simp only [List.set_set] at Zx;have lH:Fh (.cells true (zq Box.cells (vF.set q (bf t[q])))) 4 (q*4)=some ((bf t[q]).cells.map .pure):=by
     have:=zC (own:=true) (f:=Box.cells) (sz:=4) (size:=4) (off:=0) (l:=vF.set q (bf t[q])) (i:=q) (fun _=>rfl) (by simpa using TB) (by decide);rw [List.getElem_set_self] at this
     simpa [Box.cells,Span.cells] using this
    have Lj:=fun b H=>zf (G:=G) (n:=n+3) (H:=H) (caps:=[]) (ps:=[.agg (Box.cells b),.agg t[q].cells]) sh89 (e89 (n+2) b t[q]);have sN:Hide (∀ hb',nT H (H5.set iH (.cells true (zq Box.cells hb'))) F iH iO iP e vN N hb' QV t l.xs.length):=⟨fun hb'=>jO.h.to (by simp) (fun j hj a b c=>zg a) vD.h (zn i2) (by rw [zg (Ne.symm n3)];exact ho) (by rw [zg n4];exact hP)⟩
    have hs3:Hide (∀ o hb' on',nT H (((H5.set iH o).set iO (.cells true (zq Pt.cells on'))).set iH (.cells true (zq Box.cells hb'))) F iH iO iP e vN N hb' on' t l.xs.length):=⟨fun o hb' on'=>jO.h.to (by simp) (fun j hj a b c=>by rw [zg a,zg b,zg a]) vD.h (zn (by simpa using i2)) (by rw [zg (Ne.symm n3)];exact zn (by simpa using i3)) (by rw [zg n4,zg n5,zg n4];exact hP)⟩
    have r1:∀ o,(H5.set iH o).get F=H5.get F:=fun o=>zg n1;have r2:∀ o o',((H5.set iH o).set iO o').get F=H5.get F:=fun o o'=>by rw [zg n2,zg n1]
    have r3:∀ o o',((H5.set iH o).set iO o').get iH=o:=fun o o'=>by rw [zg n3];exact zn i2
    have r4:∀ o,(H5.set iH o).get iP=H5.get iP:=fun o=>zg n4;have r5:∀ o o',((H5.set iH o).set iO o').get iP=H5.get iP:=fun o o'=>by rw [zg n5,zg n4]
    have r6:∀ o,(H5.set iH o).get iO=H5.get iO:=fun o=>zg (Ne.symm n3);clear jO aK hlF Ju hlO
    by_cases hz:nS=0
    .subst hz;have Tc:S=[]:=List.eq_nil_of_length_eq_zero vJ.h.symm;clear Ta;subst Tc;have hG:=Hide.mk (CL.h.first pK.h.nd iX (by rw [hq];exact TB) (by rw [hq];exact hqo));rw [PW,hq] at hG;have M5:=Lj (bf t[q]);rw [zsH] at M5;have pH3:=Zw (bf t[q]);have pH4:=Zx (bf t[q]);simp only [bf,Box.cells,Span.cells,Pt.cells,List.map] at M5 pH3 pH4 lH pO;have g11:env 11=.pure (.int .i64 0):=by simpa using g11
     clear CL hq PW sN Lj Zw Zx Ak hnB Zt vJ IZ WO;(repeat' first|simp [*,zb,Box.cells,Span.cells,Pt.cells]|(apply za<;>intro _ h<;>try simp [-Nat.le_zero_eq] at h)|(show wpE 0 (zh ..) ..;refine zm ?_)|(refine ze fun v2 H2 aV aD ae af ai aj=>?_));exact ⟨j+1,by omega,by omega,by omega,_,_,⟨hs3.h _ _ _⟩,hG⟩
    .have Y0:S≠[]:=fun g=>hz (by rw [vJ.h,g];rfl);have hG:=Hide.mk (CL.h.more pK.h.nd Y0 iX (by rw [hq];exact TB) (by rw [hq];exact hqo));rw [PW] at hG;simp only [hq] at hG;rw [getElem!_pos vF q TB] at hG;have M5:=Lj vF[q];have pH3:=Zw (xx vF[q] t[q]);simp only [Box.cells,Span.cells,Pt.cells,List.map] at M5 pH3;clear Lj Zw;generalize xx vF[q] t[q]=jb at *;have hzI:¬ (nS:Int)=0:=by omega
     clear CL hq PW hs3 Zx lH pO r1 r2 r3 r4 r5 r6;(repeat' first|simp [*,zb,Box.cells,Span.cells,Pt.cells]|(apply za<;>intro _ h<;>try simp [-Nat.le_zero_eq] at h)|(show wpE 0 (zh ..) ..;refine zm ?_)|(refine ze fun v2 H2 aV aD ae af ai aj=>?_));exact ⟨j+1,by omega,by omega,by omega,_,_,⟨sN.h _⟩,hG⟩
   .have QW:j=part.length:=by omega
    subst QW;have Zy:=CL.h.done;rw [<- Ta.h] at Zy;have w1:IntKind.i64.wrap ((nS:Int)+1)=(nS+1:Nat):=by rw [wrap64 (by omega) (by omega)];omega
    have Zy:=Hide.mk Zy;(repeat' first|simp [*,zb]|(apply za<;>intro _ h<;>try simp [-Nat.le_zero_eq] at h)|(show wpE 0 (zh ..) ..;refine zm ?_)|(refine ze fun v2 H2 aV aD ae af ai aj=>?_))
    refine LB zoI ?_
    refine zjQ jO.h.p (Ak.h.len.trans pK.h.ol) xm.h M4.h nl np pK.h.nd pK.h.lt rfl ?_
    intro b H6 t2 QU nL JJ WQ sF R5;rw [JI.h] at sF R5;obtain ⟨R4,Ey⟩:=Ak.h.next (n':=nS+1) (hb':=vF) (on':=QV) QT.h IZ.h WO.h (by rw [if_pos bQ];exact ⟨rfl,Zy.h⟩) WQ sF R5;have Ey:=Hide.mk Ey;have aK:=jO.h.lt;have Ju:=jO.h.lH;have hlO:=jO.h.lO;have hPH3:Hide (nT H H6 F iH iO iP e vN N vF QV t2 l.xs.length):=⟨jO.h.to QU (fun j hj _ _ c=>nL j hj c) vD.h (by rw [nL iH (zo jO.h.fr.h) (by omega)];exact jO.h.fr.h) (by rw [nL iO (zo jO.h.fr.o) (by omega)];exact jO.h.fr.o) JJ⟩
    clear sF R5 JJ WQ nL Ak wO jO CL vJ Zt IZ WO M4 JI bQ htc;subst R4;(repeat' first|simp [*,zb]|(apply za<;>intro _ h<;>try simp [-Nat.le_zero_eq] at h)|(show wpE 0 (zh ..) ..;refine zm ?_)|(refine ze fun v2 H2 aV aD ae af ai aj=>?_));exact ⟨rest,by simp,by simp,nS+1,rfl,vF,QV,t2,hPH3,Ey⟩
def CO (p:Problem) (l:Sl Box) (g:List Nat):Int:=if 1 < g.length then ((sW p l g).length:Int) else oq l.xs[g[0]!]!
def badR (p:Problem) (l:Sl Box) (g:List Nat):Bool:=decide (1 < g.length)&&(sW p l g).isEmpty
def TC (p:Problem) (l:Sl Box) (g:List Nat) (k:Nat):Box:=if 1 < g.length then hX l.xs g (sW p l g) k else l.xs[g[k]!]!
def M6 (p:Problem) (l:Sl Box) (g:List Nat) (k:Nat):Pt:=if 1 < g.length then oX (l.xs.map iW) g (sW p l g) k else iW l.xs[g[k]!]!
structure fA (p:Problem) (l:Sl Box) (ps:List (List Nat)) (i:Nat) (e:Int) (N:List Int) (hb:List Box) (on:List Pt):Prop where
 e:e=if (ps.take i).any (badR p l)=true then 9 else 0
 n:N=(ps.take i).map (CO p l)
 hl:hb.length=l.xs.length
 ol:on.length=l.xs.length
 at_:∀ g∈ps.take i,∀ k (h:k < g.length),hb[g[k]]! = TC p l g k/\on[g[k]]! = M6 p l g k
 rest:∀ g∈ps.drop i,∀ x∈g,hb[x]! = l.xs[x]! /\ on[x]! = iW l.xs[x]!
theorem zgP {ps:List (List Nat)} (h:ps.flatten.Nodup) {i j:Nat} (hi:i < ps.length) (hj:j < ps.length) (FZ:i≠j) {x:Nat} (hx:x∈ps[i]):x ∉ ps[j]:=fun hy=>by
 have hp:=(List.pairwise_flatten.1 h).2;rcases Nat.lt_or_gt_of_ne FZ with g|g
 .exact List.pairwise_iff_getElem.1 hp i j hi hj g x hx x hy rfl
 .exact List.pairwise_iff_getElem.1 hp j i hj hi g x hy x hx rfl
theorem fA.start {p:Problem} {l:Sl Box} {ps:List (List Nat)} (hx:∀ g∈ps,∀ x∈g,x < l.xs.length):fA p l ps 0 0 [] l.xs (l.xs.map iW) :=
 ⟨rfl,rfl,rfl,by simp,fun g hg=>by simp at hg,fun g hg x hxg=>⟨rfl,by
  have:=hx g (by simpa using hg) x hxg;rw [getElem!_pos (l.xs.map iW) x (by simpa using this),getElem!_pos l.xs x this,List.getElem_map]⟩⟩
section
variable {p:Problem} {l:Sl Box} {ps:List (List Nat)} {i:Nat} {e:Int} {N:List Int} {hb hb':List Box} {on on':List Pt}
theorem zot {α:Type} {l:List α} {i:Nat} {a:α} (h:a∈l.take i):∃ j,∃ (hj:j < l.length),j < i/\l[j]=a:=by
 obtain ⟨j,hj,e⟩:=List.getElem_of_mem h;rw [List.length_take] at hj;exact ⟨j,by omega,by omega,by rw [<- e,List.getElem_take]⟩
theorem zob {α:Type} {l:List α} {i:Nat} {a:α} (h:a∈l.drop i):∃ j,∃ (hj:j < l.length),i<=j/\l[j]=a:=by
 obtain ⟨j,hj,e⟩:=List.getElem_of_mem h;rw [List.length_drop] at hj;exact ⟨i+j,by omega,by omega,by rw [<- e,List.getElem_drop]⟩
theorem fA.named (h:fA p l ps i e N hb on) (hd:ps.flatten.Nodup) (hi:i < ps.length) (h1:1 < ps[i].length) (aK:∀ x∈ps[i],x < l.xs.length) (hG:bZ ps[i] hb on (fun _=>sW p l ps[i]) hb' on'):fA p l ps (i+1) (if sW p l ps[i]=[] then 9 else e) (N++[((sW p l ps[i]).length:Int)]) hb' on':=by
 have iZ:ps[i]∈ps.drop i:=by rw [List.drop_eq_getElem_cons hi];exact List.mem_cons_self
 have hr:=h.rest _ iZ
 refine ⟨?_,?_,hG.hl.trans h.hl,hG.ol.trans h.ol,fun g hg k hk=>?_,fun g hg x hx=>?_⟩
 .rw [<- DY hi,List.any_append,h.e];have:badR p l ps[i]=(sW p l ps[i]).isEmpty:=by simp [badR,h1]
  by_cases hs:sW p l ps[i]=[]
  .simp [this,hs]
  .rw [if_neg hs];simp [this,hs]
 .rw [<- DY hi,List.map_append,h.n];simp [CO,h1]
 .rw [<- DY hi,List.mem_append] at hg;rcases hg with hg|hg
  .obtain ⟨j,hj,Aw,e⟩:=zot hg;have hn:g[k] ∉ ps[i]:=zgP hd hj hi (by omega) (e ▸ List.getElem_mem hk);rw [hG.fU _ hn,hG.GM _ hn];exact h.at_ g hg k hk
  .simp only [List.mem_singleton] at hg;subst hg;have sF:=hr _ (List.getElem_mem hk);have Bw:=aK _ (List.getElem_mem hk);rw [hG.sw k hk,hG.TA k hk];unfold TC M6;rw [if_pos h1,if_pos h1]
   constructor
   .unfold hX;rw [getElem!_pos ps[i] k hk,sF.1]
   .unfold oX
    cases sW p l ps[i] with
    | nil =>
     simp only;rw [getElem!_pos ps[i] k hk,sF.2,getElem!_pos (l.xs.map iW) _ (by simpa using Bw),List.getElem_map,getElem!_pos l.xs _ Bw]
    | cons a b=>rfl
 .obtain ⟨j,hj,Aw,e⟩:=zob hg;have hn:x ∉ ps[i]:=zgP hd hj hi (by omega) (e ▸ hx);rw [hG.fU _ hn,hG.GM _ hn]
  refine h.rest g ?_ x hx
  rw [List.drop_eq_getElem_cons hi];exact List.mem_cons_of_mem _ hg
theorem fA.alone (h:fA p l ps i e N hb on) (hi:i < ps.length) (h1:ps[i].length=1) {k0:Nat} (hk:ps[i]=[k0]):fA p l ps (i+1) e (N++[oq l.xs[k0]!]) hb on:=by
 have iZ:ps[i]∈ps.drop i:=by rw [List.drop_eq_getElem_cons hi];exact List.mem_cons_self
 have hr:=h.rest _ iZ
 refine ⟨?_,?_,h.hl,h.ol,fun g hg k xI=>?_,fun g hg x hx=>h.rest g ?_ x hx⟩
 .rw [<- DY hi,List.any_append,h.e];simp [badR,h1]
 .rw [<- DY hi,List.map_append,h.n];simp [CO,hk]
 .rw [<- DY hi,List.mem_append] at hg;rcases hg with hg|hg
  .exact h.at_ g hg k xI
  .simp only [List.mem_singleton] at hg;subst hg;have sF:=hr _ (List.getElem_mem xI);unfold TC M6;rw [if_neg (by omega),if_neg (by omega),getElem!_pos ps[i] k xI];exact sF
 .rw [List.drop_eq_getElem_cons hi];exact List.mem_cons_of_mem _ hg
end
theorem zqW {l:List Box} {part:List Nat} (hn:part.Nodup):(jG (zQ l part)).length=(nG l part).length:=by
 refine ziE (zfT _) (zfY _ _) fun c=>?_
 rw [mZ,Yz];have e:(zQ l part).length=part.length:=by simp [zQ]
 constructor
 .rintro ⟨h1,h2⟩;exact ⟨by rw [h1,e],fun k h h'=>by have:=h2 k (by rw [e];exact h) h';simpa [zQ] using this⟩
 .rintro ⟨h1,h2⟩
  refine ⟨by rw [h1,e],fun k h h'=>?_⟩
  rw [e] at h
  simpa [zQ] using h2 k h h'
theorem zug {p:Problem} (ok:ak p) {l:List Box} (hr:bM jR p.facts.xs p.boxes.xs (some l)) {m:Nat->Nat} (hm:bH (mM p.facts.xs) p.boxes.xs.length m) {i:Nat} {e:Int} {N:List Int} {hb:List Box} {on:List Pt} (hi:i < (zK m p.boxes.xs.length).length) (hv:iM l (zK m p.boxes.xs.length)[i]<=65536) (h1:1 < (zK m p.boxes.xs.length)[i].length) (hJ:fA p (Sl.mk false l) (zK m p.boxes.xs.length) i e N hb on) (bQ:∀ q∈on,mO q):vZ p (Sl.mk false l) (zK m p.boxes.xs.length)[i] on:=by
 have hl:l.length=p.boxes.xs.length:=hr.1.sub.1;have hd:=Ho hm (FH ok);have rG:=HY m p.boxes.xs.length;have iZ:=List.getElem_mem hi;obtain ⟨tZ,aK⟩:=hd.one _ iZ;have bX:=Ed ok hr.1.sub hr.1.wf;have Ez:Wf l:=hr.1.wf;have nb:=ok.nb;have tQ:∀ x∈(zK m p.boxes.xs.length)[i],x < l.length:=fun x hx=>by rw [hl];exact aK x hx
 refine ⟨ok.nf,by rw [Sl.bL];omega,by have:=(rG.2 _ iZ).1;omega,by omega,tZ,by rw [Sl.bL];exact tQ,by rw [Sl.bL];exact bX,fun f hf=>?_,fun f hf ha=>hd.within f hf _ iZ ha,?_,by rw [hJ.ol],bQ,?_,?_⟩
 .rw [Sl.bL,hl];exact ok.fact f hf
 .rw [Sl.bL,zqW tZ];unfold iM at hv;rw [if_pos h1] at hv;have:=ziV (fun k hk=>by rw [getElem!_pos l k hk];exact Ez _ (List.getElem_mem hk)) _ 1 tQ (by omega) hv;omega
 .refine List.ext_getElem (by simp [pick,zQ]) fun k h2 h3=>?_
  have hk:k < (zK m p.boxes.xs.length)[i].length:=by rw [M0] at h2;exact h2
  have hdr:(zK m p.boxes.xs.length)[i]∈(zK m p.boxes.xs.length).drop i:=by rw [List.drop_eq_getElem_cons hi];exact List.mem_cons_self
  rw [KJ hk,(hJ.rest _ hdr _ (List.getElem_mem hk)).2];simp [zQ]
 .intro b hb';unfold zQ at hb';obtain ⟨x,hx,rfl⟩:=List.mem_map.1 hb';rw [Sl.bL,getElem!_pos l x (tQ x hx)];exact Ez _ (List.getElem_mem _)
def WR (p:Problem) (E:Int) (nS:Sl Int) (hS:Sl Box) (oS:Sl Pt):Prop :=
 (jL p≠0/\E=jL p/\nS=.nil/\hS=.nil/\oS=.nil) \/
 (jL p=0/\bM jR p.facts.xs p.boxes.xs none/\E=9/\nS=.nil/\hS=.nil/\oS=.nil) \/
 (jL p=0/\∃ l m,bM jR p.facts.xs p.boxes.xs (some l)/\bH (mM p.facts.xs) p.boxes.xs.length m/\65536 < mF l (zK m p.boxes.xs.length)/\E=2/\nS=.nil/\hS=.nil/\oS=.nil) \/
 (jL p=0/\∃ l m N hb on,bM jR p.facts.xs p.boxes.xs (some l)/\bH (mM p.facts.xs) p.boxes.xs.length m/\mF l (zK m p.boxes.xs.length)<=65536/\fA p (Sl.mk false l) (zK m p.boxes.xs.length) (zK m p.boxes.xs.length).length E N hb on/\nS=Sl.of N/\hS=Sl.mk false hb/\oS=Sl.of on)
theorem zpg {l:List Box}:∀ {ps:List (List Nat)} {x:Int},x<=65536->(∀ g∈ps,iM l g<=65536)->ps.foldl (fun x g=>max x (iM l g)) x<=65536
 | [],x,hx,_=>hx
 | g::ps,x,hx,h=>by
  rw [List.foldl_cons];exact zpg (by have:=h g List.mem_cons_self;omega) fun g' hg=>h g' (List.mem_cons_of_mem _ hg)
theorem zoC {l:List Box} {ps:List (List Nat)} (h:mF l ps<=65536):∀ g∈ps,iM l g<=65536:=fun g hg=>Int.le_trans (Za hg) h
def zni (l:List Box) (ps:List (List Nat)) (i:Nat):Prop:=∀ j (h:j < ps.length),j < i->iM l ps[j]<=65536
theorem zop {l:List Box} {ps:List (List Nat)} (h:zni l ps ps.length):mF l ps<=65536:=zpg (by omega) fun g hg=>by
 obtain ⟨j,hj,rfl⟩:=List.getElem_of_mem hg;exact h j hj hj
theorem QX:(Sl.nil:Sl Int).pv aF 1=.nils:=rfl
theorem QY:(Sl.nil:Sl Box).pv Box.cells 4=.nils:=rfl
theorem QZ:(Sl.nil:Sl Pt).pv Pt.cells 2=.nils:=rfl
theorem ztc {p:Problem} (ok:ak p) {l:List Box} {L:Sl Box} {ps:List (List Nat)} {q:List Nat} (hr:bM jR p.facts.xs p.boxes.xs (some l)) {m:Nat->Nat} (hm:bH (mM p.facts.xs) p.boxes.xs.length m) (sD:zK m p.boxes.xs.length=ps) (hL:Sl.mk false l=L) {i:Nat} {e:Int} {N:List Int} {hb:List Box} {on:List Pt} (hi:i < ps.length) (hq:ps[i]=q) (hv:iM l q<=65536) (h1:1 < q.length) (hJ:fA p L ps i e N hb on) (bQ:∀ x∈on,mO x):vZ p L q on:=by
 subst sD hL hq;exact zug ok hr hm hi hv h1 hJ bQ
theorem zvI {α:Type} {l:List α} (h:l≠[]):Sl.of l=.mk false l:=by
 cases l with
 | nil=>exact absurd rfl h
 | cons a l=>rfl
theorem fA.uniq {p:Problem} {l:Sl Box} {ps:List (List Nat)} {e e':Int} {N N':List Int} {hb hb':List Box} {on on':List Pt} (hd:∀ x,x < l.xs.length->∃ g∈ps,x∈g) (h:fA p l ps ps.length e N hb on) (h':fA p l ps ps.length e' N' hb' on'):N'=N/\hb'=hb/\on'=on/\e'=e:=by
 have key:∀ x,x < l.xs.length->hb'[x]! = hb[x]! /\ on'[x]! = on[x]! := fun x hx=>by
  obtain ⟨g,hg,hxg⟩:=hd x hx;obtain ⟨k,hk,rfl⟩:=List.getElem_of_mem hxg;have h1:=h.at_ g (by rw [List.take_length];exact hg) k hk;have h2:=h'.at_ g (by rw [List.take_length];exact hg) k hk;exact ⟨h2.1.trans h1.1.symm,h2.2.trans h1.2.symm⟩
 refine ⟨h'.n.trans h.n.symm,?_,?_,h'.e.trans h.e.symm⟩
 .refine List.ext_getElem (h'.hl.trans h.hl.symm) fun x h1 h2=>?_
  have:=(key x (by rw [<- h.hl];exact h2)).1;rwa [getElem!_pos hb' x h1,getElem!_pos hb x h2] at this
 .refine List.ext_getElem (h'.ol.trans h.ol.symm) fun x h1 h2=>?_
  have:=(key x (by rw [<- h.ol];exact h2)).2;rwa [getElem!_pos on' x h1,getElem!_pos on x h2] at this
theorem zlM {H:Heap} {v:AV} {N:List Int} (h0:H.get 0=.cells true [.pure (.int .i64 0),.pure .nils,.pure .nils,.pure .nils]) (h:aC aF 1 H v N):¬ Names v 0:=fun ⟨sz,off,m,hv⟩=>by
 rcases h.1 with ⟨_,rfl⟩|⟨id,rfl,hg⟩
 .simp at hv
 .simp only [AV.row.injEq] at hv;rw [hv.1,h0] at hg;simp only [aP.cells.injEq,true_and] at hg
  match N,hg with
  | [],hg=>simp [zq] at hg
  | [a],hg=>simp [zq,aF] at hg
  | a::b::N,hg=>simp [zq,aF] at hg
theorem bZ.mO {p:Problem} {l:Sl Box} {part:List Nat} {h0 hb:List Box} {o0 on:List Pt} (h:bZ part h0 o0 (fun _=>sW p l part) hb on) (hi:∀ i∈part,i < l.xs.length) (hv:∀ b∈l.xs,mJ b=true) (IC:o0.length=l.xs.length) (ho:∀ q∈o0,Vm.mO q):∀ q∈on,Vm.mO q:=fun q hq=>by
 obtain ⟨j,hj,rfl⟩:=List.getElem_of_mem hq;have DF:j < o0.length:=by rw [<- h.ol];exact hj
 by_cases hm:j∈part
 .obtain ⟨k,hk,rfl⟩:=List.getElem_of_mem hm;have:=h.TA k hk;rw [getElem!_pos on _ hj] at this;rw [this]
  cases hS:sW p l part with
  | nil =>
   simp only [oX];rw [getElem!_pos part k hk,getElem!_pos o0 _ DF];exact ho _ (List.getElem_mem DF)
  | cons c r =>
   have hc:c∈jG (zQ l.xs part):=(List.mem_filter.1 (show c∈sW p l part by rw [hS];exact List.mem_cons_self)).1;obtain ⟨h1,h2⟩:=zjg hc;have AL:k < c.length:=by rw [h1];exact hk
   have h3:=h2 k hk AL;have aK:=hi _ (List.getElem_mem hk);rw [getElem!_pos l.xs _ aK] at h3;have hb:=aH.1 (hv _ (List.getElem_mem aK));simp only [oX];rw [getElem!_pos c k AL];unfold bF at h3;unfold Vm.mO;omega
 .have:=h.GM j hm;rw [getElem!_pos on j hj,getElem!_pos o0 j DF] at this;rw [this];exact ho _ (List.getElem_mem DF)
theorem sh12:G.shared 12=false:=by decide
theorem e12 (n:Nat) (p:Problem) (E:Int) (nS:Sl Int) (hS:Sl Box) (oS:Sl Pt) (h:WR p E nS hS oS):zF G (n+10) 12 [.agg p.cells]=some (.agg [.int .i64 E,nS.pv aF 1,hS.pv Box.cells 4,oS.pv Pt.cells 2]):=by
 refine zy (zx _) rfl g12 rfl ?_
 have hc:=fun H=>zf (G:=G) (n:=n+9) (H:=H) (caps:=[]) (ps:=[.agg p.cells]) sh27 (e27 (n+6) p);rcases h with ⟨h0,rfl,rfl,rfl,rfl⟩|⟨h0,hr,rfl,rfl,rfl,rfl⟩|⟨h0,l,m,hr,hm,hv,rfl,rfl,rfl,rfl⟩|⟨h0,l,m,N,hb,on,hr,hm,hv,hJ,rfl,rfl,rfl⟩
 .rw [QX,QY,QZ];generalize jL p=c at *;simp only [Problem.cells,List.map] at hc;simp [*,zb,c12,Problem.cells]
 .rw [QX,QY,QZ];have hn:=fun H=>zf (G:=G) (n:=n+9) (H:=H) (caps:=[]) (ps:=[.agg p.cells]) sh40 (e40 n p (bT.1 h0) none hr);rw [h0] at hc;have rF:QM none=.nils:=rfl;rw [rF] at hn;simp only [Problem.cells,List.map] at hc hn;clear h0 hr rF;simp [*,zb,c12,Problem.cells]
 .rw [QX,QY,QZ];have ok:=bT.1 h0;have hl:l.length=p.boxes.xs.length:=hr.1.sub.1;have hn:=fun H=>zf (G:=G) (n:=n+9) (H:=H) (caps:=[]) (ps:=[.agg p.cells]) sh40 (e40 n p ok (some l) hr);have hp:=fun H=>zf (G:=G) (n:=n+9) (H:=H) (caps:=[]) (ps:=[.agg p.cells]) sh41 (e41 (n+7) p ok m hm);have rG:=HY m p.boxes.xs.length;have nb:=ok.nb;have vD:Hide (∀ (x:List Nat),x∈zK m p.boxes.xs.length->∀ H,zG (zt G (n+9)) H (.pure (.func 42 [])) [.pure (.agg p.cells),.pure ((Sl.mk false l).pv Box.cells 4),.pure (.agg (qz x))]=some (.val (.pure (.int .i64 (iM l x))))):=⟨fun x hx H=>by
   obtain ⟨Jo,wX⟩:=Zn ok hm hx;exact zf (caps:=[]) (ps:=[_,_,_]) sh42 (e42 (n+7) p (Sl.mk false l) x ok.nf (by rw [Sl.bL];omega) (by have:=(rG.2 x hx).1;omega) Jo (by rw [Sl.bL];exact Ed ok hr.1.sub hr.1.wf) (by rw [Sl.bL,hl];exact (rG.2 x hx).2) wX)⟩
  have hq:QM (some l)=(Sl.mk false l).pv Box.cells 4:=rfl;rw [h0] at hc;rw [hq] at hn;rw [YS] at hp;obtain ⟨s,hs⟩:∃ s:Sl (List Nat),Sl.of (zK m p.boxes.xs.length)=s:=⟨_,rfl⟩
  have qE:zK m p.boxes.xs.length=s.xs:=by rw [<- hs,Sl.fP]
  rw [hs] at hp;have ns:s.xs.length<=12:=by rw [<- qE];omega
  rw [qE] at vD hv;have WS:=Hide.mk hv;generalize (Sl.mk false l).pv Box.cells 4=y at *;simp only [Problem.cells,List.map] at hc hn hp vD;clear h0 hr hm rG hq ok nb hl hs qE hv;(repeat' first|simp [*,zb,c12,Problem.cells]|(apply za<;>intro _ h<;>try simp [-Nat.le_zero_eq] at h)|(show wpE 0 (zh ..) ..;refine zm ?_)|(refine ze fun v2 H2 aV aD ae af ai aj=>?_));clear hc hn hp
  refine zA [(7,7),(27,41)] (fun (i:Nat) env H=>env 7=.pure (.int .i64 i)/\i<=s.xs.length/\H=Heap.empty.alloc (.cells true [.pure (.int .i64 0),.pure .nils,.pure .nils,.pure .nils])/\Hide (zni l s.xs i)) (fun i=>s.xs.length - i) 0 ?_ ?_ ?_ ?_
  .decide
  .exact ⟨by simp,by omega,rfl,⟨fun j _ h=>by omega⟩⟩
  .simp only [zz];omega
  rintro i env H ⟨g13,hi,rfl,hx⟩
  by_cases aK:i < s.xs.length
  .have w1:IntKind.i64.wrap ((i:Int)+1)=(i+1:Nat):=by rw [wrap64 (by omega) (by omega)];omega
   have jM:(i:Int) < s.xs.length:=by omega
   obtain ⟨q,hq⟩:∃ q,s.xs[i]=q:=⟨_,rfl⟩
   have hv:=vD.h q (by rw [<- hq];exact List.getElem_mem aK);obtain ⟨z,hz⟩:∃ z,iM l q=z:=⟨_,rfl⟩
   rw [hz] at hv;have rz:z<=65536->Hide (zni l s.xs (i+1)):=fun hle=>⟨fun j hj Aw=>by
    rcases Nat.lt_or_ge j i with g|g
    .exact hx.h j hj g
    .obtain rfl:j=i:=by omega
     rw [hq,hz];exact hle⟩
   simp only [qz] at hv;clear hx hz
   by_cases hle:z<=65536
   .have rz:=rz hle;(repeat' first|simp [*,zb,qz]|(apply za<;>intro _ h<;>try simp [-Nat.le_zero_eq] at h)|(show wpE 0 (zh ..) ..;refine zm ?_)|(refine ze fun v2 H2 aV aD ae af ai aj=>?_));exact ⟨i+1,by omega,by omega,by omega,rz⟩
   .have hle':65536 < z:=by omega
    clear rz hle;simp [*,zb,qz]
  .have qy:i=s.xs.length:=by omega
   subst qy;have h1:=zop hx.h;have h2:=WS.h;omega
 .have ok:=bT.1 h0;have hl:l.length=p.boxes.xs.length:=hr.1.sub.1;have hn:=fun H=>zf (G:=G) (n:=n+9) (H:=H) (caps:=[]) (ps:=[.agg p.cells]) sh40 (e40 n p ok (some l) hr);have hp:=fun H=>zf (G:=G) (n:=n+9) (H:=H) (caps:=[]) (ps:=[.agg p.cells]) sh41 (e41 (n+7) p ok m hm);have rG:=HY m p.boxes.xs.length;have nb:=ok.nb;have vD:Hide (∀ (x:List Nat),x∈zK m p.boxes.xs.length->∀ H,zG (zt G (n+9)) H (.pure (.func 42 [])) [.pure (.agg p.cells),.pure ((Sl.mk false l).pv Box.cells 4),.pure (.agg (qz x))]=some (.val (.pure (.int .i64 (iM l x))))):=⟨fun x hx H=>by
   obtain ⟨Jo,wX⟩:=Zn ok hm hx;exact zf (caps:=[]) (ps:=[_,_,_]) sh42 (e42 (n+7) p (Sl.mk false l) x ok.nf (by rw [Sl.bL];omega) (by have:=(rG.2 x hx).1;omega) Jo (by rw [Sl.bL];exact Ed ok hr.1.sub hr.1.wf) (by rw [Sl.bL,hl];exact (rG.2 x hx).2) wX)⟩
  have hq:QM (some l)=(Sl.mk false l).pv Box.cells 4:=rfl;rw [h0] at hc;rw [hq] at hn;rw [YS] at hp;obtain ⟨s,hs⟩:∃ s:Sl (List Nat),Sl.of (zK m p.boxes.xs.length)=s:=⟨_,rfl⟩
  have qE:zK m p.boxes.xs.length=s.xs:=by rw [<- hs,Sl.fP]
  rw [hs] at hp;have ns:s.xs.length<=12:=by rw [<- qE];omega
  rw [qE] at vD;obtain ⟨L,hL⟩:∃ L:Sl Box,Sl.mk false l=L:=⟨_,rfl⟩
  have FL:L.xs=l:=by rw [<- hL,Sl.bL]
  rw [hL] at hn vD;have Dx:Hide (∀ Hx,zM Hx 4 (.pure (L.pv Box.cells 4))=some (zq Box.cells l,l.length)):=⟨fun Hx=>by rw [<- FL];exact J8 (f:=Box.cells) (sz:=4) (fun _=>rfl) _⟩
  have hJH:=Hide.mk hJ;have WS:=Hide.mk hv;have rH:=Hide.mk qE;have vV:=Hide.mk hr;have KD:=Hide.mk hm;have hLH:=Hide.mk hL;have EA:=Hide.mk FL;have nl:L.xs.length<=12:=by rw [FL];omega
  have Ju:=Hide.mk (show L.xs.length=p.boxes.xs.length by rw [FL];exact hl);have qD:=Hide.mk ok;have M7:Hide (∀ e' N' hb' on',fA p L s.xs s.xs.length e' N' hb' on'->e'=E/\N'=N/\hb'=hb/\on'=on):=⟨fun e' N' hb' on' h=>by
   have hd:=Ho hm (FH ok);rw [<- hL,<- qE] at h;have:=fA.uniq (fun x hx=>by
    rw [Sl.bL,hl] at hx;exact List.mem_flatten.1 ((hd.all x).1 hx)) hJ h
   exact ⟨this.2.2.2,this.1,this.2.1,this.2.2.1⟩⟩
  simp only [Problem.cells,List.map] at hc hn hp vD;have mg:Hide (p.boxes.xs=[]\/0 < L.xs.length):=⟨by
   cases pg:p.boxes.xs with
   | nil=>exact .inl rfl
   | cons a b=>right;rw [Ju.h,pg];simp⟩
  clear h0 hr hm rG hq ok nb hl hs qE hv hJ hL FL;(repeat' first|simp [*,zb,c12,Problem.cells]|(apply za<;>intro _ h<;>try simp [-Nat.le_zero_eq] at h)|(show wpE 0 (zh ..) ..;refine zm ?_)|(refine ze fun v2 H2 aV aD ae af ai aj=>?_));clear hc hn hp
  refine zA [(7,7),(27,41)] (fun (i:Nat) env H=>env 7=.pure (.int .i64 i)/\i<=s.xs.length/\H=Heap.empty.alloc (.cells true [.pure (.int .i64 0),.pure .nils,.pure .nils,.pure .nils])) (fun i=>s.xs.length - i) 0 ?_ ?_ ?_ ?_
  .decide
  .exact ⟨by simp,by omega,rfl⟩
  .simp only [zz];omega
  rintro i env H ⟨g13,hi,rfl⟩
  by_cases aK:i < s.xs.length
  .have w1:IntKind.i64.wrap ((i:Int)+1)=(i+1:Nat):=by rw [wrap64 (by omega) (by omega)];omega
   have jM:(i:Int) < s.xs.length:=by omega
   obtain ⟨q,hq⟩:∃ q,s.xs[i]=q:=⟨_,rfl⟩
   have hv:=vD.h q (by rw [<- hq];exact List.getElem_mem aK);have hle:iM l q<=65536:=zoC WS.h q (by rw [rH.h,<- hq];exact List.getElem_mem aK);obtain ⟨z,hz⟩:∃ z,iM l q=z:=⟨_,rfl⟩
   rw [hz] at hv hle;have CE:¬ 65536 < z:=by omega
   simp only [qz] at hv;clear hz hle;(repeat' first|simp [*,zb,qz]|(apply za<;>intro _ h<;>try simp [-Nat.le_zero_eq] at h)|(show wpE 0 (zh ..) ..;refine zm ?_)|(refine ze fun v2 H2 aV aD ae af ai aj=>?_));exact ⟨i+1,by omega,by omega,by omega⟩
  have qy:i=s.xs.length:=by omega
  subst qy;clear vD;rcases mg.h with pg|pg
  .have hlL:L.xs.length=0:=by rw [Ju.h,pg];rfl
   have hLn:L.xs=[]:=List.eq_nil_of_length_eq_zero hlL;have nU:s.xs.length=0:=by
    have:=(HY m p.boxes.xs.length).1;rw [rH.h,pg] at this
    simpa using this
   have hR:=M7.h 0 [] L.xs (L.xs.map iW) (by
    rw [nU]
    refine fA.start fun g hg=>?_
    rw [List.eq_nil_of_length_eq_zero nU] at hg;simp at hg)
   obtain ⟨rfl,rfl,r3,r4⟩:=hR;rw [hLn] at r3 r4;subst r3;have r4:on=[]:=r4.symm;subst r4;have PY:zh ((Heap.empty.alloc (aP.cells true [.pure (.int .i64 0),.pure .nils,.pure .nils,.pure .nils])).alloc (aP.cells true [])) 4 32 (.row 1 4 0 0) (.pure (L.pv Box.cells 4))=some (.upd (.row 1 4 0 0) (((Heap.empty.alloc (aP.cells true [.pure (.int .i64 0),.pure .nils,.pure .nils,.pure .nils])).alloc (aP.cells true [])).set 1 (.cells true []))):=by
    have h:=Dx.h ((Heap.empty.alloc (aP.cells true [.pure (.int .i64 0),.pure .nils,.pure .nils,.pure .nils])).alloc (aP.cells true []));rw [<- EA.h,hLn] at h;have wE:zq Box.cells []=[]:=rfl;rw [wE] at h;simp only [zh,h];rfl
   have z1:(Sl.of ([]:List Int)).pv aF 1=.nils:=rfl;have z2:(Sl.of ([]:List Pt)).pv Pt.cells 2=.nils:=rfl;have z3:(Sl.mk false ([]:List Box)).pv Box.cells 4=.slice false 4 []:=rfl;rw [z1,z2,z3];have hb0H:=Hide.mk pg;clear M7 hJH WS rH vV KD hLH EA Ju qD mg Dx hLn z1 z2 z3 pg;(repeat' first|simp [*,zb]|(apply za<;>intro _ h<;>try simp [-Nat.le_zero_eq] at h)|(show wpE 0 (zh ..) ..;refine zm ?_)|(refine ze fun v2 H2 aV aD ae af ai aj=>?_))
   refine zA [(9,9),(46,69)] (fun (u:Nat) env H=>env 9=.pure (.int .i64 0)/\H.get 0=.cells true [.pure (.int .i64 0),.pure .nils,.pure .nils,.pure .nils]/\H.get 1=.cells true []/\H.get 2=.cells true [.pure (.int .i64 0),.pure .nils,.row 1 4 0 0,.pure .nils]) (fun u=>u) 0 ?_ ?_ ?_ ?_
   .decide
   .exact ⟨by simp,by simp,by simp,by simp⟩
   .simp only [zz];omega
   clear PY;rintro u iB H5 ⟨g9,q0,q1,q2⟩;have i0:=zo q0;have i2:=zo q2;(repeat' first|simp [*,zb]|(apply za<;>intro _ h<;>try simp [-Nat.le_zero_eq] at h)|(show wpE 0 (zh ..) ..;refine zm ?_)|(refine ze fun v2 H2 aV aD ae af ai aj=>?_))
   refine zA [(10,10),(70,82)] (fun (u:Nat) env H=>env 10=.pure (.int .i64 0)/\H.get 0=.cells true [.pure (.int .i64 0),.pure .nils,.pure .nils,.pure .nils]/\H.get 1=.cells true []/\H.get 2=.cells true [.pure (.int .i64 0),.pure .nils,.row 1 4 0 0,.pure .nils]) (fun u=>u) 0 ?_ ?_ ?_ ?_
   .decide
   .exact ⟨by simp,q0,q1,q2⟩
   .simp only [zz];omega
   clear q0 q1 q2 i0 i2;rintro u2 Ll H6 ⟨g10,q0,q1,q2⟩;have i0:=zo q0;have i2:=zo q2;have Bl:=sI (n:=9) (id:=1) (l:=([]:List Box)) (f:=Box.cells) (sz:=4) (H:=H6.set 0 (.cells true [.pure (.int .i64 0),.pure .nils,.row 1 4 0 0,.pure .nils])) (m:=0) (fun _=>rfl) (by rw [zg (show 1≠0 by omega)];exact q1) rfl;have z3:(Sl.mk false ([]:List Box)).pv Box.cells 4=.slice false 4 []:=rfl;rw [z3] at Bl;obtain ⟨ids,iw⟩:=FrzK.fQ (n:=11) (FrzL.cons (FrzK.pure (.int .i64 0)) (.cons (FrzK.pure .nils) (.cons Bl (.cons (FrzK.pure .nils) .nil))));clear Bl z3;(repeat' first|simp [*,zb]|(apply za<;>intro _ h<;>try simp [-Nat.le_zero_eq] at h)|(show wpE 0 (zh ..) ..;refine zm ?_)|(refine ze fun v2 H2 aV aD ae af ai aj=>?_));exact ⟨ids,iw⟩
  (repeat' first|simp [*,zb]|(apply za<;>intro _ h<;>try simp [-Nat.le_zero_eq] at h)|(show wpE 0 (zh ..) ..;refine zm ?_)|(refine ze fun v2 H2 aV aD ae af ai aj=>?_))
  refine Yp (f:=Box.cells) (l:=[]) (m:=l) (.inr ⟨1,rfl,by simp [Su]⟩) (fun _=>rfl) (by decide) (fun _=>rfl) (Dx.h _) (by have:=EA.h;simp [zu];rw [<- this];omega) ?_
  intro v3 H3 Lm Ad CG CJ;obtain ⟨iH,rfl,vT⟩:=Lm.row (by intro g;rw [List.nil_append,<- EA.h] at g;rw [g] at pg;simp at pg);rw [List.nil_append] at vT;rw [List.nil_append,<- EA.h];rw [<- EA.h] at vT;have Dj:0 < iH:=by
   rcases CJ iH ⟨_,_,_,rfl⟩ with ⟨_,_,_,g⟩|g
   .simp at g;omega
   .simp at g;omega
  have rW:H3.get 0=.cells true [.pure (.int .i64 0),.pure .nils,.pure .nils,.pure .nils]:=by
   rw [CG 0 (by simp) (fun ⟨_,_,_,g⟩=>by simp at g)];simp
  clear CG CJ Lm;(repeat' first|simp [*,zb]|(apply za<;>intro _ h<;>try simp [-Nat.le_zero_eq] at h)|(show wpE 0 (zh ..) ..;refine zm ?_)|(refine ze fun v2 H2 aV aD ae af ai aj=>?_));obtain ⟨F,hFe⟩:∃ F,H3.nx=F:=⟨_,rfl⟩
  have hFp:1 < F:=by simp at Ad;omega
  have hiF:iH < F:=by rw [<- hFe];exact zo vT
  rw [hFe];have Bl:((H3.alloc (.cells true [.pure (.int .i64 0),.pure .nils,.pure .nils,.pure .nils])).set F (.cells true [.pure (.int .i64 0),.pure .nils,.row iH 4 0 L.xs.length,.pure .nils])).get F=.cells true [.pure (.int .i64 0),.pure .nils,.row iH 4 0 L.xs.length,.pure .nils]:=zn (by simp;omega);have DR:((H3.alloc (.cells true [.pure (.int .i64 0),.pure .nils,.pure .nils,.pure .nils])).set F (.cells true [.pure (.int .i64 0),.pure .nils,.row iH 4 0 L.xs.length,.pure .nils])).get iH=.cells true (zq Box.cells L.xs):=by rw [zg (by omega),zi (by omega),vT]
  have Yb:((H3.alloc (.cells true [.pure (.int .i64 0),.pure .nils,.pure .nils,.pure .nils])).set F (.cells true [.pure (.int .i64 0),.pure .nils,.row iH 4 0 L.xs.length,.pure .nils])).get 0=.cells true [.pure (.int .i64 0),.pure .nils,.pure .nils,.pure .nils]:=by rw [zg (by omega),zi (by omega),rW]
  generalize (H3.alloc (.cells true [.pure (.int .i64 0),.pure .nils,.pure .nils,.pure .nils])).set F (.cells true [.pure (.int .i64 0),.pure .nils,.row iH 4 0 L.xs.length,.pure .nils])=H4 at *;clear vT rW Ad hFe
  refine zA [(9,9),(46,69)] (fun (i:Nat) env H=>env 9=.pure (.int .i64 i)/\i<=L.xs.length/\H.get iH=.cells true (zq Box.cells L.xs)/\H.get 0=.cells true [.pure (.int .i64 0),.pure .nils,.pure .nils,.pure .nils]/\∃ vO,H.get F=.cells true [.pure (.int .i64 0),.pure .nils,.row iH 4 0 L.xs.length,vO]/\aC Pt.cells 2 H vO ((L.xs.map iW).take i)/\¬ Names vO F/\¬ Names vO iH/\¬ Names vO 0) (fun i=>L.xs.length - i) 0 ?_ ?_ ?_ ?_
  .decide
  .exact ⟨by simp,by omega,DR,Yb,.pure .nils,Bl,by simpa using aC.nil,fun ⟨_,_,_,g⟩=>by simp at g,fun ⟨_,_,_,g⟩=>by simp at g,fun ⟨_,_,_,g⟩=>by simp at g⟩
  .simp only [zz];omega
  clear Bl DR Yb;rintro i iB H5 ⟨g9,hi,WT,rW,vO,TD,Zz,n1,n2,n3⟩;have i1:=zo TD;have i2:=zo WT;have i3:=zo rW
  by_cases aK:i < L.xs.length
  .have w1:IntKind.i64.wrap ((i:Int)+1)=(i+1:Nat):=by rw [wrap64 (by omega) (by omega)];omega
   have jM:(i:Int) < L.xs.length:=by omega
   have bu:=Hide.mk (zee (f:=iW) aK);have hlT:((L.xs.map iW).take i).length=i:=by simp;omega
   (repeat' first|simp [*,zb,Box.cells,Span.cells]|(apply za<;>intro _ h<;>try simp [-Nat.le_zero_eq] at h)|(show wpE 0 (zh ..) ..;refine zm ?_)|(refine ze fun v2 H2 aV aD ae af ai aj=>?_));have q1:H2.get F=.cells true [.pure (.int .i64 0),.pure .nils,.row iH 4 0 L.xs.length,vO]:=by rw [ae F (by simp;omega) n1,zi i1];exact TD
   have q2:H2.get iH=.cells true (zq Box.cells L.xs):=by rw [ae iH (by simp;omega) n2,zi i2];exact WT
   have q3:H2.get 0=.cells true [.pure (.int .i64 0),.pure .nils,.pure .nils,.pure .nils]:=by rw [ae 0 (by simp) n3,zi i3];exact rW
   have m1:¬ Names v2 F:=fun h=>by have:=af F h;simp at this;omega
   have m2:¬ Names v2 iH:=fun h=>by have:=af iH h;simp at this;omega
   have m3:¬ Names v2 0:=fun h=>by have:=af 0 h;simp at this
   have j1:=zo q1;have r1:∀ o,(H2.set F o).get iH=.cells true (zq Box.cells L.xs):=fun o=>by rw [zg (by omega)];exact q2
   have r2:∀ o,(H2.set F o).get 0=.cells true [.pure (.int .i64 0),.pure .nils,.pure .nils,.pure .nils]:=fun o=>by rw [zg (by omega)];exact q3
   have r3:∀ o,(H2.set F o).get F=o:=fun o=>zn j1;have hvS:Hide (∀ o,aC Pt.cells 2 (H2.set F o) v2 ((L.xs.map iW).take (i+1))):=⟨fun o=>(aV.set m1 o).cast bu.h⟩
   clear ae af aV Zz n1 n2 n3 TD WT rW bu;(repeat' first|simp [*,zb]|(apply za<;>intro _ h<;>try simp [-Nat.le_zero_eq] at h)|(show wpE 0 (zh ..) ..;refine zm ?_)|(refine ze fun v2 H2 aV aD ae af ai aj=>?_));exact ⟨i+1,by omega,by omega,by omega,hvS.h _⟩
  have aT:i=L.xs.length:=by omega
  subst aT;rw [List.take_of_length_le (by rw [List.length_map];exact Nat.le_refl _)] at Zz;obtain ⟨iO,rfl,hgO⟩:=Zz.1.row (fun g=>by rw [List.map_eq_nil_iff] at g;rw [g] at pg;simp at pg);rw [List.length_map] at TD;have EB:Hide (fq H5 F iH iO 0 (.pure .nils) [] L.xs (L.xs.map iW) L.xs.length):=⟨⟨TD,aC.nil,WT,hgO,by omega,fun g=>n1 (g ▸ ⟨_,_,_,rfl⟩),fun g=>n2 (g ▸ ⟨_,_,_,rfl⟩),fun ⟨_,_,_,g⟩=>by simp at g,fun ⟨_,_,_,g⟩=>by simp at g,fun ⟨_,_,_,g⟩=>by simp at g⟩⟩
  have E5:Hide (fA p L s.xs 0 0 [] L.xs (L.xs.map iW)):=⟨fA.start fun g hg x hx=>by
   rw [<- rH.h] at hg;rw [Ju.h];exact ((HY m p.boxes.xs.length).2 g hg).2 x hx⟩
  have bX:Hide (∀ b∈L.xs,mJ b=true):=⟨by rw [EA.h];exact Ed qD.h vV.h.1.sub vV.h.1.wf⟩
  have WU:Hide (∀ q∈L.xs.map iW,mO q):=⟨fun q hq=>by
   obtain ⟨b,hb,rfl⟩:=List.mem_map.1 hq;have:=aH.1 (bX.h b hb);unfold mO;simp only [iW];omega⟩
  have h0O:iO≠0:=fun g=>n3 (g ▸ ⟨_,_,_,rfl⟩);clear WT TD Zz hgO n1 n2 n3 i1 i2 i3;(repeat' first|simp [*,zb]|(apply za<;>intro _ h<;>try simp [-Nat.le_zero_eq] at h)|(show wpE 0 (zh ..) ..;refine zm ?_)|(refine ze fun v2 H2 aV aD ae af ai aj=>?_))
  refine zA [(10,10),(70,82)] (fun (i:Nat) env H=>env 10=.pure (.int .i64 i)/\i<=s.xs.length/\H.get 0=.cells true [.pure (.int .i64 0),.pure .nils,.pure .nils,.pure .nils]/\∃ (e:Int) (vN:AV) (N:List Int) (hb:List Box) (on:List Pt),Hide (fq H F iH iO e vN N hb on L.xs.length)/\Hide (fA p L s.xs i e N hb on)/\Hide (∀ q∈on,mO q)) (fun i=>s.xs.length - i) 0 ?_ ?_ ?_ ?_
  .decide
  .exact ⟨by simp,by omega,rW,0,.pure .nils,[],L.xs,L.xs.map iW,EB,E5,WU⟩
  .simp only [zz];omega
  clear EB E5 WU rW;rintro i Ll H6 ⟨g10,hi,rW,e,vN,N1,sF,on1,EB,Ib,JK⟩
  by_cases aK:i < s.xs.length
  .have w1:IntKind.i64.wrap ((i:Int)+1)=(i+1:Nat):=by rw [wrap64 (by omega) (by omega)];omega
   have jM:(i:Int) < s.xs.length:=by omega
   obtain ⟨q,hq⟩:∃ q,s.xs[i]=q:=⟨_,rfl⟩
   have OH:q∈zK m p.boxes.xs.length:=by rw [rH.h,<- hq];exact List.getElem_mem aK
   obtain ⟨Zr,Dy⟩:=Zn qD.h KD.h OH;have WV:N1.length<=12:=by rw [Ib.h.n,List.length_map,List.length_take];omega
   have hd:=Ho KD.h (FH qD.h);have jT:∀ x∈q,x < L.xs.length:=fun x hx=>by rw [Ju.h];exact (hd.one q OH).2 x hx
   have Hz:=hd.nodup;rw [rH.h] at Hz;have hvq:iM l q<=65536:=zoC WS.h q OH;have jT:=Hide.mk jT;have Hz:=Hide.mk Hz;have NP:=zo rW;have qU:=Hide.mk (zlM rW EB.h.n);clear OH hd;(repeat' first|simp [*,zb,qz]|(apply za<;>intro _ h<;>try simp [-Nat.le_zero_eq] at h)|(show wpE 0 (zh ..) ..;refine zm ?_)|(refine ze fun v2 H2 aV aD ae af ai aj=>?_))
   refine LB zs5 ?_
   by_cases h1:1 < q.length
   .rw [decide_eq_true h1] at Dy;have hPI:=ztc qD.h vV.h KD.h rH.h hLH.h aK hq hvq h1 Ib.h JK.h
    refine znp (n:=n+5) EB.h rfl hPI Ib.h.hl Dy WV ?_
    intro H7 vN7 hb7 on7 Q0 WW hG7;have g0:=(WW.get 0 NP (by omega) (by omega) (Ne.symm h0O) qU.h).trans rW;have Ky:=Ib.h.named Hz.h aK (by rw [hq];exact h1) (by rw [hq];exact jT.h) (by rw [hq];exact hG7);rw [hq] at Ky;have Ky:=Hide.mk Ky;have hok2:=Hide.mk (hG7.mO jT.h bX.h Ib.h.ol JK.h);have Q0:=Hide.mk Q0;clear WW hG7 hPI Ib JK EB rW Dy qU;(repeat' first|simp [*,zb]|(apply za<;>intro _ h<;>try simp [-Nat.le_zero_eq] at h)|(show wpE 0 (zh ..) ..;refine zm ?_)|(refine ze fun v2 H2 aV aD ae af ai aj=>?_));exact ⟨i+1,by omega,by omega,by omega,_,_,_,_,_,Q0,Ky,hok2⟩
   .have CF:q.length=1:=by omega
    obtain ⟨k0,AX⟩:∃ k0,q=[k0]:=by
     match q,CF with
     | [k0],_=>exact ⟨k0,rfl⟩
    rw [decide_eq_false h1] at Dy;have hk0l:k0 < L.xs.length:=jT.h k0 (by rw [AX];simp);have wC:MZ p.facts.xs (k0:Nat)=false:=by subst AX;exact Dy
    have Ky:=Ib.h.alone aK (by rw [hq];exact CF) (by rw [hq];exact AX);have Ky:=Hide.mk Ky;rw [AX]
    refine zk6 (n:=n+5) EB.h qD.h.nf hk0l bX.h wC WV ?_
    intro H7 vN7 Q0 WW;have g0:=(WW.get 0 NP (by omega) (by omega) (Ne.symm h0O) qU.h).trans rW;have Q0:=Hide.mk Q0;clear WW Ib EB rW Dy qU;(repeat' first|simp [*,zb]|(apply za<;>intro _ h<;>try simp [-Nat.le_zero_eq] at h)|(show wpE 0 (zh ..) ..;refine zm ?_)|(refine ze fun v2 H2 aV aD ae af ai aj=>?_));exact ⟨i+1,by omega,by omega,by omega,_,_,_,_,_,Q0,Ky,JK⟩
  .have aT:i=s.xs.length:=by omega
   subst aT;obtain ⟨he,hN,hh,ho⟩:=M7.h _ _ _ _ Ib.h;subst he hN hh ho;have hf:=EB.h.f;have hz:=zlM rW EB.h.n;have bn:=EB.h.n.1.one;have NP:=zo rW;have hb1l:=Ib.h.hl;have Q3:=Ib.h.ol;have MP:Sl.of on1=Sl.mk false on1:=zvI (fun g=>by rw [g] at Q3;simp at Q3;omega);have VI:=((EB.h.n.set hz (.cells true [.pure (.int .i64 e),vN,.row iH 4 0 L.xs.length,.row iO 2 0 L.xs.length])).res (n:=9) (fun _=>rfl))
   have Bl:=sI (n:=9) (id:=iH) (l:=sF) (f:=Box.cells) (sz:=4) (H:=H6.set 0 (.cells true [.pure (.int .i64 e),vN,.row iH 4 0 L.xs.length,.row iO 2 0 L.xs.length])) (fun _=>rfl) (by rw [zg (show iH≠0 by omega)];exact EB.h.h) hb1l;have hO1:=sI (n:=9) (id:=iO) (l:=on1) (f:=Pt.cells) (sz:=2) (H:=H6.set 0 (.cells true [.pure (.int .i64 e),vN,.row iH 4 0 L.xs.length,.row iO 2 0 L.xs.length])) (fun _=>rfl) (by rw [zg h0O];exact EB.h.o) Q3;rw [MP];obtain ⟨ids,iw⟩:=FrzK.fQ (n:=11) (FrzL.cons (FrzK.pure (.int .i64 e)) (.cons VI (.cons Bl (.cons hO1 .nil))));clear VI Bl hO1 M7 Ib JK EB;(repeat' first|simp [*,zb]|(apply za<;>intro _ h<;>try simp [-Nat.le_zero_eq] at h)|(show wpE 0 (zh ..) ..;refine zm ?_)|(refine ze fun v2 H2 aV aD ae af ai aj=>?_));exact ⟨ids,iw⟩
end Go.Proofs.YtmmhnfghklppiaaGreat.Vm
