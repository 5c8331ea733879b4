/- Where a loop over the boxes stands that steps the points. Plain Lean. The specification's join and next, walked. What the specification's part gathers from the solutions of a part. Plain Lean. The specification's part, walked. Part after part: what the specification's Solve gathers. Plain Lean. The specification's Solve, walked. -/
import Derived.Test.YtmmhnfghklppiaaGreatVk35
import Derived.Test.YtmmhnfghklppiaaGreatVk19
import Derived.Test.YtmmhnfghklppiaaGreatVk36
import Derived.Test.YtmmhnfghklppiaaGreatVk8
import Derived.Test.YtmmhnfghklppiaaGreatVk22
import Derived.Test.YtmmhnfghklppiaaGreatVk25
namespace Go.Proofs.YtmmhnfghklppiaaGreat.Vm
open Go
set_option linter.unusedSimpArgs false
set_option linter.unusedVariables false
set_option maxHeartbeats 4000000
structure jF (l:List Box) (c:List Pt) (i:Nat) (t:List Pt):Prop where
 len:t.length=l.length
 val:t=(l.take i).map lY++c.drop i
 res:Cf l c=(Cf (l.drop i) (c.drop i)).map fun u=>(l.take i).map lY++u
theorem jF.start {l:List Box} {c:List Pt} (h:c.length=l.length):jF l c 0 c:=⟨h,by simp,by simp⟩
theorem jF.setAt {l:List Box} {c t:List Pt} {i:Nat} (h:jF l c i t) (hi:i < l.length) (hc:c.length=l.length) (p:Pt):t.set i p=(l.take i).map lY++(p::c.drop (i+1)):=by
 have hl:((l.take i).map lY).length=i:=by simp;omega
 rw [h.val,List.set_append_right _ _ (by omega),hl,Nat.sub_self,List.drop_eq_getElem_cons (show i < c.length by omega)];rfl
theorem jF.Nb {l:List Box} {c t:List Pt} {i:Nat} (h:jF l c i t) (hi:i < l.length) (hc:c.length=l.length):Cf l c=match KM l[i] (c[i]'(by omega)) with
  | some q=>some (t.set i q)
  | none=>(Cf (l.drop (i+1)) (c.drop (i+1))).map fun u=>(l.take (i+1)).map lY++u:=by
 rw [h.res,List.drop_eq_getElem_cons hi,List.drop_eq_getElem_cons (show i < c.length by omega)];simp only [Cf]
 cases hs:KM l[i] c[i] with
 | some q=>simp only [Option.map_some];rw [h.setAt hi hc]
 | none =>
  simp only [Option.map_map]
  congr 1
  funext u
  show (l.take i).map lY++lY l[i]::u=(l.take (i+1)).map lY++u;rw [<- Gn hi,List.map_append,List.append_assoc];rfl
theorem jF.next {l:List Box} {c t:List Pt} {i:Nat} (h:jF l c i t) (hi:i < l.length) (hc:c.length=l.length) (hs:KM l[i] (c[i]'(by omega))=none):jF l c (i+1) (t.set i (lY l[i])):=by
 refine ⟨by simp [h.len],?_,?_⟩
 .rw [h.setAt hi hc,<- Gn hi,List.map_append,List.append_assoc];rfl
 .rw [h.Nb hi hc,hs]
theorem jF.stop {l:List Box} {c t:List Pt} (h:jF l c l.length t) (hc:c.length=l.length):Cf l c=none:=by
 rw [h.res,List.drop_length,<- hc,List.drop_length];rfl
set_option maxRecDepth 4000
def Vf (b:Box) (p:Pt):Box:=⟨⟨min b.x.lo p.x,max b.x.hi p.x⟩,⟨min b.y.lo p.y,max b.y.hi p.y⟩⟩
structure oQ (part:List Nat) (s t:List Pt):Prop where
 len:t.length=s.length
 out:∀ j,j ∉ part->t[j]! = s[j]!
theorem oQ.set {part:List Nat} {s t:List Pt} (h:oQ part s t) {k:Nat} (hk:k∈part) (p:Pt):oQ part s (t.set k p):=by
 refine ⟨by rw [List.length_set,h.len],fun j hj=>?_⟩
 rw [<- h.out j hj];have:k≠j:=fun e=>hj (e ▸ hk);simp only [List.getElem!_eq_getElem?_getD,List.getElem?_set_ne this]
def A9 (l:List Box) (part:List Nat):List Box:=part.map fun i=>l[i]!
def Su:List Pt->Box
 | []=>⟨⟨0,0⟩,⟨0,0⟩⟩
 | x::xs=>xs.foldl Vf (fT x)
theorem zny {l:List Pt} (h:l≠[]) (x:Pt):Su (l++[x])=Vf (Su l) x:=by
 cases l with
 | nil=>exact absurd rfl h
 | cons y l=>simp [Su,List.foldl_append]
def hX (h0:List Box) (part:List Nat) (S:List (List Pt)) (k:Nat):Box:=if S=[] then h0[part[k]!]! else Su (S.map fun c=>c[k]!)
def oX (o0:List Pt) (part:List Nat) (S:List (List Pt)) (k:Nat):Pt:=match S with
 | []=>o0[part[k]!]!
 | c::_=>c[k]!
structure fC (part:List Nat) (h0:List Box) (o0:List Pt) (T:Nat->List (List Pt)) (hb:List Box) (on:List Pt):Prop where
 hl:hb.length=h0.length
 ol:on.length=o0.length
 bZ:∀ i,i ∉ part->hb[i]! = h0[i]!
 Du:∀ i,i ∉ part->on[i]! = o0[i]!
 wu:∀ k (h:k < part.length),hb[part[k]]! = hX h0 part (T k) k
 OV:∀ k (h:k < part.length),on[part[k]]! = oX o0 part (T k) k
def mD (S:List (List Pt)) (c:List Pt) (j:Nat):Nat->List (List Pt):=fun k=>if k < j then S++[c] else S
section
variable {part:List Nat} {h0 hb:List Box} {o0 on:List Pt} {S:List (List Pt)} {c:List Pt} {j:Nat}
theorem fC.start:fC part h0 o0 (fun _=>[]) h0 o0:=⟨rfl,rfl,fun _ _=>rfl,fun _ _=>rfl,fun k h=>by simp [hX,h],fun k h=>by simp [oX,h]⟩
theorem Vg {α:Type} [Inhabited α] (l:List α) (i:Nat) (x:α) (j:Nat):(l.set i x)[j]! = if i=j/\i < l.length then x else l[j]! := by
 simp only [List.getElem!_eq_getElem?_getD,List.getElem?_set]
 split
 .rename_i e;subst e
  split
  .rename_i h;simp [h]
  .rename_i h;simp [h]
 .rename_i e;simp [e]
theorem zk9 (hn:part.Nodup) {i k:Nat} (hi:i < part.length) (hk:k < part.length) (e:i≠k):part[i]≠part[k]:=by
 rcases Nat.lt_or_gt_of_ne e with g|g
 .exact List.pairwise_iff_getElem.1 hn i k hi hk g
 .exact fun x=>List.pairwise_iff_getElem.1 hn k i hk hi g x.symm
theorem fC.put (hn:part.Nodup) {T T':Nat->List (List Pt)} (h:fC part h0 o0 T hb on) (hj:j < part.length) (hi:part[j] < hb.length) (DD:part[j] < on.length) (hT:∀ k,k≠j->T' k=T k) {x:Box} {y:Pt} (hx:x=hX h0 part (T' j) j) (hy:y=oX o0 part (T' j) j):fC part h0 o0 T' (hb.set part[j] x) (on.set part[j] y):=by
 have hm:part[j]∈part:=List.getElem_mem hj
 refine ⟨by rw [List.length_set,h.hl],by rw [List.length_set,h.ol],fun i bT=>?_,fun i bT=>?_,fun k hk=>?_,fun k hk=>?_⟩
 .rw [Vg,if_neg (fun (e:part[j]=i/\_)=>bT (e.1 ▸ hm))];exact h.bZ i bT
 .rw [Vg,if_neg (fun (e:part[j]=i/\_)=>bT (e.1 ▸ hm))];exact h.Du i bT
 .rw [Vg]
  by_cases e:j=k
  .subst e;rw [if_pos ⟨rfl,hi⟩,hx]
  .rw [if_neg (fun (g:_/\_)=>zk9 hn hj hk e g.1),hT k fun g=>e g.symm];exact h.wu k hk
 .rw [Vg]
  by_cases e:j=k
  .subst e;rw [if_pos ⟨rfl,DD⟩,hy]
  .rw [if_neg (fun (g:_/\_)=>zk9 hn hj hk e g.1),hT k fun g=>e g.symm];exact h.OV k hk
theorem zri {k:Nat} (h:k≠j):mD S c (j+1) k=mD S c j k:=by
 unfold mD
 by_cases g:k < j
 .rw [if_pos g,if_pos (by omega)]
 .rw [if_neg g,if_neg (by omega)]
theorem Vh:mD S c (j+1) j=S++[c]:=by simp [mD]
theorem zr2:mD S c j j=S:=by simp [mD]
theorem fC.first (hn:part.Nodup) (h:fC part h0 o0 (mD [] c j) hb on) (hj:j < part.length) (hi:part[j] < hb.length) (DD:part[j] < on.length):fC part h0 o0 (mD [] c (j+1)) (hb.set part[j] (fT c[j]!)) (on.set part[j] c[j]!) :=
 h.put hn hj hi DD (fun k hk=>zri hk) (by rw [Vh];simp [hX,Su]) (by rw [Vh];simp [oX])
theorem zqP {α:Type} [Inhabited α] {l:List α} {i:Nat}:l.set i l[i]! = l:=by
 by_cases h:i < l.length
 .rw [getElem!_pos l i h];exact List.set_getElem_self ..
 .exact List.set_eq_of_length_le (by omega)
theorem fC.more (hn:part.Nodup) (hS:S≠[]) (h:fC part h0 o0 (mD S c j) hb on) (hj:j < part.length) (hi:part[j] < hb.length) (DD:part[j] < on.length):fC part h0 o0 (mD S c (j+1)) (hb.set part[j] (Vf hb[part[j]]! c[j]!)) on:=by
 have h1:=h.wu j hj;have h2:=h.OV j hj;rw [zr2] at h1 h2;have:=h.put (T':=mD S c (j+1)) (x:=Vf hb[part[j]]! c[j]!) (y:=on[part[j]]!) hn hj hi DD (fun k hk=>zri hk) (by
  rw [Vh,h1];unfold hX;rw [if_neg hS,if_neg (by simp),List.map_append,List.map_singleton,zny (by simpa using hS)]) (by
  rw [Vh,h2]
  cases S with
  | nil=>exact absurd rfl hS
  | cons a S=>rfl)
 rwa [zqP] at this
theorem fC.mid (h:fC part h0 o0 (fun _=>S) hb on):fC part h0 o0 (mD S c 0) hb on :=
 ⟨h.hl,h.ol,h.bZ,h.Du,fun k hk=>by simpa [mD] using h.wu k hk,fun k hk=>by simpa [mD] using h.OV k hk⟩
theorem fC.done (h:fC part h0 o0 (mD S c part.length) hb on):fC part h0 o0 (fun _=>S++[c]) hb on :=
 ⟨h.hl,h.ol,h.bZ,h.Du,fun k hk=>by simpa [mD,hk] using h.wu k hk,fun k hk=>by simpa [mD,hk] using h.OV k hk⟩
end
def FQ (facts:List Fact) (l:List Box) (part:List Nat) (c:List Pt):Bool:=(ztl facts part).all fun f=>!zJ f (rU part c l)
structure xJ (facts:List Fact) (l:List Box) (part:List Nat) (h0:List Box) (o0:List Pt) (rest:List (List Pt)) (n:Nat) (hb:List Box) (on t:List Pt):Prop where
 len:t.length=o0.length
 nx:oQ part o0 t
 pre:∃ done,done++rest=nW (A9 l part)/\n=(done.filter (FQ facts l part)).length/\fC part h0 o0 (fun _=>done.filter (FQ facts l part)) hb on
 run:∀ c r,rest=c::r->ig (Cf (A9 l part)) c rest/\pick t part=c
theorem oQ.trans {part:List Nat} {a b c:List Pt} (h:oQ part a b) (h2:oQ part b c):oQ part a c:=⟨h2.len.trans h.len,fun j hj=>(h2.out j hj).trans (h.out j hj)⟩
theorem zr9 {α:Type} {f:α->Option α} {c:α} {rest:List α} (h:ig f c (c::rest)):(f c=none/\rest=[])\/∃ t r2,f c=some t/\rest=t::r2/\ig f t rest:=by
 cases h with
 | last _ h=>exact .inl ⟨h,rfl⟩
 | step _ b _ h hl =>
  cases hl with
  | last _ h2=>exact .inr ⟨b,[],h,rfl,.last _ h2⟩
  | step _ b2 l2 h2 tq=>exact .inr ⟨b,_,h,rfl,.step _ _ _ h2 tq⟩
theorem zqL {α:Type} {f:α->Option α} {a:α} {l:List α} (h:ig f a l):∃ r,l=a::r:=by
 cases h with
 | last a h=>exact ⟨[],rfl⟩
 | step a b l h hl=>exact ⟨l,rfl⟩
theorem xJ.start {facts:List Fact} {l:List Box} {part:List Nat} {h0:List Box} {o0:List Pt} (hw:Wf (A9 l part)) (iN:pick o0 part=(A9 l part).map lY):xJ facts l part h0 o0 (nW (A9 l part)) 0 h0 o0 o0 :=
 ⟨rfl,⟨rfl,fun _ _=>rfl⟩,⟨[],rfl,rfl,fC.start⟩,fun c r e=>by
  have h:=zlY hw;obtain ⟨r2,e2⟩:=zqL h;rw [e] at e2;simp only [List.cons.injEq] at e2;rw [iN,<- e2.1];rw [<- e2.1] at h;exact ⟨h,rfl⟩⟩
theorem xJ.next {facts:List Fact} {l:List Box} {part:List Nat} {h0 hb jf:List Box} {o0 on on' t t' c:List Pt} {rest:List (List Pt)} {n n':Nat} (h:xJ facts l part h0 o0 (c::rest) n hb on t) {done:List (List Pt)} (e:done++(c::rest)=nW (A9 l part)) (hn:n=(done.filter (FQ facts l part)).length) (hG:fC part h0 o0 (fun _=>done.filter (FQ facts l part)) hb on)
  (hg:if FQ facts l part c=true then (n'=n+1/\fC part h0 o0 (fun _=>done.filter (FQ facts l part)++[c]) jf on') else (n'=n/\jf=hb/\on'=on))
  {b:Bool} (hN:oQ part t t') (h1:b=true->Cf (A9 l part) c=some (pick t' part)) (h2:b=false->Cf (A9 l part) c=none):b=!rest.isEmpty/\xJ facts l part h0 o0 rest n' jf on' t':=by
 have rJ:∃ done,done++rest=nW (A9 l part)/\n'=(done.filter (FQ facts l part)).length/\fC part h0 o0 (fun _=>done.filter (FQ facts l part)) jf on':=by
  refine ⟨done++[c],by rw [<- e];simp,?_,?_⟩
  .rw [List.filter_append,List.length_append,<- hn]
   cases ho:FQ facts l part c with
   | true=>rw [if_pos ho] at hg;simp [ho,hg.1]
   | false=>rw [if_neg (by simp [ho])] at hg;simp [ho,hg.1]
  .rw [List.filter_append]
   cases ho:FQ facts l part c with
   | true=>rw [if_pos ho] at hg;simpa [ho] using hg.2
   | false=>rw [if_neg (by simp [ho])] at hg;rw [hg.2.1,hg.2.2];simpa [ho] using hG
 have hr:=(h.run c rest rfl).1;have hlen:t'.length=o0.length:=hN.len.trans h.len;rcases zr9 hr with ⟨hn,rfl⟩|⟨u,r2,hs,rfl,Oe⟩
 .cases b with
  | true=>rw [h1 rfl] at hn;simp at hn
  | false=>exact ⟨rfl,hlen,h.nx.trans hN,rJ,fun c' r' e=>by simp at e⟩
 .cases b with
  | false=>rw [h2 rfl] at hs;simp at hs
  | true =>
   have e:pick t' part=u:=by rw [h1 rfl] at hs;simpa using hs
   refine ⟨rfl,hlen,h.nx.trans hN,rJ,fun c' r' e'=>?_⟩
   simp only [List.cons.injEq] at e';obtain ⟨rfl,rfl⟩:=e';exact ⟨Oe,e⟩
theorem zqD {l:List Box} {part:List Nat} {c:List Pt} (hc:c∈nW (A9 l part)):c.length=part.length/\∀ k (h:k < part.length) (h':k < c.length),fA c[k] l[part[k]]! := by
 obtain ⟨h1,h2⟩:=su.1 hc;have e:(A9 l part).length=part.length:=by simp [A9]
 exact ⟨by rw [h1,e],fun k h h'=>by have:=h2 k (by rw [e];exact h) h';simpa [A9] using this⟩
def Dv (p:Problem) (l:Sl Box) (part:List Nat):List (List Pt):=(nW (A9 l.xs part)).filter (FQ p.facts.xs l.xs part)
structure je (H:Heap) (F iH iO:Nat) (e:Int) (vN:AV) (N:List Int) (hb:List Box) (on:List Pt) (m:Nat):Prop where
 f:H.get F=.cells true [.pure (.int .i64 e),vN,.row iH 4 0 m,.row iO 2 0 m]
 n:aC aD 1 H vN N
 h:H.get iH=.cells true (zm Box.cells hb)
 o:H.get iO=.cells true (zm Pt.cells on)
 fh:F≠iH
 fo:F≠iO
 ho:iH≠iO
 nF:¬ Names vN F
 nH:¬ Names vN iH
 nO:¬ Names vN iO
structure Ba (H H':Heap) (F iH iO:Nat) (vN:AV):Prop where
 nx:H.nx<=H'.nx
 get:∀ j,j < H.nx->j≠F->j≠iH->j≠iO->¬ Names vN j->H'.get j=H.get j
theorem je.at2 {H H2:Heap} {F iH iO m:Nat} {e:Int} {vN:AV} {N:List Int} {hb:List Box} {on:List Pt} {o:aR} (hF:je H F iH iO e vN N hb on m) (aS:∀ id,id < (H.alloc o).nx->¬ Names vN id->H2.get id=(H.alloc o).get id):H2.get F=.cells true [.pure (.int .i64 e),vN,.row iH 4 0 m,.row iO 2 0 m]:=by
 have:=zu hF.f;rw [aS F (by simp;omega) hF.nF,ze this,hF.f]
theorem je.grow {H H2:Heap} {F iH iO m:Nat} {e:Int} {vN v2:AV} {N N2:List Int} {hb:List Box} {on:List Pt} {o:aR} (hF:je H F iH iO e vN N hb on m) (hv:aC aD 1 H2 v2 N2) (fD:(H.alloc o).nx<=H2.nx) (aS:∀ id,id < (H.alloc o).nx->¬ Names vN id->H2.get id=(H.alloc o).get id) (aW:∀ id,Names v2 id->(H.alloc o).nx<=id) (e':Int) :
  je (H2.set F (.cells true [.pure (.int .i64 e'),v2,.row iH 4 0 m,.row iO 2 0 m])) F iH iO e' v2 N2 hb on m/\Ba H (H2.set F (.cells true [.pure (.int .i64 e'),v2,.row iH 4 0 m,.row iO 2 0 m])) F iH iO vN:=by
 have h1:=zu hF.f;have h2:=zu hF.h;have h3:=zu hF.o;simp only [pJ] at fD aS aW;have nF:¬ Names v2 F:=fun h=>by have:=aW F h;omega
 have nH:¬ Names v2 iH:=fun h=>by have:=aW iH h;omega
 have nO:¬ Names v2 iO:=fun h=>by have:=aW iO h;omega
 refine ⟨⟨zo (by omega),hv.set nF _,?_,?_,hF.fh,hF.fo,hF.ho,nF,nH,nO⟩,⟨by simp;omega,fun j hj a1 a2 a3 a4=>?_⟩⟩
 .rw [zh (Ne.symm hF.fh),aS iH (by omega) hF.nH,ze h2,hF.h]
 .rw [zh (Ne.symm hF.fo),aS iO (by omega) hF.nO,ze h3,hF.o]
 .rw [zh a1,aS j (by omega) a4,ze hj]
theorem je.to {H H':Heap} {F iH iO m:Nat} {e:Int} {vN:AV} {N:List Int} {hb jf:List Box} {on on':List Pt} (hF:je H F iH iO e vN N hb on m) (hk:∀ j,j < H.nx->j≠iH->j≠iO->H'.get j=H.get j) (g1:H'.get iH=.cells true (zm Box.cells jf)) (g2:H'.get iO=.cells true (zm Pt.cells on')):je H' F iH iO e vN N jf on' m:=by
 have h1:=zu hF.f
 refine ⟨by rw [hk F h1 hF.fh hF.fo,hF.f],⟨hF.n.1.keep fun i ⟨n,hi⟩=>?_,hF.n.2⟩,g1,g2,hF.fh,hF.fo,hF.ho,hF.nF,hF.nH,hF.nO⟩
 exact hk i (hF.n.1.names_lt ⟨_,_,_,hi⟩) (fun g=>hF.nH (g ▸ ⟨_,_,_,hi⟩)) (fun g=>hF.nO (g ▸ ⟨_,_,_,hi⟩))
theorem je.keep {H H':Heap} {F iH iO m:Nat} {e:Int} {vN:AV} {N:List Int} {hb:List Box} {on:List Pt} (hF:je H F iH iO e vN N hb on m) (hk:∀ j,j < H.nx->H'.get j=H.get j):je H' F iH iO e vN N hb on m :=
 hF.to (fun j hj _ _=>hk j hj) (by rw [hk _ (zu hF.h),hF.h]) (by rw [hk _ (zu hF.o),hF.o])
structure xK (H H':Heap) (F iH iO iP:Nat) (e:Int) (vN:AV) (N:List Int) (hb:List Box) (on t:List Pt) (m:Nat):Prop where
 fr:je H' F iH iO e vN N hb on m
 p:H'.get iP=.cells true (zm Pt.cells t)
 nx:H.nx<=H'.nx
 lt:H.nx<=iP
 same:∀ j,j < H.nx->j≠F->j≠iH->j≠iO->H'.get j=H.get j
 lF:F < H.nx
 lH:iH < H.nx
 lO:iO < H.nx
theorem xK.to {H H1 H2:Heap} {F iH iO iP m:Nat} {e:Int} {vN:AV} {N:List Int} {hb jf:List Box} {on on' t t':List Pt} (h:xK H H1 F iH iO iP e vN N hb on t m) (fD:H1.nx<=H2.nx) (hk:∀ j,j < H1.nx->j≠iH->j≠iO->j≠iP->H2.get j=H1.get j) (hv:∀ i,Names vN i->i < H.nx) (g1:H2.get iH=.cells true (zm Box.cells jf)) (g2:H2.get iO=.cells true (zm Pt.cells on')) (g3:H2.get iP=.cells true (zm Pt.cells t')):xK H H2 F iH iO iP e vN N jf on' t' m:=by
 have:=h.lt;have:=h.lF;have:=h.nx
 refine ⟨?_,g3,by omega,h.lt,fun j hj a b c=>?_,h.lF,h.lH,h.lO⟩
 .refine ⟨?_,⟨h.fr.n.1.keep fun i ⟨n,hi⟩=>?_,h.fr.n.2⟩,g1,g2,h.fr.fh,h.fr.fo,h.fr.ho,h.fr.nF,h.fr.nH,h.fr.nO⟩
  .rw [hk F (by omega) h.fr.fh h.fr.fo (by omega),h.fr.f]
  .have hl:=hv i ⟨_,_,_,hi⟩;exact hk i (by omega) (fun g=>h.fr.nH (g ▸ ⟨_,_,_,hi⟩)) (fun g=>h.fr.nO (g ▸ ⟨_,_,_,hi⟩)) (by omega)
 .rw [hk j (by omega) b c (by omega),h.same j hj a b c]
theorem xK.found {H H' H2:Heap} {F iH iO iP:Nat} {e:Int} {vN:AV} {N:List Int} {hb:List Box} {on t:List Pt} {m:Nat} (h:xK H H' F iH iO iP e vN N hb on t m) (h2:Ba H' H2 F iH iO vN):Ba H H2 F iH iO vN :=
 ⟨Nat.le_trans h.nx h2.nx,fun j hj a b c d=>by rw [h2.get j (Nat.lt_of_lt_of_le hj h.nx) a b c d,h.same j hj a b c]⟩
def Nc (p:Problem) (l:Sl Box) (g:List Nat):Int:=if 1 < g.length then ((Dv p l g).length:Int) else o9 l.xs[g[0]!]!
def badR (p:Problem) (l:Sl Box) (g:List Nat):Bool:=decide (1 < g.length)&&(Dv p l g).isEmpty
def zrt (p:Problem) (l:Sl Box) (g:List Nat) (k:Nat):Box:=if 1 < g.length then hX l.xs g (Dv p l g) k else l.xs[g[k]!]!
def Nh (p:Problem) (l:Sl Box) (g:List Nat) (k:Nat):Pt:=if 1 < g.length then oX (l.xs.map lY) g (Dv p l g) k else lY l.xs[g[k]!]!
structure mX (p:Problem) (l:Sl Box) (ps:List (List Nat)) (i:Nat) (e:Int) (N:List Int) (hb:List Box) (on:List Pt):Prop where
 e:e=if (ps.take i).any (badR p l)=true then 9 else 0
 n:N=(ps.take i).map (Nc p l)
 hl:hb.length=l.xs.length
 ol:on.length=l.xs.length
 at_:∀ g∈ps.take i,∀ k (h:k < g.length),hb[g[k]]! = zrt p l g k/\on[g[k]]! = Nh p l g k
 rest:∀ g∈ps.drop i,∀ x∈g,hb[x]! = l.xs[x]! /\ on[x]! = lY l.xs[x]!
theorem ziZ {ps:List (List Nat)} (h:ps.flatten.Nodup) {i j:Nat} (hi:i < ps.length) (hj:j < ps.length) (EM:i≠j) {x:Nat} (hx:x∈ps[i]):x ∉ ps[j]:=fun hy=>by
 have hp:=(List.pairwise_flatten.1 h).2;rcases Nat.lt_or_gt_of_ne EM with g|g
 .exact List.pairwise_iff_getElem.1 hp i j hi hj g x hx x hy rfl
 .exact List.pairwise_iff_getElem.1 hp j i hj hi g x hy x hx rfl
theorem mX.start {p:Problem} {l:Sl Box} {ps:List (List Nat)} (hx:∀ g∈ps,∀ x∈g,x < l.xs.length):mX p l ps 0 0 [] l.xs (l.xs.map lY) :=
 ⟨rfl,rfl,rfl,by simp,fun g hg=>by simp at hg,fun g hg x hxg=>⟨rfl,by
  have:=hx g (by simpa using hg) x hxg;rw [getElem!_pos (l.xs.map lY) x (by simpa using this),getElem!_pos l.xs x this,List.getElem_map]⟩⟩
section
variable {p:Problem} {l:Sl Box} {ps:List (List Nat)} {i:Nat} {e:Int} {N:List Int} {hb jf:List Box} {on on':List Pt}
theorem zmJ {α:Type} {l:List α} {i:Nat} {a:α} (h:a∈l.take i):∃ j,∃ (hj:j < l.length),j < i/\l[j]=a:=by
 obtain ⟨j,hj,e⟩:=List.getElem_of_mem h;rw [List.length_take] at hj;exact ⟨j,by omega,by omega,by rw [<- e,List.getElem_take]⟩
theorem zm9 {α:Type} {l:List α} {i:Nat} {a:α} (h:a∈l.drop i):∃ j,∃ (hj:j < l.length),i<=j/\l[j]=a:=by
 obtain ⟨j,hj,e⟩:=List.getElem_of_mem h;rw [List.length_drop] at hj;exact ⟨i+j,by omega,by omega,by rw [<- e,List.getElem_drop]⟩
theorem mX.named (h:mX p l ps i e N hb on) (hd:ps.flatten.Nodup) (hi:i < ps.length) (h1:1 < ps[i].length) (aK:∀ x∈ps[i],x < l.xs.length) (hG:fC ps[i] hb on (fun _=>Dv p l ps[i]) jf on'):mX p l ps (i+1) (if Dv p l ps[i]=[] then 9 else e) (N++[((Dv p l ps[i]).length:Int)]) jf on':=by
 have BH:ps[i]∈ps.drop i:=by rw [List.drop_eq_getElem_cons hi];exact List.mem_cons_self
 have hr:=h.rest _ BH
 refine ⟨?_,?_,hG.hl.trans h.hl,hG.ol.trans h.ol,fun g hg k hk=>?_,fun g hg x hx=>?_⟩
 .rw [<- Gn hi,List.any_append,h.e];have:badR p l ps[i]=(Dv p l ps[i]).isEmpty:=by simp [badR,h1]
  by_cases hs:Dv p l ps[i]=[]
  .simp [this,hs]
  .rw [if_neg hs];simp [this,hs]
 .rw [<- Gn hi,List.map_append,h.n];simp [Nc,h1]
 .rw [<- Gn hi,List.mem_append] at hg;rcases hg with hg|hg
  .obtain ⟨j,hj,DN,e⟩:=zmJ hg;have hn:g[k] ∉ ps[i]:=ziZ hd hj hi (by omega) (e ▸ List.getElem_mem hk);rw [hG.bZ _ hn,hG.Du _ hn];exact h.at_ g hg k hk
  .simp only [List.mem_singleton] at hg;subst hg;have wD:=hr _ (List.getElem_mem hk);have BV:=aK _ (List.getElem_mem hk);rw [hG.wu k hk,hG.OV k hk];unfold zrt Nh;rw [if_pos h1,if_pos h1]
   constructor
   .unfold hX;rw [getElem!_pos ps[i] k hk,wD.1]
   .unfold oX
    cases Dv p l ps[i] with
    | nil =>
     simp only;rw [getElem!_pos ps[i] k hk,wD.2,getElem!_pos (l.xs.map lY) _ (by simpa using BV),List.getElem_map,getElem!_pos l.xs _ BV]
    | cons a b=>rfl
 .obtain ⟨j,hj,DN,e⟩:=zm9 hg;have hn:x ∉ ps[i]:=ziZ hd hj hi (by omega) (e ▸ hx);rw [hG.bZ _ hn,hG.Du _ hn]
  refine h.rest g ?_ x hx
  rw [List.drop_eq_getElem_cons hi];exact List.mem_cons_of_mem _ hg
theorem mX.alone (h:mX p l ps i e N hb on) (hi:i < ps.length) (h1:ps[i].length=1) {k0:Nat} (hk:ps[i]=[k0]):mX p l ps (i+1) e (N++[o9 l.xs[k0]!]) hb on:=by
 have BH:ps[i]∈ps.drop i:=by rw [List.drop_eq_getElem_cons hi];exact List.mem_cons_self
 have hr:=h.rest _ BH
 refine ⟨?_,?_,h.hl,h.ol,fun g hg k uj=>?_,fun g hg x hx=>h.rest g ?_ x hx⟩
 .rw [<- Gn hi,List.any_append,h.e];simp [badR,h1]
 .rw [<- Gn hi,List.map_append,h.n];simp [Nc,hk]
 .rw [<- Gn hi,List.mem_append] at hg;rcases hg with hg|hg
  .exact h.at_ g hg k uj
  .simp only [List.mem_singleton] at hg;subst hg;have wD:=hr _ (List.getElem_mem uj);unfold zrt Nh;rw [if_neg (by omega),if_neg (by omega),getElem!_pos ps[i] k uj];exact wD
 .rw [List.drop_eq_getElem_cons hi];exact List.mem_cons_of_mem _ hg
end
theorem fC.sO {p:Problem} {l:Sl Box} {part:List Nat} {h0 hb:List Box} {o0 on:List Pt} (h:fC part h0 o0 (fun _=>Dv p l part) hb on) (hi:∀ i∈part,i < l.xs.length) (hv:∀ b∈l.xs,ny b=true) (Jv:o0.length=l.xs.length) (ho:∀ q∈o0,Vm.sO q):∀ q∈on,Vm.sO q:=fun q hq=>by
 obtain ⟨j,hj,rfl⟩:=List.getElem_of_mem hq;have DF:j < o0.length:=by rw [<- h.ol];exact hj
 by_cases hm:j∈part
 .obtain ⟨k,hk,rfl⟩:=List.getElem_of_mem hm;have:=h.OV k hk;rw [getElem!_pos on _ hj] at this;rw [this]
  cases hS:Dv p l part with
  | nil =>
   simp only [oX];rw [getElem!_pos part k hk,getElem!_pos o0 _ DF];exact ho _ (List.getElem_mem DF)
  | cons c r =>
   have hc:c∈nW (A9 l.xs part):=(List.mem_filter.1 (show c∈Dv p l part by rw [hS];exact List.mem_cons_self)).1;obtain ⟨h1,h2⟩:=zqD hc;have BQ:k < c.length:=by rw [h1];exact hk
   have h3:=h2 k hk BQ;have aK:=hi _ (List.getElem_mem hk);rw [getElem!_pos l.xs _ aK] at h3;have hb:=aJ.1 (hv _ (List.getElem_mem aK));simp only [oX];rw [getElem!_pos c k BQ];unfold fA at h3;unfold Vm.sO;omega
 .have:=h.Du j hm;rw [getElem!_pos on j hj,getElem!_pos o0 j DF] at this;rw [this];exact ho _ (List.getElem_mem DF)
end Go.Proofs.YtmmhnfghklppiaaGreat.Vm
