/- Where a loop over the boxes stands that steps the points. Plain Lean. The specification's join and next, walked. What the specification's part gathers from the solutions of a part. Plain Lean. The specification's part, walked. Part after part: what the specification's Solve gathers. Plain Lean. The specification's Solve, walked. -/
import Derived.Test.YtmmhnfghklppiaaGreatWk37
import Derived.Test.YtmmhnfghklppiaaGreatWk19
import Derived.Test.YtmmhnfghklppiaaGreatWk38
import Derived.Test.YtmmhnfghklppiaaGreatWk8
import Derived.Test.YtmmhnfghklppiaaGreatWk22
import Derived.Test.YtmmhnfghklppiaaGreatWk25
namespace Go.Proofs.YtmmhnfghklppiaaGreat.Vm
open Go
set_option linter.unusedSimpArgs false
set_option linter.unusedVariables false
set_option maxHeartbeats 4000000
structure lN (l:List Box) (c:List Pt) (i:Nat) (t:List Pt):Prop where
 len:t.length=l.length
 val:t=(l.take i).map nI++c.drop i
 res:EL l c=(EL (l.drop i) (c.drop i)).map fun u=>(l.take i).map nI++u
theorem lN.start {l:List Box} {c:List Pt} (h:c.length=l.length):lN l c 0 c:=⟨h,by simp,by simp⟩
theorem lN.setAt {l:List Box} {c t:List Pt} {i:Nat} (h:lN l c i t) (hi:i < l.length) (hc:c.length=l.length) (p:Pt):t.set i p=(l.take i).map nI++(p::c.drop (i+1)):=by
 have hl:((l.take i).map nI).length=i:=by simp;omega
 rw [h.val,List.set_append_right _ _ (by omega),hl,Nat.sub_self,List.drop_eq_getElem_cons (show i < c.length by omega)];rfl
theorem lN.PQ {l:List Box} {c t:List Pt} {i:Nat} (h:lN l c i t) (hi:i < l.length) (hc:c.length=l.length):EL l c=match Ny l[i] (c[i]'(by omega)) with
  | some q=>some (t.set i q)
  | none=>(EL (l.drop (i+1)) (c.drop (i+1))).map fun u=>(l.take (i+1)).map nI++u:=by
 rw [h.res,List.drop_eq_getElem_cons hi,List.drop_eq_getElem_cons (show i < c.length by omega)];simp only [EL]
 cases hs:Ny l[i] c[i] with
 | some q=>simp only [Option.map_some];rw [h.setAt hi hc]
 | none =>
  simp only [Option.map_map]
  congr 1
  funext u
  show (l.take i).map nI++nI l[i]::u=(l.take (i+1)).map nI++u;rw [<- E5 hi,List.map_append,List.append_assoc];rfl
theorem lN.next {l:List Box} {c t:List Pt} {i:Nat} (h:lN l c i t) (hi:i < l.length) (hc:c.length=l.length) (hs:Ny l[i] (c[i]'(by omega))=none):lN l c (i+1) (t.set i (nI l[i])):=by
 refine ⟨by simp [h.len],?_,?_⟩
 .rw [h.setAt hi hc,<- E5 hi,List.map_append,List.append_assoc];rfl
 .rw [h.PQ hi hc,hs]
theorem lN.stop {l:List Box} {c t:List Pt} (h:lN l c l.length t) (hc:c.length=l.length):EL l c=none:=by
 rw [h.res,List.drop_length,<- hc,List.drop_length];rfl
set_option maxRecDepth 4000
def XL (b:Box) (p:Pt):Box:=⟨⟨min b.x.lo p.x,max b.x.hi p.x⟩,⟨min b.y.lo p.y,max b.y.hi p.y⟩⟩
structure rq (part:List Nat) (s t:List Pt):Prop where
 len:t.length=s.length
 out:∀ j,j ∉ part->t[j]! = s[j]!
theorem rq.set {part:List Nat} {s t:List Pt} (h:rq part s t) {k:Nat} (hk:k∈part) (p:Pt):rq part s (t.set k p):=by
 refine ⟨by rw [List.length_set,h.len],fun j hj=>?_⟩
 rw [<- h.out j hj];have:k≠j:=fun e=>hj (e ▸ hk);simp only [List.getElem!_eq_getElem?_getD,List.getElem?_set_ne this]
def Dy (l:List Box) (part:List Nat):List Box:=part.map fun i=>l[i]!
def Vr:List Pt->Box
 | []=>⟨⟨0,0⟩,⟨0,0⟩⟩
 | x::xs=>xs.foldl XL (bT x)
theorem zni {l:List Pt} (h:l≠[]) (x:Pt):Vr (l++[x])=XL (Vr l) x:=by
 cases l with
 | nil=>exact absurd rfl h
 | cons y l=>simp [Vr,List.foldl_append]
def hX (h0:List Box) (part:List Nat) (S:List (List Pt)) (k:Nat):Box:=if S=[] then h0[part[k]!]! else Vr (S.map fun c=>c[k]!)
def oX (o0:List Pt) (part:List Nat) (S:List (List Pt)) (k:Nat):Pt:=match S with
 | []=>o0[part[k]!]!
 | c::_=>c[k]!
structure iw (part:List Nat) (h0:List Box) (o0:List Pt) (T:Nat->List (List Pt)) (hb:List Box) (on:List Pt):Prop where
 hl:hb.length=h0.length
 ol:on.length=o0.length
 ik:∀ i,i ∉ part->hb[i]! = h0[i]!
 FW:∀ i,i ∉ part->on[i]! = o0[i]!
 sJ:∀ k (h:k < part.length),hb[part[k]]! = hX h0 part (T k) k
 Rl:∀ k (h:k < part.length),on[part[k]]! = oX o0 part (T k) k
def nV (S:List (List Pt)) (c:List Pt) (j:Nat):Nat->List (List Pt):=fun k=>if k < j then S++[c] else S
section
variable {part:List Nat} {h0 hb:List Box} {o0 on:List Pt} {S:List (List Pt)} {c:List Pt} {j:Nat}
theorem iw.start:iw part h0 o0 (fun _=>[]) h0 o0:=⟨rfl,rfl,fun _ _=>rfl,fun _ _=>rfl,fun k h=>by simp [hX,h],fun k h=>by simp [oX,h]⟩
theorem XM {α:Type} [Inhabited α] (l:List α) (i:Nat) (x:α) (j:Nat):(l.set i x)[j]! = if i=j/\i < l.length then x else l[j]! := by
 simp only [List.getElem!_eq_getElem?_getD,List.getElem?_set]
 split
 .rename_i e;subst e
  split
  .rename_i h;simp [h]
  .rename_i h;simp [h]
 .rename_i e;simp [e]
theorem zlN (hn:part.Nodup) {i k:Nat} (hi:i < part.length) (hk:k < part.length) (e:i≠k):part[i]≠part[k]:=by
 rcases Nat.lt_or_gt_of_ne e with g|g
 .exact List.pairwise_iff_getElem.1 hn i k hi hk g
 .exact fun x=>List.pairwise_iff_getElem.1 hn k i hk hi g x.symm
theorem iw.put (hn:part.Nodup) {T T':Nat->List (List Pt)} (h:iw part h0 o0 T hb on) (hj:j < part.length) (hi:part[j] < hb.length) (F5:part[j] < on.length) (hT:∀ k,k≠j->T' k=T k) {x:Box} {y:Pt} (hx:x=hX h0 part (T' j) j) (hy:y=oX o0 part (T' j) j):iw part h0 o0 T' (hb.set part[j] x) (on.set part[j] y):=by
 have hm:part[j]∈part:=List.getElem_mem hj
 refine ⟨by rw [List.length_set,h.hl],by rw [List.length_set,h.ol],fun i bR=>?_,fun i bR=>?_,fun k hk=>?_,fun k hk=>?_⟩
 .rw [XM,if_neg (fun (e:part[j]=i/\_)=>bR (e.1 ▸ hm))];exact h.ik i bR
 .rw [XM,if_neg (fun (e:part[j]=i/\_)=>bR (e.1 ▸ hm))];exact h.FW i bR
 .rw [XM]
  by_cases e:j=k
  .subst e;rw [if_pos ⟨rfl,hi⟩,hx]
  .rw [if_neg (fun (g:_/\_)=>zlN hn hj hk e g.1),hT k fun g=>e g.symm];exact h.sJ k hk
 .rw [XM]
  by_cases e:j=k
  .subst e;rw [if_pos ⟨rfl,F5⟩,hy]
  .rw [if_neg (fun (g:_/\_)=>zlN hn hj hk e g.1),hT k fun g=>e g.symm];exact h.Rl k hk
theorem zqR {k:Nat} (h:k≠j):nV S c (j+1) k=nV S c j k:=by
 unfold nV
 by_cases g:k < j
 .rw [if_pos g,if_pos (by omega)]
 .rw [if_neg g,if_neg (by omega)]
theorem XN:nV S c (j+1) j=S++[c]:=by simp [nV]
theorem zsz:nV S c j j=S:=by simp [nV]
theorem iw.first (hn:part.Nodup) (h:iw part h0 o0 (nV [] c j) hb on) (hj:j < part.length) (hi:part[j] < hb.length) (F5:part[j] < on.length):iw part h0 o0 (nV [] c (j+1)) (hb.set part[j] (bT c[j]!)) (on.set part[j] c[j]!) :=
 h.put hn hj hi F5 (fun k hk=>zqR hk) (by rw [XN];simp [hX,Vr]) (by rw [XN];simp [oX])
theorem zrg {α:Type} [Inhabited α] {l:List α} {i:Nat}:l.set i l[i]! = l:=by
 by_cases h:i < l.length
 .rw [getElem!_pos l i h];exact List.set_getElem_self ..
 .exact List.set_eq_of_length_le (by omega)
theorem iw.more (hn:part.Nodup) (hS:S≠[]) (h:iw part h0 o0 (nV S c j) hb on) (hj:j < part.length) (hi:part[j] < hb.length) (F5:part[j] < on.length):iw part h0 o0 (nV S c (j+1)) (hb.set part[j] (XL hb[part[j]]! c[j]!)) on:=by
 have h1:=h.sJ j hj;have h2:=h.Rl j hj;rw [zsz] at h1 h2;have:=h.put (T':=nV S c (j+1)) (x:=XL hb[part[j]]! c[j]!) (y:=on[part[j]]!) hn hj hi F5 (fun k hk=>zqR hk) (by
  rw [XN,h1];unfold hX;rw [if_neg hS,if_neg (by simp),List.map_append,List.map_singleton,zni (by simpa using hS)]) (by
  rw [XN,h2]
  cases S with
  | nil=>exact absurd rfl hS
  | cons a S=>rfl)
 rwa [zrg] at this
theorem iw.mid (h:iw part h0 o0 (fun _=>S) hb on):iw part h0 o0 (nV S c 0) hb on :=
 ⟨h.hl,h.ol,h.ik,h.FW,fun k hk=>by simpa [nV] using h.sJ k hk,fun k hk=>by simpa [nV] using h.Rl k hk⟩
theorem iw.done (h:iw part h0 o0 (nV S c part.length) hb on):iw part h0 o0 (fun _=>S++[c]) hb on :=
 ⟨h.hl,h.ol,h.ik,h.FW,fun k hk=>by simpa [nV,hk] using h.sJ k hk,fun k hk=>by simpa [nV,hk] using h.Rl k hk⟩
end
def I6 (facts:List Fact) (l:List Box) (part:List Nat) (c:List Pt):Bool:=(zug facts part).all fun f=>!zJ f (uU part c l)
structure Bj (facts:List Fact) (l:List Box) (part:List Nat) (h0:List Box) (o0:List Pt) (rest:List (List Pt)) (n:Nat) (hb:List Box) (on t:List Pt):Prop where
 len:t.length=o0.length
 nx:rq part o0 t
 pre:∃ done,done++rest=qj (Dy l part)/\n=(done.filter (I6 facts l part)).length/\iw part h0 o0 (fun _=>done.filter (I6 facts l part)) hb on
 run:∀ c r,rest=c::r->iX (EL (Dy l part)) c rest/\pick t part=c
theorem rq.trans {part:List Nat} {a b c:List Pt} (h:rq part a b) (h2:rq part b c):rq part a c:=⟨h2.len.trans h.len,fun j hj=>(h2.out j hj).trans (h.out j hj)⟩
theorem ztc {α:Type} {f:α->Option α} {c:α} {rest:List α} (h:iX f c (c::rest)):(f c=none/\rest=[])\/∃ t r2,f c=some t/\rest=t::r2/\iX f t rest:=by
 cases h with
 | last _ h=>exact .inl ⟨h,rfl⟩
 | step _ b _ h hl =>
  cases hl with
  | last _ h2=>exact .inr ⟨b,[],h,rfl,.last _ h2⟩
  | step _ b2 l2 h2 vT=>exact .inr ⟨b,_,h,rfl,.step _ _ _ h2 vT⟩
theorem zqX {α:Type} {f:α->Option α} {a:α} {l:List α} (h:iX f a l):∃ r,l=a::r:=by
 cases h with
 | last a h=>exact ⟨[],rfl⟩
 | step a b l h hl=>exact ⟨l,rfl⟩
theorem Bj.start {facts:List Fact} {l:List Box} {part:List Nat} {h0:List Box} {o0:List Pt} (hw:Wf (Dy l part)) (jo:pick o0 part=(Dy l part).map nI):Bj facts l part h0 o0 (qj (Dy l part)) 0 h0 o0 o0 :=
 ⟨rfl,⟨rfl,fun _ _=>rfl⟩,⟨[],rfl,rfl,iw.start⟩,fun c r e=>by
  have h:=zlQ hw;obtain ⟨r2,e2⟩:=zqX h;rw [e] at e2;simp only [List.cons.injEq] at e2;rw [jo,<- e2.1];rw [<- e2.1] at h;exact ⟨h,rfl⟩⟩
theorem Bj.next {facts:List Fact} {l:List Box} {part:List Nat} {h0 hb jR:List Box} {o0 on on' t t' c:List Pt} {rest:List (List Pt)} {n n':Nat} (h:Bj facts l part h0 o0 (c::rest) n hb on t) {done:List (List Pt)} (e:done++(c::rest)=qj (Dy l part)) (hn:n=(done.filter (I6 facts l part)).length) (hG:iw part h0 o0 (fun _=>done.filter (I6 facts l part)) hb on)
  (hg:if I6 facts l part c=true then (n'=n+1/\iw part h0 o0 (fun _=>done.filter (I6 facts l part)++[c]) jR on') else (n'=n/\jR=hb/\on'=on))
  {b:Bool} (hN:rq part t t') (h1:b=true->EL (Dy l part) c=some (pick t' part)) (h2:b=false->EL (Dy l part) c=none):b=!rest.isEmpty/\Bj facts l part h0 o0 rest n' jR on' t':=by
 have uJ:∃ done,done++rest=qj (Dy l part)/\n'=(done.filter (I6 facts l part)).length/\iw part h0 o0 (fun _=>done.filter (I6 facts l part)) jR on':=by
  refine ⟨done++[c],by rw [<- e];simp,?_,?_⟩
  .rw [List.filter_append,List.length_append,<- hn]
   cases ho:I6 facts l part c with
   | true=>rw [if_pos ho] at hg;simp [ho,hg.1]
   | false=>rw [if_neg (by simp [ho])] at hg;simp [ho,hg.1]
  .rw [List.filter_append]
   cases ho:I6 facts l part c with
   | true=>rw [if_pos ho] at hg;simpa [ho] using hg.2
   | false=>rw [if_neg (by simp [ho])] at hg;rw [hg.2.1,hg.2.2];simpa [ho] using hG
 have hr:=(h.run c rest rfl).1;have hlen:t'.length=o0.length:=hN.len.trans h.len;rcases ztc hr with ⟨hn,rfl⟩|⟨u,r2,hs,rfl,Eo⟩
 .cases b with
  | true=>rw [h1 rfl] at hn;simp at hn
  | false=>exact ⟨rfl,hlen,h.nx.trans hN,uJ,fun c' r' e=>by simp at e⟩
 .cases b with
  | false=>rw [h2 rfl] at hs;simp at hs
  | true =>
   have e:pick t' part=u:=by rw [h1 rfl] at hs;simpa using hs
   refine ⟨rfl,hlen,h.nx.trans hN,uJ,fun c' r' e'=>?_⟩
   simp only [List.cons.injEq] at e';obtain ⟨rfl,rfl⟩:=e';exact ⟨Eo,e⟩
theorem zrB {l:List Box} {part:List Nat} {c:List Pt} (hc:c∈qj (Dy l part)):c.length=part.length/\∀ k (h:k < part.length) (h':k < c.length),bO c[k] l[part[k]]! := by
 obtain ⟨h1,h2⟩:=vk.1 hc;have e:(Dy l part).length=part.length:=by simp [Dy]
 exact ⟨by rw [h1,e],fun k h h'=>by have:=h2 k (by rw [e];exact h) h';simpa [Dy] using this⟩
def FX (p:Problem) (l:Sl Box) (part:List Nat):List (List Pt):=(qj (Dy l.xs part)).filter (I6 p.facts.xs l.xs part)
structure jV (H:Heap) (F iH iO:Nat) (e:Int) (vN:AV) (N:List Int) (hb:List Box) (on:List Pt) (m:Nat):Prop where
 f:H.get F=.cells true [.pure (.int .i64 e),vN,.row iH 4 0 m,.row iO 2 0 m]
 n:aD aI 1 H vN N
 h:H.get iH=.cells true (zq Box.cells hb)
 o:H.get iO=.cells true (zq Pt.cells on)
 fh:F≠iH
 fo:F≠iO
 ho:iH≠iO
 nF:¬ Names vN F
 nH:¬ Names vN iH
 nO:¬ Names vN iO
structure Dz (H H':Heap) (F iH iO:Nat) (vN:AV):Prop where
 nx:H.nx<=H'.nx
 get:∀ j,j < H.nx->j≠F->j≠iH->j≠iO->¬ Names vN j->H'.get j=H.get j
theorem jV.at2 {H H2:Heap} {F iH iO m:Nat} {e:Int} {vN:AV} {N:List Int} {hb:List Box} {on:List Pt} {o:aU} (hF:jV H F iH iO e vN N hb on m) (bf:∀ id,id < (H.alloc o).nx->¬ Names vN id->H2.get id=(H.alloc o).get id):H2.get F=.cells true [.pure (.int .i64 e),vN,.row iH 4 0 m,.row iO 2 0 m]:=by
 have:=zx hF.f;rw [bf F (by simp;omega) hF.nF,zg this,hF.f]
theorem jV.grow {H H2:Heap} {F iH iO m:Nat} {e:Int} {vN v2:AV} {N N2:List Int} {hb:List Box} {on:List Pt} {o:aU} (hF:jV H F iH iO e vN N hb on m) (hv:aD aI 1 H2 v2 N2) (bX:(H.alloc o).nx<=H2.nx) (bf:∀ id,id < (H.alloc o).nx->¬ Names vN id->H2.get id=(H.alloc o).get id) (aR:∀ id,Names v2 id->(H.alloc o).nx<=id) (e':Int) :
  jV (H2.set F (.cells true [.pure (.int .i64 e'),v2,.row iH 4 0 m,.row iO 2 0 m])) F iH iO e' v2 N2 hb on m/\Dz H (H2.set F (.cells true [.pure (.int .i64 e'),v2,.row iH 4 0 m,.row iO 2 0 m])) F iH iO vN:=by
 have h1:=zx hF.f;have h2:=zx hF.h;have h3:=zx hF.o;simp only [rC] at bX bf aR;have nF:¬ Names v2 F:=fun h=>by have:=aR F h;omega
 have nH:¬ Names v2 iH:=fun h=>by have:=aR iH h;omega
 have nO:¬ Names v2 iO:=fun h=>by have:=aR iO h;omega
 refine ⟨⟨zn (by omega),hv.set nF _,?_,?_,hF.fh,hF.fo,hF.ho,nF,nH,nO⟩,⟨by simp;omega,fun j hj a1 a2 a3 a4=>?_⟩⟩
 .rw [zf (Ne.symm hF.fh),bf iH (by omega) hF.nH,zg h2,hF.h]
 .rw [zf (Ne.symm hF.fo),bf iO (by omega) hF.nO,zg h3,hF.o]
 .rw [zf a1,bf j (by omega) a4,zg hj]
theorem jV.to {H H':Heap} {F iH iO m:Nat} {e:Int} {vN:AV} {N:List Int} {hb jR:List Box} {on on':List Pt} (hF:jV H F iH iO e vN N hb on m) (hk:∀ j,j < H.nx->j≠iH->j≠iO->H'.get j=H.get j) (g1:H'.get iH=.cells true (zq Box.cells jR)) (g2:H'.get iO=.cells true (zq Pt.cells on')):jV H' F iH iO e vN N jR on' m:=by
 have h1:=zx hF.f
 refine ⟨by rw [hk F h1 hF.fh hF.fo,hF.f],⟨hF.n.1.keep fun i ⟨n,hi⟩=>?_,hF.n.2⟩,g1,g2,hF.fh,hF.fo,hF.ho,hF.nF,hF.nH,hF.nO⟩
 exact hk i (hF.n.1.names_lt ⟨_,_,_,hi⟩) (fun g=>hF.nH (g ▸ ⟨_,_,_,hi⟩)) (fun g=>hF.nO (g ▸ ⟨_,_,_,hi⟩))
theorem jV.keep {H H':Heap} {F iH iO m:Nat} {e:Int} {vN:AV} {N:List Int} {hb:List Box} {on:List Pt} (hF:jV H F iH iO e vN N hb on m) (hk:∀ j,j < H.nx->H'.get j=H.get j):jV H' F iH iO e vN N hb on m :=
 hF.to (fun j hj _ _=>hk j hj) (by rw [hk _ (zx hF.h),hF.h]) (by rw [hk _ (zx hF.o),hF.o])
structure Bl (H H':Heap) (F iH iO iP:Nat) (e:Int) (vN:AV) (N:List Int) (hb:List Box) (on t:List Pt) (m:Nat):Prop where
 fr:jV H' F iH iO e vN N hb on m
 p:H'.get iP=.cells true (zq Pt.cells t)
 nx:H.nx<=H'.nx
 lt:H.nx<=iP
 same:∀ j,j < H.nx->j≠F->j≠iH->j≠iO->H'.get j=H.get j
 lF:F < H.nx
 lH:iH < H.nx
 lO:iO < H.nx
theorem Bl.to {H H1 H2:Heap} {F iH iO iP m:Nat} {e:Int} {vN:AV} {N:List Int} {hb jR:List Box} {on on' t t':List Pt} (h:Bl H H1 F iH iO iP e vN N hb on t m) (bX:H1.nx<=H2.nx) (hk:∀ j,j < H1.nx->j≠iH->j≠iO->j≠iP->H2.get j=H1.get j) (hv:∀ i,Names vN i->i < H.nx) (g1:H2.get iH=.cells true (zq Box.cells jR)) (g2:H2.get iO=.cells true (zq Pt.cells on')) (g3:H2.get iP=.cells true (zq Pt.cells t')):Bl H H2 F iH iO iP e vN N jR on' t' m:=by
 have:=h.lt;have:=h.lF;have:=h.nx
 refine ⟨?_,g3,by omega,h.lt,fun j hj a b c=>?_,h.lF,h.lH,h.lO⟩
 .refine ⟨?_,⟨h.fr.n.1.keep fun i ⟨n,hi⟩=>?_,h.fr.n.2⟩,g1,g2,h.fr.fh,h.fr.fo,h.fr.ho,h.fr.nF,h.fr.nH,h.fr.nO⟩
  .rw [hk F (by omega) h.fr.fh h.fr.fo (by omega),h.fr.f]
  .have hl:=hv i ⟨_,_,_,hi⟩;exact hk i (by omega) (fun g=>h.fr.nH (g ▸ ⟨_,_,_,hi⟩)) (fun g=>h.fr.nO (g ▸ ⟨_,_,_,hi⟩)) (by omega)
 .rw [hk j (by omega) b c (by omega),h.same j hj a b c]
theorem Bl.found {H H' H2:Heap} {F iH iO iP:Nat} {e:Int} {vN:AV} {N:List Int} {hb:List Box} {on t:List Pt} {m:Nat} (h:Bl H H' F iH iO iP e vN N hb on t m) (h2:Dz H' H2 F iH iO vN):Dz H H2 F iH iO vN :=
 ⟨Nat.le_trans h.nx h2.nx,fun j hj a b c d=>by rw [h2.get j (Nat.lt_of_lt_of_le hj h.nx) a b c d,h.same j hj a b c]⟩
def PR (p:Problem) (l:Sl Box) (g:List Nat):Int:=if 1 < g.length then ((FX p l g).length:Int) else rF l.xs[g[0]!]!
def badR (p:Problem) (l:Sl Box) (g:List Nat):Bool:=decide (1 < g.length)&&(FX p l g).isEmpty
def zqQ (p:Problem) (l:Sl Box) (g:List Nat) (k:Nat):Box:=if 1 < g.length then hX l.xs g (FX p l g) k else l.xs[g[k]!]!
def PS (p:Problem) (l:Sl Box) (g:List Nat) (k:Nat):Pt:=if 1 < g.length then oX (l.xs.map nI) g (FX p l g) k else nI l.xs[g[k]!]!
structure oU (p:Problem) (l:Sl Box) (ps:List (List Nat)) (i:Nat) (e:Int) (N:List Int) (hb:List Box) (on:List Pt):Prop where
 e:e=if (ps.take i).any (badR p l)=true then 9 else 0
 n:N=(ps.take i).map (PR p l)
 hl:hb.length=l.xs.length
 ol:on.length=l.xs.length
 at_:∀ g∈ps.take i,∀ k (h:k < g.length),hb[g[k]]! = zqQ p l g k/\on[g[k]]! = PS p l g k
 rest:∀ g∈ps.drop i,∀ x∈g,hb[x]! = l.xs[x]! /\ on[x]! = nI l.xs[x]!
theorem zkq {ps:List (List Nat)} (h:ps.flatten.Nodup) {i j:Nat} (hi:i < ps.length) (hj:j < ps.length) (Hf:i≠j) {x:Nat} (hx:x∈ps[i]):x ∉ ps[j]:=fun hy=>by
 have hp:=(List.pairwise_flatten.1 h).2;rcases Nat.lt_or_gt_of_ne Hf with g|g
 .exact List.pairwise_iff_getElem.1 hp i j hi hj g x hx x hy rfl
 .exact List.pairwise_iff_getElem.1 hp j i hj hi g x hy x hx rfl
theorem oU.start {p:Problem} {l:Sl Box} {ps:List (List Nat)} (hx:∀ g∈ps,∀ x∈g,x < l.xs.length):oU p l ps 0 0 [] l.xs (l.xs.map nI) :=
 ⟨rfl,rfl,rfl,by simp,fun g hg=>by simp at hg,fun g hg x hxg=>⟨rfl,by
  have:=hx g (by simpa using hg) x hxg;rw [getElem!_pos (l.xs.map nI) x (by simpa using this),getElem!_pos l.xs x this,List.getElem_map]⟩⟩
section
variable {p:Problem} {l:Sl Box} {ps:List (List Nat)} {i:Nat} {e:Int} {N:List Int} {hb jR:List Box} {on on':List Pt}
theorem znz {α:Type} {l:List α} {i:Nat} {a:α} (h:a∈l.take i):∃ j,∃ (hj:j < l.length),j < i/\l[j]=a:=by
 obtain ⟨j,hj,e⟩:=List.getElem_of_mem h;rw [List.length_take] at hj;exact ⟨j,by omega,by omega,by rw [<- e,List.getElem_take]⟩
theorem zoq {α:Type} {l:List α} {i:Nat} {a:α} (h:a∈l.drop i):∃ j,∃ (hj:j < l.length),i<=j/\l[j]=a:=by
 obtain ⟨j,hj,e⟩:=List.getElem_of_mem h;rw [List.length_drop] at hj;exact ⟨i+j,by omega,by omega,by rw [<- e,List.getElem_drop]⟩
theorem oU.named (h:oU p l ps i e N hb on) (hd:ps.flatten.Nodup) (hi:i < ps.length) (h1:1 < ps[i].length) (aO:∀ x∈ps[i],x < l.xs.length) (hG:iw ps[i] hb on (fun _=>FX p l ps[i]) jR on'):oU p l ps (i+1) (if FX p l ps[i]=[] then 9 else e) (N++[((FX p l ps[i]).length:Int)]) jR on':=by
 have bD:ps[i]∈ps.drop i:=by rw [List.drop_eq_getElem_cons hi];exact List.mem_cons_self
 have hr:=h.rest _ bD
 refine ⟨?_,?_,hG.hl.trans h.hl,hG.ol.trans h.ol,fun g hg k hk=>?_,fun g hg x hx=>?_⟩
 .rw [<- E5 hi,List.any_append,h.e];have:badR p l ps[i]=(FX p l ps[i]).isEmpty:=by simp [badR,h1]
  by_cases hs:FX p l ps[i]=[]
  .simp [this,hs]
  .rw [if_neg hs];simp [this,hs]
 .rw [<- E5 hi,List.map_append,h.n];simp [PR,h1]
 .rw [<- E5 hi,List.mem_append] at hg;rcases hg with hg|hg
  .obtain ⟨j,hj,EX,e⟩:=znz hg;have hn:g[k] ∉ ps[i]:=zkq hd hj hi (by omega) (e ▸ List.getElem_mem hk);rw [hG.ik _ hn,hG.FW _ hn];exact h.at_ g hg k hk
  .simp only [List.mem_singleton] at hg;subst hg;have y8:=hr _ (List.getElem_mem hk);have EB:=aO _ (List.getElem_mem hk);rw [hG.sJ k hk,hG.Rl k hk];unfold zqQ PS;rw [if_pos h1,if_pos h1]
   constructor
   .unfold hX;rw [getElem!_pos ps[i] k hk,y8.1]
   .unfold oX
    cases FX p l ps[i] with
    | nil =>
     simp only;rw [getElem!_pos ps[i] k hk,y8.2,getElem!_pos (l.xs.map nI) _ (by simpa using EB),List.getElem_map,getElem!_pos l.xs _ EB]
    | cons a b=>rfl
 .obtain ⟨j,hj,EX,e⟩:=zoq hg;have hn:x ∉ ps[i]:=zkq hd hj hi (by omega) (e ▸ hx);rw [hG.ik _ hn,hG.FW _ hn]
  refine h.rest g ?_ x hx
  rw [List.drop_eq_getElem_cons hi];exact List.mem_cons_of_mem _ hg
theorem oU.alone (h:oU p l ps i e N hb on) (hi:i < ps.length) (h1:ps[i].length=1) {k0:Nat} (hk:ps[i]=[k0]):oU p l ps (i+1) e (N++[rF l.xs[k0]!]) hb on:=by
 have bD:ps[i]∈ps.drop i:=by rw [List.drop_eq_getElem_cons hi];exact List.mem_cons_self
 have hr:=h.rest _ bD
 refine ⟨?_,?_,h.hl,h.ol,fun g hg k wS=>?_,fun g hg x hx=>h.rest g ?_ x hx⟩
 .rw [<- E5 hi,List.any_append,h.e];simp [badR,h1]
 .rw [<- E5 hi,List.map_append,h.n];simp [PR,hk]
 .rw [<- E5 hi,List.mem_append] at hg;rcases hg with hg|hg
  .exact h.at_ g hg k wS
  .simp only [List.mem_singleton] at hg;subst hg;have y8:=hr _ (List.getElem_mem wS);unfold zqQ PS;rw [if_neg (by omega),if_neg (by omega),getElem!_pos ps[i] k wS];exact y8
 .rw [List.drop_eq_getElem_cons hi];exact List.mem_cons_of_mem _ hg
end
theorem iw.vH {p:Problem} {l:Sl Box} {part:List Nat} {h0 hb:List Box} {o0 on:List Pt} (h:iw part h0 o0 (fun _=>FX p l part) hb on) (hi:∀ i∈part,i < l.xs.length) (hv:∀ b∈l.xs,o7 b=true) (LQ:o0.length=l.xs.length) (ho:∀ q∈o0,Vm.vH q):∀ q∈on,Vm.vH q:=fun q hq=>by
 obtain ⟨j,hj,rfl⟩:=List.getElem_of_mem hq;have F7:j < o0.length:=by rw [<- h.ol];exact hj
 by_cases hm:j∈part
 .obtain ⟨k,hk,rfl⟩:=List.getElem_of_mem hm;have:=h.Rl k hk;rw [getElem!_pos on _ hj] at this;rw [this]
  cases hS:FX p l part with
  | nil =>
   simp only [oX];rw [getElem!_pos part k hk,getElem!_pos o0 _ F7];exact ho _ (List.getElem_mem F7)
  | cons c r =>
   have hc:c∈qj (Dy l.xs part):=(List.mem_filter.1 (show c∈FX p l part by rw [hS];exact List.mem_cons_self)).1;obtain ⟨h1,h2⟩:=zrB hc;have BH:k < c.length:=by rw [h1];exact hk
   have h3:=h2 k hk BH;have aO:=hi _ (List.getElem_mem hk);rw [getElem!_pos l.xs _ aO] at h3;have hb:=aF.1 (hv _ (List.getElem_mem aO));simp only [oX];rw [getElem!_pos c k BH];unfold bO at h3;unfold Vm.vH;omega
 .have:=h.FW j hm;rw [getElem!_pos on j hj,getElem!_pos o0 j F7] at this;rw [this];exact ho _ (List.getElem_mem F7)
end Go.Proofs.YtmmhnfghklppiaaGreat.Vm
