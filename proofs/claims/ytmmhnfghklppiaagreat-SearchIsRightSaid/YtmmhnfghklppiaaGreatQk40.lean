/- Where a loop over the boxes stands that steps the points. Plain Lean. The specification's join and next, walked. What the specification's part gathers from the solutions of a part. Plain Lean. The specification's part, walked. Part after part: what the specification's Solve gathers. Plain Lean. The specification's Solve, walked. -/
import Derived.Test.YtmmhnfghklppiaaGreatQk38
import Derived.Test.YtmmhnfghklppiaaGreatQk20
import Derived.Test.YtmmhnfghklppiaaGreatQk39
import Derived.Test.YtmmhnfghklppiaaGreatQk9
import Derived.Test.YtmmhnfghklppiaaGreatQk23
import Derived.Test.YtmmhnfghklppiaaGreatQk26
namespace Go.Proofs.YtmmhnfghklppiaaGreat.Vm
open Go
set_option linter.unusedSimpArgs false
set_option linter.unusedVariables false
set_option maxHeartbeats 4000000
structure AfterJ (l:List Box) (c:List Pt) (i:Nat) (t:List Pt):Prop where
 len:t.length=l.length
 val:t=(l.take i).map lowB++c.drop i
 res:zdI l c=(zdI (l.drop i) (c.drop i)).map fun u=>(l.take i).map lowB++u
theorem AfterJ.start {l:List Box} {c:List Pt} (h:c.length=l.length):AfterJ l c 0 c:=⟨h,by simp,by simp⟩
theorem AfterJ.setAt {l:List Box} {c t:List Pt} {i:Nat} (h:AfterJ l c i t) (hi:i < l.length) (hc:c.length=l.length) (p:Pt):t.set i p=(l.take i).map lowB++(p::c.drop (i+1)):=by
 have hl:((l.take i).map lowB).length=i:=by simp;omega
 rw [h.val,List.set_append_right _ _ (by omega),hl,Nat.sub_self,List.drop_eq_getElem_cons (show i < c.length by omega)];rfl
theorem AfterJ.stepX' {l:List Box} {c t:List Pt} {i:Nat} (h:AfterJ l c i t) (hi:i < l.length) (hc:c.length=l.length):zdI l c=match zgR l[i] (c[i]'(by omega)) with
  | some q=>some (t.set i q)
  | none=>(zdI (l.drop (i+1)) (c.drop (i+1))).map fun u=>(l.take (i+1)).map lowB++u:=by
 rw [h.res,List.drop_eq_getElem_cons hi,List.drop_eq_getElem_cons (show i < c.length by omega)];simp only [zdI]
 cases hs:zgR l[i] c[i] with
 | some q=>simp only [Option.map_some];rw [h.setAt hi hc]
 | none =>
  simp only [Option.map_map]
  congr 1
  funext u
  show (l.take i).map lowB++lowB l[i]::u=(l.take (i+1)).map lowB++u;rw [<- zaN hi,List.map_append,List.append_assoc];rfl
theorem AfterJ.next {l:List Box} {c t:List Pt} {i:Nat} (h:AfterJ l c i t) (hi:i < l.length) (hc:c.length=l.length) (hs:zgR l[i] (c[i]'(by omega))=none):AfterJ l c (i+1) (t.set i (lowB l[i])):=by
 refine ⟨by simp [h.len],?_,?_⟩
 ·rw [h.setAt hi hc,<- zaN hi,List.map_append,List.append_assoc];rfl
 ·rw [h.stepX' hi hc,hs]
theorem AfterJ.stop {l:List Box} {c t:List Pt} (h:AfterJ l c l.length t) (hc:c.length=l.length):zdI l c=none:=by
 rw [h.res,List.drop_length,<- hc,List.drop_length];rfl
set_option maxRecDepth 4000
def zoy (b:Box) (p:Pt):Box:=⟨⟨min b.x.lo p.x,max b.x.hi p.x⟩,⟨min b.y.lo p.y,max b.y.hi p.y⟩⟩
structure NextI (part:List Nat) (s t:List Pt):Prop where
 len:t.length=s.length
 out:∀ j,j ∉ part->t[j]! = s[j]!
theorem NextI.set {part:List Nat} {s t:List Pt} (h:NextI part s t) {k:Nat} (hk:k∈part) (p:Pt):NextI part s (t.set k p):=by
 refine ⟨by rw [List.length_set,h.len],fun j hj=>?_⟩
 rw [<- h.out j hj];have:k≠j:=fun e=>hj (e ▸ hk);simp only [List.getElem!_eq_getElem?_getD,List.getElem?_set_ne this]
def zbm (l:List Box) (part:List Nat):List Box:=part.map fun i=>l[i]!
def zmg:List Pt->Box
 | []=>⟨⟨0,0⟩,⟨0,0⟩⟩
 | x::xs=>xs.foldl zoy (atB x)
theorem zmQ {l:List Pt} (h:l≠[]) (x:Pt):zmg (l++[x])=zoy (zmg l) x:=by
 cases l with
 | nil=>exact absurd rfl h
 | cons y l=>simp [zmg,List.foldl_append]
def hX (h0:List Box) (part:List Nat) (S:List (List Pt)) (k:Nat):Box:=if S=[] then h0[part[k]!]! else zmg (S.map fun c=>c[k]!)
def oX (o0:List Pt) (part:List Nat) (S:List (List Pt)) (k:Nat):Pt:=match S with
 | []=>o0[part[k]!]!
 | c::_=>c[k]!
structure PartG (part:List Nat) (h0:List Box) (o0:List Pt) (T:Nat->List (List Pt)) (hb:List Box) (on:List Pt):Prop where
 hl:hb.length=h0.length
 ol:on.length=o0.length
 hout:∀ i,i ∉ part->hb[i]! = h0[i]!
 oout:∀ i,i ∉ part->on[i]! = o0[i]!
 hat:∀ k (h:k < part.length),hb[part[k]]! = hX h0 part (T k) k
 oat:∀ k (h:k < part.length),on[part[k]]! = oX o0 part (T k) k
def midT (S:List (List Pt)) (c:List Pt) (j:Nat):Nat->List (List Pt):=fun k=>if k < j then S++[c] else S
section
variable {part:List Nat} {h0 hb:List Box} {o0 on:List Pt} {S:List (List Pt)} {c:List Pt} {j:Nat}
theorem PartG.start:PartG part h0 o0 (fun _=>[]) h0 o0:=⟨rfl,rfl,fun _ _=>rfl,fun _ _=>rfl,fun k h=>by simp [hX,h],fun k h=>by simp [oX,h]⟩
theorem zfO {α:Type} [Inhabited α] (l:List α) (i:Nat) (x:α) (j:Nat):(l.set i x)[j]! = if i=j/\i < l.length then x else l[j]! := by
 simp only [List.getElem!_eq_getElem?_getD,List.getElem?_set]
 split
 ·rename_i e;subst e
  split
  ·rename_i h;simp [h]
  ·rename_i h;simp [h]
 ·rename_i e;simp [e]
theorem zlb (hn:part.Nodup) {i k:Nat} (hi:i < part.length) (hk:k < part.length) (e:i≠k):part[i]≠part[k]:=by
 rcases Nat.lt_or_gt_of_ne e with g|g
 ·exact List.pairwise_iff_getElem.1 hn i k hi hk g
 ·exact fun x=>List.pairwise_iff_getElem.1 hn k i hk hi g x.symm
theorem PartG.put (hn:part.Nodup) {T T':Nat->List (List Pt)} (h:PartG part h0 o0 T hb on) (hj:j < part.length) (hi:part[j] < hb.length) (hi2:part[j] < on.length) (hT:∀ k,k≠j->T' k=T k) {x:Box} {y:Pt} (hx:x=hX h0 part (T' j) j) (hy:y=oX o0 part (T' j) j):PartG part h0 o0 T' (hb.set part[j] x) (on.set part[j] y):=by
 have hm:part[j]∈part:=List.getElem_mem hj
 refine ⟨by rw [List.length_set,h.hl],by rw [List.length_set,h.ol],fun i hi'=>?_,fun i hi'=>?_,fun k hk=>?_,fun k hk=>?_⟩
 ·rw [zfO,if_neg (fun (e:part[j]=i/\_)=>hi' (e.1 ▸ hm))];exact h.hout i hi'
 ·rw [zfO,if_neg (fun (e:part[j]=i/\_)=>hi' (e.1 ▸ hm))];exact h.oout i hi'
 ·rw [zfO]
  by_cases e:j=k
  ·subst e;rw [if_pos ⟨rfl,hi⟩,hx]
  ·rw [if_neg (fun (g:_/\_)=>zlb hn hj hk e g.1),hT k fun g=>e g.symm];exact h.hat k hk
 ·rw [zfO]
  by_cases e:j=k
  ·subst e;rw [if_pos ⟨rfl,hi2⟩,hy]
  ·rw [if_neg (fun (g:_/\_)=>zlb hn hj hk e g.1),hT k fun g=>e g.symm];exact h.oat k hk
theorem zre {k:Nat} (h:k≠j):midT S c (j+1) k=midT S c j k:=by
 unfold midT
 by_cases g:k < j
 ·rw [if_pos g,if_pos (by omega)]
 ·rw [if_neg g,if_neg (by omega)]
theorem zkt:midT S c (j+1) j=S++[c]:=by simp [midT]
theorem zsr:midT S c j j=S:=by simp [midT]
theorem PartG.first (hn:part.Nodup) (h:PartG part h0 o0 (midT [] c j) hb on) (hj:j < part.length) (hi:part[j] < hb.length) (hi2:part[j] < on.length):PartG part h0 o0 (midT [] c (j+1)) (hb.set part[j] (atB c[j]!)) (on.set part[j] c[j]!) :=
 h.put hn hj hi hi2 (fun k hk=>zre hk) (by rw [zkt];simp [hX,zmg]) (by rw [zkt];simp [oX])
theorem zro {α:Type} [Inhabited α] {l:List α} {i:Nat}:l.set i l[i]! = l:=by
 by_cases h:i < l.length
 ·rw [getElem!_pos l i h];exact List.set_getElem_self ..
 ·exact List.set_eq_of_length_le (by omega)
theorem PartG.more (hn:part.Nodup) (hS:S≠[]) (h:PartG part h0 o0 (midT S c j) hb on) (hj:j < part.length) (hi:part[j] < hb.length) (hi2:part[j] < on.length):PartG part h0 o0 (midT S c (j+1)) (hb.set part[j] (zoy hb[part[j]]! c[j]!)) on:=by
 have h1:=h.hat j hj;have h2:=h.oat j hj;rw [zsr] at h1 h2;have:=h.put (T':=midT S c (j+1)) (x:=zoy hb[part[j]]! c[j]!) (y:=on[part[j]]!) hn hj hi hi2 (fun k hk=>zre hk) (by
  rw [zkt,h1];unfold hX;rw [if_neg hS,if_neg (by simp),List.map_append,List.map_singleton,zmQ (by simpa using hS)]) (by
  rw [zkt,h2]
  cases S with
  | nil=>exact absurd rfl hS
  | cons a S=>rfl)
 rwa [zro] at this
theorem PartG.mid (h:PartG part h0 o0 (fun _=>S) hb on):PartG part h0 o0 (midT S c 0) hb on :=
 ⟨h.hl,h.ol,h.hout,h.oout,fun k hk=>by simpa [midT] using h.hat k hk,fun k hk=>by simpa [midT] using h.oat k hk⟩
theorem PartG.done (h:PartG part h0 o0 (midT S c part.length) hb on):PartG part h0 o0 (fun _=>S++[c]) hb on :=
 ⟨h.hl,h.ol,h.hout,h.oout,fun k hk=>by simpa [midT,hk] using h.hat k hk,fun k hk=>by simpa [midT,hk] using h.oat k hk⟩
end
def okR (facts:List Fact) (l:List Box) (part:List Nat) (c:List Pt):Bool:=(ztC facts part).all fun f=>!zC f (za1 part c l)
structure PartL (facts:List Fact) (l:List Box) (part:List Nat) (h0:List Box) (o0:List Pt) (rest:List (List Pt)) (n:Nat) (hb:List Box) (on t:List Pt):Prop where
 len:t.length=o0.length
 nx:NextI part o0 t
 pre:∃ done,done++rest=allX (zbm l part)/\n=(done.filter (okR facts l part)).length/\PartG part h0 o0 (fun _=>done.filter (okR facts l part)) hb on
 run:∀ c r,rest=c::r->Runs (zdI (zbm l part)) c rest/\pick t part=c
theorem NextI.trans {part:List Nat} {a b c:List Pt} (h:NextI part a b) (h2:NextI part b c):NextI part a c:=⟨h2.len.trans h.len,fun j hj=>(h2.out j hj).trans (h.out j hj)⟩
theorem zsp {α:Type} {f:α->Option α} {c:α} {rest:List α} (h:Runs f c (c::rest)):(f c=none/\rest=[])\/∃ t r2,f c=some t/\rest=t::r2/\Runs f t rest:=by
 cases h with
 | last _ h=>exact .inl ⟨h,rfl⟩
 | step _ b _ h hl =>
  cases hl with
  | last _ h2=>exact .inr ⟨b,[],h,rfl,.last _ h2⟩
  | step _ b2 l2 h2 hl2=>exact .inr ⟨b,_,h,rfl,.step _ _ _ h2 hl2⟩
theorem zqZ {α:Type} {f:α->Option α} {a:α} {l:List α} (h:Runs f a l):∃ r,l=a::r:=by
 cases h with
 | last a h=>exact ⟨[],rfl⟩
 | step a b l h hl=>exact ⟨l,rfl⟩
theorem PartL.start {facts:List Fact} {l:List Box} {part:List Nat} {h0:List Box} {o0:List Pt} (hw:Wf (zbm l part)) (hlo:pick o0 part=(zbm l part).map lowB):PartL facts l part h0 o0 (allX (zbm l part)) 0 h0 o0 o0 :=
 ⟨rfl,⟨rfl,fun _ _=>rfl⟩,⟨[],rfl,rfl,PartG.start⟩,fun c r e=>by
  have h:=zk9 hw;obtain ⟨r2,e2⟩:=zqZ h;rw [e] at e2;simp only [List.cons.injEq] at e2;rw [hlo,<- e2.1];rw [<- e2.1] at h;exact ⟨h,rfl⟩⟩
theorem PartL.next {facts:List Fact} {l:List Box} {part:List Nat} {h0 hb hb':List Box} {o0 on on' t t' c:List Pt} {rest:List (List Pt)} {n n':Nat} (h:PartL facts l part h0 o0 (c::rest) n hb on t) {done:List (List Pt)} (e:done++(c::rest)=allX (zbm l part)) (hn:n=(done.filter (okR facts l part)).length) (hG:PartG part h0 o0 (fun _=>done.filter (okR facts l part)) hb on)
  (hg:if okR facts l part c=true then (n'=n+1/\PartG part h0 o0 (fun _=>done.filter (okR facts l part)++[c]) hb' on') else (n'=n/\hb'=hb/\on'=on))
  {b:Bool} (hN:NextI part t t') (h1:b=true->zdI (zbm l part) c=some (pick t' part)) (h2:b=false->zdI (zbm l part) c=none):b=!rest.isEmpty/\PartL facts l part h0 o0 rest n' hb' on' t':=by
 have hpre:∃ done,done++rest=allX (zbm l part)/\n'=(done.filter (okR facts l part)).length/\PartG part h0 o0 (fun _=>done.filter (okR facts l part)) hb' on':=by
  refine ⟨done++[c],by rw [<- e];simp,?_,?_⟩
  ·rw [List.filter_append,List.length_append,<- hn]
   cases ho:okR facts l part c with
   | true=>rw [if_pos ho] at hg;simp [ho,hg.1]
   | false=>rw [if_neg (by simp [ho])] at hg;simp [ho,hg.1]
  ·rw [List.filter_append]
   cases ho:okR facts l part c with
   | true=>rw [if_pos ho] at hg;simpa [ho] using hg.2
   | false=>rw [if_neg (by simp [ho])] at hg;rw [hg.2.1,hg.2.2];simpa [ho] using hG
 have hr:=(h.run c rest rfl).1;have hlen:t'.length=o0.length:=hN.len.trans h.len;rcases zsp hr with ⟨hn,rfl⟩|⟨u,r2,hs,rfl,hr2⟩
 ·cases b with
  | true=>rw [h1 rfl] at hn;simp at hn
  | false=>exact ⟨rfl,hlen,h.nx.trans hN,hpre,fun c' r' e=>by simp at e⟩
 ·cases b with
  | false=>rw [h2 rfl] at hs;simp at hs
  | true =>
   have e:pick t' part=u:=by rw [h1 rfl] at hs;simpa using hs
   refine ⟨rfl,hlen,h.nx.trans hN,hpre,fun c' r' e'=>?_⟩
   simp only [List.cons.injEq] at e';obtain ⟨rfl,rfl⟩:=e';exact ⟨hr2,e⟩
theorem zqr {l:List Box} {part:List Nat} {c:List Pt} (hc:c∈allX (zbm l part)):c.length=part.length/\∀ k (h:k < part.length) (h':k < c.length),inB' c[k] l[part[k]]! := by
 obtain ⟨h1,h2⟩:=mem_allX.1 hc;have e:(zbm l part).length=part.length:=by simp [zbm]
 exact ⟨by rw [h1,e],fun k h h'=>by have:=h2 k (by rw [e];exact h) h';simpa [zbm] using this⟩
def zd2 (p:Problem) (l:Sl Box) (part:List Nat):List (List Pt):=(allX (zbm l.xs part)).filter (okR p.facts.xs l.xs part)
structure FoundR (H:Heap) (F iH iO:Nat) (e:Int) (vN:AV) (N:List Int) (hb:List Box) (on:List Pt) (m:Nat):Prop where
 f:H.get F=.cells true [.pure (.int .i64 e),vN,.row iH 4 0 m,.row iO 2 0 m]
 n:GrowV intF 1 H vN N
 h:H.get iH=.cells true (zq Box.cells hb)
 o:H.get iO=.cells true (zq Pt.cells on)
 fh:F≠iH
 fo:F≠iO
 ho:iH≠iO
 nF:¬ Names vN F
 nH:¬ Names vN iH
 nO:¬ Names vN iO
structure FoundK (H H':Heap) (F iH iO:Nat) (vN:AV):Prop where
 nx:H.nx<=H'.nx
 get:∀ j,j < H.nx->j≠F->j≠iH->j≠iO->¬ Names vN j->H'.get j=H.get j
theorem FoundR.grow {H H2:Heap} {F iH iO m:Nat} {e:Int} {vN v2:AV} {N N2:List Int} {hb:List Box} {on:List Pt} {o:AObj} (hF:FoundR H F iH iO e vN N hb on m) (hv:GrowV intF 1 H2 v2 N2) (hnx:(H.alloc o).nx<=H2.nx) (hget:∀ id,id < (H.alloc o).nx->¬ Names vN id->H2.get id=(H.alloc o).get id) (hnew:∀ id,Names v2 id->(H.alloc o).nx<=id) (e':Int) :
  FoundR (H2.set F (.cells true [.pure (.int .i64 e'),v2,.row iH 4 0 m,.row iO 2 0 m])) F iH iO e' v2 N2 hb on m/\FoundK H (H2.set F (.cells true [.pure (.int .i64 e'),v2,.row iH 4 0 m,.row iO 2 0 m])) F iH iO vN:=by
 have h1:=zt hF.f;have h2:=zt hF.h;have h3:=zt hF.o;simp only [zan] at hnx hget hnew;have nF:¬ Names v2 F:=fun h=>by have:=hnew F h;omega
 have nH:¬ Names v2 iH:=fun h=>by have:=hnew iH h;omega
 have nO:¬ Names v2 iO:=fun h=>by have:=hnew iO h;omega
 refine ⟨⟨zu (by omega),hv.set nF _,?_,?_,hF.fh,hF.fo,hF.ho,nF,nH,nO⟩,⟨by simp;omega,fun j hj a1 a2 a3 a4=>?_⟩⟩
 ·rw [zh (Ne.symm hF.fh),hget iH (by omega) hF.nH,zf h2,hF.h]
 ·rw [zh (Ne.symm hF.fo),hget iO (by omega) hF.nO,zf h3,hF.o]
 ·rw [zh a1,hget j (by omega) a4,zf hj]
theorem FoundR.to {H H':Heap} {F iH iO m:Nat} {e:Int} {vN:AV} {N:List Int} {hb hb':List Box} {on on':List Pt} (hF:FoundR H F iH iO e vN N hb on m) (hk:∀ j,j < H.nx->j≠iH->j≠iO->H'.get j=H.get j) (g1:H'.get iH=.cells true (zq Box.cells hb')) (g2:H'.get iO=.cells true (zq Pt.cells on')):FoundR H' F iH iO e vN N hb' on' m:=by
 have h1:=zt hF.f
 refine ⟨by rw [hk F h1 hF.fh hF.fo,hF.f],⟨hF.n.1.keep fun i ⟨n,hi⟩=>?_,hF.n.2⟩,g1,g2,hF.fh,hF.fo,hF.ho,hF.nF,hF.nH,hF.nO⟩
 exact hk i (hF.n.1.names_lt ⟨_,_,_,hi⟩) (fun g=>hF.nH (g ▸ ⟨_,_,_,hi⟩)) (fun g=>hF.nO (g ▸ ⟨_,_,_,hi⟩))
theorem FoundR.keep {H H':Heap} {F iH iO m:Nat} {e:Int} {vN:AV} {N:List Int} {hb:List Box} {on:List Pt} (hF:FoundR H F iH iO e vN N hb on m) (hk:∀ j,j < H.nx->H'.get j=H.get j):FoundR H' F iH iO e vN N hb on m :=
 hF.to (fun j hj _ _=>hk j hj) (by rw [hk _ (zt hF.h),hF.h]) (by rw [hk _ (zt hF.o),hF.o])
structure PartH (H H':Heap) (F iH iO iP:Nat) (e:Int) (vN:AV) (N:List Int) (hb:List Box) (on t:List Pt) (m:Nat):Prop where
 fr:FoundR H' F iH iO e vN N hb on m
 p:H'.get iP=.cells true (zq Pt.cells t)
 nx:H.nx<=H'.nx
 lt:H.nx<=iP
 same:∀ j,j < H.nx->j≠F->j≠iH->j≠iO->H'.get j=H.get j
 lF:F < H.nx
 lH:iH < H.nx
 lO:iO < H.nx
theorem PartH.to {H H1 H2:Heap} {F iH iO iP m:Nat} {e:Int} {vN:AV} {N:List Int} {hb hb':List Box} {on on' t t':List Pt} (h:PartH H H1 F iH iO iP e vN N hb on t m) (hnx:H1.nx<=H2.nx) (hk:∀ j,j < H1.nx->j≠iH->j≠iO->j≠iP->H2.get j=H1.get j) (hv:∀ i,Names vN i->i < H.nx) (g1:H2.get iH=.cells true (zq Box.cells hb')) (g2:H2.get iO=.cells true (zq Pt.cells on')) (g3:H2.get iP=.cells true (zq Pt.cells t')):PartH H H2 F iH iO iP e vN N hb' on' t' m:=by
 have:=h.lt;have:=h.lF;have:=h.nx
 refine ⟨?_,g3,by omega,h.lt,fun j hj a b c=>?_,h.lF,h.lH,h.lO⟩
 ·refine ⟨?_,⟨h.fr.n.1.keep fun i ⟨n,hi⟩=>?_,h.fr.n.2⟩,g1,g2,h.fr.fh,h.fr.fo,h.fr.ho,h.fr.nF,h.fr.nH,h.fr.nO⟩
  ·rw [hk F (by omega) h.fr.fh h.fr.fo (by omega),h.fr.f]
  ·have hl:=hv i ⟨_,_,_,hi⟩;exact hk i (by omega) (fun g=>h.fr.nH (g ▸ ⟨_,_,_,hi⟩)) (fun g=>h.fr.nO (g ▸ ⟨_,_,_,hi⟩)) (by omega)
 ·rw [hk j (by omega) b c (by omega),h.same j hj a b c]
theorem PartH.found {H H' H2:Heap} {F iH iO iP:Nat} {e:Int} {vN:AV} {N:List Int} {hb:List Box} {on t:List Pt} {m:Nat} (h:PartH H H' F iH iO iP e vN N hb on t m) (h2:FoundK H' H2 F iH iO vN):FoundK H H2 F iH iO vN :=
 ⟨Nat.le_trans h.nx h2.nx,fun j hj a b c d=>by rw [h2.get j (Nat.lt_of_lt_of_le hj h.nx) a b c d,h.same j hj a b c]⟩
def numR (p:Problem) (l:Sl Box) (g:List Nat):Int:=if 1 < g.length then ((zd2 p l g).length:Int) else zbf l.xs[g[0]!]!
def badR (p:Problem) (l:Sl Box) (g:List Nat):Bool:=decide (1 < g.length)&&(zd2 p l g).isEmpty
def zqH (p:Problem) (l:Sl Box) (g:List Nat) (k:Nat):Box:=if 1 < g.length then hX l.xs g (zd2 p l g) k else l.xs[g[k]!]!
def oneR (p:Problem) (l:Sl Box) (g:List Nat) (k:Nat):Pt:=if 1 < g.length then oX (l.xs.map lowB) g (zd2 p l g) k else lowB l.xs[g[k]!]!
structure SolveJ (p:Problem) (l:Sl Box) (ps:List (List Nat)) (i:Nat) (e:Int) (N:List Int) (hb:List Box) (on:List Pt):Prop where
 e:e=if (ps.take i).any (badR p l)=true then 9 else 0
 n:N=(ps.take i).map (numR p l)
 hl:hb.length=l.xs.length
 ol:on.length=l.xs.length
 at_:∀ g∈ps.take i,∀ k (h:k < g.length),hb[g[k]]! = zqH p l g k/\on[g[k]]! = oneR p l g k
 rest:∀ g∈ps.drop i,∀ x∈g,hb[x]! = l.xs[x]! /\ on[x]! = lowB l.xs[x]!
theorem zjE {ps:List (List Nat)} (h:ps.flatten.Nodup) {i j:Nat} (hi:i < ps.length) (hj:j < ps.length) (hij:i≠j) {x:Nat} (hx:x∈ps[i]):x ∉ ps[j]:=fun hy=>by
 have hp:=(List.pairwise_flatten.1 h).2;rcases Nat.lt_or_gt_of_ne hij with g|g
 ·exact List.pairwise_iff_getElem.1 hp i j hi hj g x hx x hy rfl
 ·exact List.pairwise_iff_getElem.1 hp j i hj hi g x hy x hx rfl
theorem SolveJ.start {p:Problem} {l:Sl Box} {ps:List (List Nat)} (hx:∀ g∈ps,∀ x∈g,x < l.xs.length):SolveJ p l ps 0 0 [] l.xs (l.xs.map lowB) :=
 ⟨rfl,rfl,rfl,by simp,fun g hg=>by simp at hg,fun g hg x hxg=>⟨rfl,by
  have:=hx g (by simpa using hg) x hxg;rw [getElem!_pos (l.xs.map lowB) x (by simpa using this),getElem!_pos l.xs x this,List.getElem_map]⟩⟩
section
variable {p:Problem} {l:Sl Box} {ps:List (List Nat)} {i:Nat} {e:Int} {N:List Int} {hb hb':List Box} {on on':List Pt}
theorem zmZ {α:Type} {l:List α} {i:Nat} {a:α} (h:a∈l.take i):∃ j,∃ (hj:j < l.length),j < i/\l[j]=a:=by
 obtain ⟨j,hj,e⟩:=List.getElem_of_mem h;rw [List.length_take] at hj;exact ⟨j,by omega,by omega,by rw [<- e,List.getElem_take]⟩
theorem zni {α:Type} {l:List α} {i:Nat} {a:α} (h:a∈l.drop i):∃ j,∃ (hj:j < l.length),i<=j/\l[j]=a:=by
 obtain ⟨j,hj,e⟩:=List.getElem_of_mem h;rw [List.length_drop] at hj;exact ⟨i+j,by omega,by omega,by rw [<- e,List.getElem_drop]⟩
theorem SolveJ.named (h:SolveJ p l ps i e N hb on) (hd:ps.flatten.Nodup) (hi:i < ps.length) (h1:1 < ps[i].length) (hlt:∀ x∈ps[i],x < l.xs.length) (hG:PartG ps[i] hb on (fun _=>zd2 p l ps[i]) hb' on'):SolveJ p l ps (i+1) (if zd2 p l ps[i]=[] then 9 else e) (N++[((zd2 p l ps[i]).length:Int)]) hb' on':=by
 have hin:ps[i]∈ps.drop i:=by rw [List.drop_eq_getElem_cons hi];exact List.mem_cons_self
 have hr:=h.rest _ hin
 refine ⟨?_,?_,hG.hl.trans h.hl,hG.ol.trans h.ol,fun g hg k hk=>?_,fun g hg x hx=>?_⟩
 ·rw [<- zaN hi,List.any_append,h.e];have:badR p l ps[i]=(zd2 p l ps[i]).isEmpty:=by simp [badR,h1]
  by_cases hs:zd2 p l ps[i]=[]
  ·simp [this,hs]
  ·rw [if_neg hs];simp [this,hs]
 ·rw [<- zaN hi,List.map_append,h.n];simp [numR,h1]
 ·rw [<- zaN hi,List.mem_append] at hg;rcases hg with hg|hg
  ·obtain ⟨j,hj,hji,e⟩:=zmZ hg;have hn:g[k] ∉ ps[i]:=zjE hd hj hi (by omega) (e ▸ List.getElem_mem hk);rw [hG.hout _ hn,hG.oout _ hn];exact h.at_ g hg k hk
  ·simp only [List.mem_singleton] at hg;subst hg;have hb1:=hr _ (List.getElem_mem hk);have hlk:=hlt _ (List.getElem_mem hk);rw [hG.hat k hk,hG.oat k hk];unfold zqH oneR;rw [if_pos h1,if_pos h1]
   constructor
   ·unfold hX;rw [getElem!_pos ps[i] k hk,hb1.1]
   ·unfold oX
    cases zd2 p l ps[i] with
    | nil =>
     simp only;rw [getElem!_pos ps[i] k hk,hb1.2,getElem!_pos (l.xs.map lowB) _ (by simpa using hlk),List.getElem_map,getElem!_pos l.xs _ hlk]
    | cons a b=>rfl
 ·obtain ⟨j,hj,hji,e⟩:=zni hg;have hn:x ∉ ps[i]:=zjE hd hj hi (by omega) (e ▸ hx);rw [hG.hout _ hn,hG.oout _ hn]
  refine h.rest g ?_ x hx
  rw [List.drop_eq_getElem_cons hi];exact List.mem_cons_of_mem _ hg
theorem SolveJ.alone (h:SolveJ p l ps i e N hb on) (hi:i < ps.length) (h1:ps[i].length=1) {k0:Nat} (hk:ps[i]=[k0]):SolveJ p l ps (i+1) e (N++[zbf l.xs[k0]!]) hb on:=by
 have hin:ps[i]∈ps.drop i:=by rw [List.drop_eq_getElem_cons hi];exact List.mem_cons_self
 have hr:=h.rest _ hin
 refine ⟨?_,?_,h.hl,h.ol,fun g hg k hk'=>?_,fun g hg x hx=>h.rest g ?_ x hx⟩
 ·rw [<- zaN hi,List.any_append,h.e];simp [badR,h1]
 ·rw [<- zaN hi,List.map_append,h.n];simp [numR,hk]
 ·rw [<- zaN hi,List.mem_append] at hg;rcases hg with hg|hg
  ·exact h.at_ g hg k hk'
  ·simp only [List.mem_singleton] at hg;subst hg;have hb1:=hr _ (List.getElem_mem hk');unfold zqH oneR;rw [if_neg (by omega),if_neg (by omega),getElem!_pos ps[i] k hk'];exact hb1
 ·rw [List.drop_eq_getElem_cons hi];exact List.mem_cons_of_mem _ hg
end
theorem PartG.okP {p:Problem} {l:Sl Box} {part:List Nat} {h0 hb:List Box} {o0 on:List Pt} (h:PartG part h0 o0 (fun _=>zd2 p l part) hb on) (hi:∀ i∈part,i < l.xs.length) (hv:∀ b∈l.xs,zay b=true) (hol:o0.length=l.xs.length) (ho:∀ q∈o0,Vm.okP q):∀ q∈on,Vm.okP q:=fun q hq=>by
 obtain ⟨j,hj,rfl⟩:=List.getElem_of_mem hq;have hj2:j < o0.length:=by rw [<- h.ol];exact hj
 by_cases hm:j∈part
 ·obtain ⟨k,hk,rfl⟩:=List.getElem_of_mem hm;have:=h.oat k hk;rw [getElem!_pos on _ hj] at this;rw [this]
  cases hS:zd2 p l part with
  | nil =>
   simp only [oX];rw [getElem!_pos part k hk,getElem!_pos o0 _ hj2];exact ho _ (List.getElem_mem hj2)
  | cons c r =>
   have hc:c∈allX (zbm l.xs part):=(List.mem_filter.1 (show c∈zd2 p l part by rw [hS];exact List.mem_cons_self)).1;obtain ⟨h1,h2⟩:=zqr hc;have hkc:k < c.length:=by rw [h1];exact hk
   have h3:=h2 k hk hkc;have hlt:=hi _ (List.getElem_mem hk);rw [getElem!_pos l.xs _ hlt] at h3;have hb:=valid_iff.1 (hv _ (List.getElem_mem hlt));simp only [oX];rw [getElem!_pos c k hkc];unfold inB' at h3;unfold Vm.okP;omega
 ·have:=h.oout j hm;rw [getElem!_pos on j hj,getElem!_pos o0 j hj2] at this;rw [this];exact ho _ (List.getElem_mem hj2)
end Go.Proofs.YtmmhnfghklppiaaGreat.Vm
