/- What lies beyond a side of a box; the trees of Extent are small. Plain Lean. What Extent finds: ends that are solutions, and trees. Plain Lean. search.beyond: walked. ref3.Beyond: walked. -/
import Derived.Test.YtmmhnfghklppiaaGreatUk38
import Derived.Test.YtmmhnfghklppiaaGreatUk42
import Derived.Test.YtmmhnfghklppiaaGreatUk40
import Derived.Test.YtmmhnfghklppiaaGreatUk28
import Derived.Test.YtmmhnfghklppiaaGreatUk31
namespace Go.Proofs.YtmmhnfghklppiaaGreat.Vm
open Go
set_option linter.unusedSimpArgs false
set_option linter.unusedVariables false
set_option maxHeartbeats 4000000
def jf (c b:Box) (k:Nat):Box:=mr c (k / 2) (if k % 2=0 then ⟨(bA c (k / 2)).lo,min (bA c (k / 2)).hi ((bA b (k / 2)).lo - 1)⟩ else ⟨max (bA c (k / 2)).lo ((bA b (k / 2)).hi+1),(bA c (k / 2)).hi⟩)
def zP (c b:Box) (k:Nat):Bool:=decide ((bA (jf c b k) (k / 2)).lo<=(bA (jf c b k) (k / 2)).hi)
def jA (l:List Box) (point:Nat) (k:Nat) (b:Box):List Box:=l.set point (jf l[point]! b k)
def bI (p:Problem) (point k:Nat) (b:Box):Problem:=⟨.mk false (jA p.boxes.xs point k b),p.facts⟩
theorem zuP {c b:Box} {k:Nat} (hw:ja c) (h:zP c b k=true):ja (jf c b k)/\fD (jf c b k) c:=by
 unfold zP at h;rw [decide_eq_true_eq] at h;unfold jf ja fD fC mr bA at *
 by_cases e:k / 2=0
 .by_cases e2:k % 2=0
  .simp only [e,e2,if_true] at *;omega
  .simp only [e,e2,if_true,if_false] at *;omega
 .by_cases e2:k % 2=0
  .simp only [e,e2,if_true,if_false] at *;omega
  .simp only [e,e2,if_false] at *;omega
theorem Rk (l:List Box) (point k:Nat) (b:Box):(jA l point k b).length=l.length:=by simp [jA]
theorem ZL {l:List Box} {point k:Nat} {b:Box} (hw:Wf l) (hp:point < l.length) (h:zP l[point]! b k=true):Wf (jA l point k b)/\aR (jA l point k b) l:=by
 have qV:=hw _ (List.getElem_mem hp);unfold jA;rw [getElem!_pos l point hp] at h ⊢;obtain ⟨h1,h2⟩:=zuP qV h;have h3:=(aR.refl l).set (i:=point) h2;rw [List.set_getElem_self] at h3;exact ⟨hw.set h1,h3⟩
theorem ZM {p:Problem} (ok:ak p) {point k:Nat} {b:Box} (hp:point < p.boxes.xs.length) (h:zP p.boxes.xs[point]! b k=true):ak (bI p point k b):=by
 obtain ⟨h1,h2⟩:=ZL (xX ok) hp h;have hl:(bI p point k b).boxes.xs.length=p.boxes.xs.length:=Rk ..
 refine ⟨by rw [hl];exact ok.nb,ok.nf,fun c hc=>?_,fun f hf=>by rw [hl];exact ok.fact f hf⟩
 obtain ⟨i,hi,rfl⟩:=List.mem_iff_getElem.1 hc;have bV:i < p.boxes.xs.length:=by rw [<- hl];exact hi
 have h3:fD ((jA p.boxes.xs point k b)[i]'hi) p.boxes.xs[i]:=h2.2 i hi bV;have h4:ja ((jA p.boxes.xs point k b)[i]'hi):=h1 _ (List.getElem_mem hi);have h5:=ok.box _ (List.getElem_mem bV);show jS (jA p.boxes.xs point k b)[i]=true;generalize (jA p.boxes.xs point k b)[i]=x at *;generalize p.boxes.xs[i]=y at *;unfold jS at *;simp only [Bool.and_eq_true,decide_eq_true_eq,aH] at *;unfold fD fC at h3;unfold ja at h4;omega
theorem zo8 {l:List Box} {point k:Nat} {b:Box} (hw:Wf l) (hp:point < l.length) (h:zP l[point]! b k=true) (hs:∀ b∈l,b.x.hi - b.x.lo<=60/\b.y.hi - b.y.lo<=60):∀ b'∈jA l point k b,b'.x.hi - b'.x.lo<=60/\b'.y.hi - b'.y.lo<=60:=fun b' hb'=>by
 obtain ⟨i,hi,rfl⟩:=List.mem_iff_getElem.1 hb';obtain ⟨h1,h2⟩:=ZL hw hp h;have bV:i < l.length:=by rw [<- Rk];exact hi
 have h3:=h2.2 i hi bV;have h5:=hs _ (List.getElem_mem bV);unfold fD fC at h3;omega
theorem ztd {p:Problem} (ok:ak p) {point k:Nat} {b:Box} (hp:point < p.boxes.xs.length) (h:zP p.boxes.xs[point]! b k=true) {pts:List Pt} (hs:fZ (bI p point k b) pts):fZ p pts/\bF pts[point]! (jf p.boxes.xs[point]! b k):=by
 obtain ⟨h1,h2⟩:=ZL (xX ok) hp h;have oH:mU p.facts.xs (jA p.boxes.xs point k b) pts:=hs
 refine ⟨Ze h2 oH,?_⟩
 have o9:point < (jA p.boxes.xs point k b).length:=by rw [Rk];exact hp
 have AQ:point < pts.length:=by rw [oH.len];exact o9
 have:=oH.y8 point AQ o9;rw [getElem!_pos pts point AQ]
 simpa [jA] using this
theorem zrO {p:Problem} (ok:ak p) {point k:Nat} {b:Box} (hp:point < p.boxes.xs.length) (hk:k < 4) (h:zP p.boxes.xs[point]! b k=true) (hh:jU p point b):¬ ∃ pts,fZ (bI p point k b) pts:=fun ⟨pts,hs⟩=>by
 obtain ⟨h1,h2⟩:=ztd ok hp h hs;have h3:=hh.all _ h1;generalize pts[point]! = x at *;generalize p.boxes.xs[point]! = c at *;unfold bF jf mr bA at *;have nE:k=0\/k=1\/k=2\/k=3:=by omega
 rcases nE with rfl|rfl|rfl|rfl<;>simp at h2<;>omega
theorem zrg {p:Problem} (ok:ak p) {D:aN} (h1:fV p D 0) (e1:D.empty=false) {point k:Nat} {b:Box} (hp:point < p.boxes.xs.length) (h:zP p.boxes.xs[point]! b k=true)
  {m:Nat->Nat} (hm:bH (mM (bI p point k b).facts.xs) (bI p point k b).boxes.xs.length m) {g:List Nat} (hg:g∈zK m (bI p point k b).boxes.xs.length) (ry:GA (bI p point k b) g) (J9:iU (jA p.boxes.xs point k b)<=600) {x:Nat} (hx:iU (jA p.boxes.xs point k b) < x) :
  ZA (bI p point k b) (xk (bI p point k b) g x (bI p point k b).boxes.xs):=by
 have Ie:=ZM ok hp h;obtain ⟨w,s⟩:=ZL (xX ok) hp h;have hd:=Ho hm (FH Ie);have ES:(bI p point k b).boxes.xs.length=p.boxes.xs.length:=Rk ..;have xm:(bI p point k b).boxes.xs=jA p.boxes.xs point k b:=rfl;have hfx:(bI p point k b).facts.xs=p.facts.xs:=rfl;obtain ⟨pts,hs⟩:∃ pts,fZ p pts:=by
  have:=zjm ok h1;rw [e1] at this;exact Classical.byContradiction fun hc=>by simpa using this.2 hc
 have hpg:point∈g:=by
  refine Classical.byContradiction fun hc=>?_
  have AQ:point < pts.length:=by rw [hs.len];exact hp
  refine ry (pts.set point ⟨(jf p.boxes.xs[point]! b k).x.lo,(jf p.boxes.xs[point]! b k).y.lo⟩) ⟨by rw [ES,List.length_set];exact hs.len,fun i h1 h2=>?_,fun f hf=>?_⟩
  .have IW:i < p.boxes.xs.length:=by rw [<- ES];exact h2
   have bV:i < (jA p.boxes.xs point k b).length:=by rw [Rk];exact IW
   have hw:=w _ (List.getElem_mem bV);show bF _ ((jA p.boxes.xs point k b)[i]'bV)
   by_cases e:point=i
   .subst e;have e1:(jA p.boxes.xs point k b)[point]'bV=jf p.boxes.xs[point]! b k:=by simp [jA]
    rw [e1] at hw ⊢;rw [List.getElem_set_self];unfold ja at hw;unfold bF;simp only;omega
   .have e1:(jA p.boxes.xs point k b)[i]'bV=p.boxes.xs[i]:=by
     simp only [jA];rw [List.getElem_set_ne e]
    rw [e1,List.getElem_set_ne e];exact hs.y8 i (by simpa using h1) IW
  .obtain ⟨Gz,Df⟩:=bK.1 hf;have pI:=hd.within f Gz g hg Df;have key:∀ j∈g,((pts.set point ⟨(jf p.boxes.xs[point]! b k).x.lo,(jf p.boxes.xs[point]! b k).y.lo⟩).map bf)[j]! = (pts.map bf)[j]! := fun j hj=>by
    have bC:point≠j:=fun e=>hc (e ▸ hj);simp only [List.map_set,List.getElem!_eq_getElem?_getD,List.getElem?_set_ne bC]
   rw [LJ ⟨key _ pI.a,key _ pI.b,fun h=>key _ (pI.c h)⟩];exact hs.facts f Gz
 have pM:=zkz Ie hd hg ry
 refine znQ Ie hd hg ry (zpR (p:=p) Ie hd hg hs ES (fun j hj Ic=>?_) fun f' wD X9=>hs.facts f' wD) (fun x hw Bd bu=>?_) J9 hx
 .have bC:point≠j:=fun e=>Ic (e ▸ hpg);rw [xm];unfold jA;simp only [List.getElem!_eq_getElem?_getD,List.getElem?_set_ne bC]
 .rw [ES] at hm hg;exact zsi ok h1 hm hg pM x hw (Bd.trans s) bu
instance:Inhabited fB:=⟨⟨[],0,[],none⟩⟩
theorem zlX {pt:Nat}:∀ (ss:List fB) (a j:Nat) (hj:j < ss.length),pt∈ss[j].part->(∀ j' (h:j' < ss.length),j' < j->pt ∉ ss[j'].part)->zZ pt ss a=(Ov ss[j] (ss[j].part.idxOf pt),((a+j:Nat):Int),((ss[j].part.idxOf pt:Nat):Int))
 | [],a,j,hj,_,_=>by simp at hj
 | s::ss,a,0,hj,hm,_=>by
  have EO:pt∈s.part:=hm;unfold zZ;rw [if_pos EO];rfl
 | s::ss,a,j+1,hj,hm,hn=>by
  have h0:pt ∉ s.part:=hn 0 (by simp) (by omega);unfold zZ;rw [if_neg h0];have:=zlX ss (a+1) j (by simpa using hj) hm (fun j' h o8=>hn (j'+1) (by simpa using h) (by omega));rw [this];have e:a+1+j=a+(j+1):=by omega
  rw [e];rfl
def Xp (q:Pt) (t:Nat):Int:=if t < 2 then q.x else q.y
def uz (b:Box) (t:Nat):Int:=match t with
 | 0=>b.x.lo
 | 1=>b.x.hi
 | 2=>b.y.lo
 | _=>b.y.hi
def sZ (D:aN) (n0:Nat) (cs:Nat->List (List Pt)) (t:Nat):List Pt:=uy D n0 (cs t) D.aa.length
structure OU (p:Problem) (D:aN) (point j k0:Nat) (c:Nat->List Pt) (cs:Nat->List (List Pt)):Prop where
 hj:j < D.aa.length
 h1:(zZ point D.aa 0).2.1=(j:Int)
 h2:(zZ point D.aa 0).2.2=(k0:Int)
 kl:k0 < D.aa[j]!.part.length
 len:D.aa[j]!.ends.length=4*D.aa[j]!.part.length
 few:D.aa[j]!.part.length<=12
 ends:∀ t,t < 4->D.aa[j]!.ends[4*k0+t]! = some (c t)
 ZN:∀ t,t < 4->EE D p.boxes.xs.length (cs t) j (.mk false (c t))
 Xq:∀ t,t < 4->fZ p (sZ D p.boxes.xs.length cs t)
 side:∀ t,t < 4->Xp (sZ D p.boxes.xs.length cs t)[point]! t=uz (zZ point D.aa 0).1 t
theorem zuE {p:Problem} (ok:ak p) {D:aN} {l:List Box} {gs:List (List Nat)} (h:lJ p D l gs) (he:D.empty=false) {i:Nat} (hi:i < p.boxes.xs.length):∃ j k0 c cs,OU p D i j k0 c cs:=by
 have Dh:l.length=p.boxes.xs.length:=h.BA.1.sub.1;have TJ:∀ g∈gs,(zW p.facts.xs l g).n≠0:=fun g hg e=>by
  have:D.empty=true:=by rw [h.empty,iJ,h.aa];exact ⟨_,List.mem_map.2 ⟨g,hg,rfl⟩,e⟩
  rw [this] at he;simp at he
 obtain ⟨g,hg,xW⟩:=List.mem_flatten.1 ((h.div.all i).1 (by rw [Dh];exact hi));obtain ⟨j,Ic,rfl⟩:=List.mem_iff_getElem.1 hg;have Ah:D.aa.length=gs.length:=by rw [h.aa,List.length_map]
 have KM:∀ i (h1:i < D.aa.length) (h':i < gs.length),D.aa[i]=zW p.facts.xs l gs[i]:=fun i h1 h'=>by simp only [h.aa,List.getElem_map]
 have uS:j < D.aa.length:=by omega
 have ZO:D.aa[j]! = zW p.facts.xs l gs[j]:=by rw [getElem!_pos D.aa j uS];exact KM j uS Ic
 have yh:(zW p.facts.xs l gs[j]).part=gs[j]:=OP _ _ _;have ho:=h.seen _ hg;have hn:=TJ _ hg;have hlen:=ho.len;have sw:=zlX (pt:=i) D.aa 0 j uS (by rw [KM j uS Ic,yh];exact xW) (fun j' h1 h2 hm=>by
  rw [KM j' h1 (by omega),OP] at hm;exact List.pairwise_iff_getElem.1 (List.pairwise_flatten.1 h.div.nodup).2 j' j (by omega) Ic h2 i hm i xW rfl)
 have hk:=List.idxOf_lt_length_of_mem xW;have Hr:gs[j][gs[j].idxOf i]=i:=List.getElem_idxOf hk;have bn:=h.div.one _ hg;have ql:∀ g∈gs,∃ c∈jd p.facts.xs l g,(zW p.facts.xs l g).first=some c:=fun g hg=>(h.seen g hg).first (TJ g hg);obtain ⟨cs0,Xr⟩:∃ cs:List (List Pt),cs=gs.map fun g=>(zW p.facts.xs l g).first.getD []:=⟨_,rfl⟩
 have bW:cs0.length=gs.length:=by rw [Xr,List.length_map]
 have GX:∀ i (h:i < gs.length) (h':i < cs0.length),cs0[i]∈jd p.facts.xs l gs[i]/\(zW p.facts.xs l gs[i]).first=some cs0[i]:=fun i h h'=>by
  obtain ⟨c,hc,hf⟩:=ql _ (List.getElem_mem h);have e:cs0[i]=c:=by simp only [Xr,List.getElem_map,hf,Option.getD_some]
  rw [e];exact ⟨hc,hf⟩
 have hex:∀ t,∃ c,t < 4->c∈jd p.facts.xs l gs[j]/\(zW p.facts.xs l gs[j]).ends[4*gs[j].idxOf i+t]! = some c:=fun t=>by
  by_cases ht:t < 4
  .have hj4:4*gs[j].idxOf i+t < (zW p.facts.xs l gs[j]).ends.length:=by omega
   obtain ⟨c,hc,h1,_⟩:=ho.ends hn _ hj4;exact ⟨c,fun _=>⟨hc,by rw [getElem!_pos (zW p.facts.xs l gs[j]).ends _ hj4];exact h1⟩⟩
  .exact ⟨[],fun h=>absurd h ht⟩
 obtain ⟨c,hc⟩:∃ c:Nat->List Pt,∀ t,t < 4->c t∈jd p.facts.xs l gs[j]/\(zW p.facts.xs l gs[j]).ends[4*gs[j].idxOf i+t]! = some (c t):=⟨fun t=>(hex t).choose,fun t ht=>(hex t).choose_spec ht⟩
 have JW:∀ (g:List Nat),g∈gs->∀ x∈jd p.facts.xs l g,x.length=g.length:=fun g hg x hx=>((Kq (h.div.one g hg).1 (fun f hf ha=>h.div.within f hf g hg ha)).1 hx).1.1;have pQ:∀ t,t < 4->cs0.set j (c t)∈LP (gs.map (jd p.facts.xs l)):=fun t ht=>jF.2 ⟨by simp [bW],fun k a b=>by
  simp only [List.getElem_map]
  by_cases e:j=k
  .subst e;rw [List.getElem_set_self];exact (hc t ht).1
  .rw [List.getElem_set_ne e];exact (GX k (by simpa using a) (by simpa using b)).1⟩
 have hp:D.aa.map (·.part)=gs:=by
  rw [h.aa,List.map_map]
  refine List.ext_getElem (by simp) fun i h1 h2=>?_
  simp only [List.getElem_map,Function.comp_apply,OP]
 have lS:∀ t,t < 4->sZ D p.boxes.xs.length (fun t=>cs0.set j (c t)) t=xe gs (cs0.set j (c t)) (List.replicate p.boxes.xs.length ⟨0,0⟩):=fun t ht=>by
  unfold sZ uy;rw [hp,List.take_of_length_le (by omega),List.take_of_length_le (by simp;omega)]
 have OV:∀ t (ht:t < 4),fZ p (sZ D p.boxes.xs.length (fun t=>cs0.set j (c t)) t)/\pick (sZ D p.boxes.xs.length (fun t=>cs0.set j (c t)) t) gs[j]=c t:=fun t ht=>by
  have sD:=YP h.div (pQ t ht) (p0:=List.replicate p.boxes.xs.length ⟨0,0⟩) (by simp [Dh]);rw [lS t ht]
  refine ⟨Ze h.BA.1.sub sD.1,?_⟩
  have h2:=sD.2;have h3:(gs.map (pick (xe gs (cs0.set j (c t)) (List.replicate p.boxes.xs.length ⟨0,0⟩))))[j]'(by simpa using Ic)=(cs0.set j (c t))[j]'(by simp;omega):=by simp only [h2]
  rw [List.getElem_map,List.getElem_set_self] at h3;exact h3
 refine ⟨j,gs[j].idxOf i,c,fun t=>cs0.set j (c t),uS,by rw [sw];simp,by rw [sw,KM j uS Ic,yh],by rw [ZO,yh];exact hk,by rw [ZO,yh];exact hlen,by rw [ZO,yh];exact h.few.2 _ hg,fun t ht=>by rw [ZO];exact (hc t ht).2,fun t ht=>?_,fun t ht=>(OV t ht).1,fun t ht=>?_⟩
 .refine ⟨ok.nb,by have:=h.few.1;omega,by simp;omega,fun i' h1 h2 bC=>?_,fun i' h1 h2 F3=>?_,fun s hs=>?_,fun i' h1 h2=>?_⟩
  .rw [KM i' h1 (by omega),List.getElem_set_ne (by omega)];exact (GX i' (by omega) (by omega)).2
  .have e:j=i':=by omega
   subst e;rw [List.getElem_set_self]
  .rw [h.aa] at hs;obtain ⟨g',tq,rfl⟩:=List.mem_map.1 hs;rw [OP];exact ⟨h.few.2 g' tq,fun k hk=>by rw [<- Dh];exact (h.div.one g' tq).2 k hk⟩
  .rw [KM i' h1 (by omega),OP]
   by_cases e:j=i'
   .subst e;rw [List.getElem_set_self];exact JW _ hg _ (hc t ht).1
   .rw [List.getElem_set_ne e];exact JW _ (List.getElem_mem _) _ (GX i' (by omega) (by omega)).1
 .obtain ⟨hs,CW⟩:=OV t ht;have Jh:gs[j].idxOf i < (c t).length:=by rw [JW _ hg _ (hc t ht).1];exact hk
  have hv:(c t)[gs[j].idxOf i]=(sZ D p.boxes.xs.length (fun t=>cs0.set j (c t)) t)[i]! := by
   have:(c t)[gs[j].idxOf i]=(pick (sZ D p.boxes.xs.length (fun t=>cs0.set j (c t)) t) gs[j])[gs[j].idxOf i]'(by simpa [pick] using hk):=by simp only [CW]
   rw [this];simp only [pick,List.getElem_map,Hr]
  have he4:xh (zW p.facts.xs l gs[j]) (4*gs[j].idxOf i+t) (gs[j].idxOf i)=(sZ D p.boxes.xs.length (fun t=>cs0.set j (c t)) t)[i]! := by
   unfold xh;rw [(hc t ht).2,<- hv];exact getElem!_pos (c t) _ Jh
  rw [sw,KM j uS Ic,yh,<- he4];have uk:t=0\/t=1\/t=2\/t=3:=by omega
  rcases uk with rfl|rfl|rfl|rfl<;>rfl
structure OW (p:Problem) (point:Nat) (b:Box) (gs:Nat->List (List Nat)) (k:Nat->Nat):Prop where
 gi:∀ t,t < 4->zP p.boxes.xs[point]! b t=true->jX (bI p point t b) (gs t) (k t)
 mu:∀ t,t < 4->zP p.boxes.xs[point]! b t=true->iU (bI p point t b).boxes.xs<=600
 tr:∀ t,t < 4->zP p.boxes.xs[point]! b t=true->ZA (bI p point t b) (OO (bI p point t b) (gs t) (k t))
def rM (p:Problem) (point:Nat) (b:Box) (gs:Nat->List (List Nat)) (k:Nat->Nat) (t:Nat):List Node:=if zP p.boxes.xs[point]! b t=true then OO (bI p point t b) (gs t) (k t) else []
theorem zuv {p:Problem} (ok:ak p) (JX:pX p=true) {D:aN} (h1:fV p D 0) (e1:D.empty=false) {point:Nat} {b:Box} (hp:point < p.boxes.xs.length) (hh:jU p point b):∃ gs k,OW p point b gs k:=by
 have few:=zwj ok JX;have J9:∀ t,zP p.boxes.xs[point]! b t=true->iU (bI p point t b).boxes.xs<=600:=fun t h=>JL.mu (by show (jA p.boxes.xs point t b).length<=5;rw [Rk];exact few.nb) (zo8 (xX ok) hp h few.side);have hex:∀ t,∃ gs k,t < 4->zP p.boxes.xs[point]! b t=true->jX (bI p point t b) gs k/\ZA (bI p point t b) (OO (bI p point t b) gs k):=fun t=>by
  by_cases hc:t < 4/\zP p.boxes.xs[point]! b t=true
  case neg=>exact ⟨[],0,fun h1 h2=>absurd ⟨h1,h2⟩ hc⟩
  obtain ⟨ht,hs⟩:=hc;have Ie:=ZM ok hp hs;obtain ⟨m,gs,k,hm,wJ,gi⟩:=zq6 Ie (by show (jA p.boxes.xs point t b).length<=5;rw [Rk];exact few.nb) (zo8 (xX ok) hp hs few.side) (zrO ok hp ht hs hh);have pQ:gs[k]! ∈ zK m (bI p point t b).boxes.xs.length:=by rw [<- wJ,getElem!_pos gs k gi.lt];exact List.getElem_mem gi.lt
  exact ⟨gs,k,fun _ _=>⟨gi,zrg ok h1 e1 hp hs hm pQ gi.no (J9 t hs) (Nat.lt_succ_self _)⟩⟩
 refine ⟨fun t=>(hex t).choose,fun t=>(hex t).choose_spec.choose,⟨fun t ht hs=>((hex t).choose_spec.choose_spec ht hs).1,fun t _ hs=>J9 t hs,fun t ht hs=>((hex t).choose_spec.choose_spec ht hs).2⟩⟩
set_option maxHeartbeats 8000000
set_option maxRecDepth 4000
structure Xt (p:Problem) (pt k:Nat) (b:Box):Prop where
 hp:pt < p.boxes.xs.length
 hl:p.boxes.xs.length < 1000
 hk:k < 4
 hs:pJ (uz b k)
theorem sh55:G.shared 55=false:=by decide
theorem e55 (n:Nat) (p:Problem) (pt k:Nat) (b:Box) (h:Xt p pt k b):zF G (n+2) 55 [.agg p.cells,.int .i64 (pt:Nat),.int .i64 (k:Nat),.agg b.cells]=some (.aQ [.agg (bI p pt k b).cells,.bool (zP p.boxes.xs[pt]! b k)]):=by
 refine zy (zx _) rfl g55 rfl ?_
 obtain ⟨hp,hl,hk,hs⟩:=h;have hpI:(pt:Int) < p.boxes.xs.length:=by omega
 obtain ⟨bs,fs⟩:=p;have tC:pt < bs.xs.length:=hp;have NK:bs.xs.length < 1000:=hl;have ho:=Fq n;have ho2:=GI n;have bC:bs.xs≠[]:=fun e=>by rw [e] at tC;simp at tC
 have bD:(bI ⟨bs,fs⟩ pt k b).cells=[(Sl.mk false (bs.xs.set pt (jf bs.xs[pt] b k))).pv Box.cells 4,fs.pv Fact.cells 9]:=by
  unfold bI jA;simp only [Problem.cells];rw [getElem!_pos bs.xs pt tC]
 have tK:zP (Problem.mk bs fs).boxes.xs[pt]! b k=zP bs.xs[pt] b k:=by
  show zP bs.xs[pt]! b k=_;rw [getElem!_pos bs.xs pt tC]
 rw [bD,tK];clear bD tK hp hl;have nE:k=0\/k=1\/k=2\/k=3:=by omega
 rcases nE with rfl|rfl|rfl|rfl
 .unfold pJ uz at hs;simp only at hs;have w1:IntKind.i64.wrap (b.x.lo - 1)=b.x.lo - 1:=wrap64 (by omega) (by omega);have hB:jf bs.xs[pt] b 0=⟨⟨bs.xs[pt].x.lo,(min bs.xs[pt].x.hi (b.x.lo - 1))⟩,bs.xs[pt].y⟩:=by simp [jf,mr,bA]
  have hS:zP bs.xs[pt] b 0=decide (bs.xs[pt].x.lo<=min bs.xs[pt].x.hi (b.x.lo - 1)):=by unfold zP;rw [hB];simp [bA]
  rw [hB,hS];have pin:=Vq tC;(repeat' first|simp [*,zb,c55,Problem.cells,Box.cells,Span.cells]|(apply za<;>intro _ h<;>try simp [-Nat.le_zero_eq] at h))
  refine Gn NK ?_
  intro B H1 GJ GN bU ah aS;obtain ⟨fJ,rfl,hg⟩:=GJ.row bC;have hr:=aS fJ ⟨_,_,_,rfl⟩;simp at hr bU;have k0:H1.get 0=.cells true [.pure (bs.pv Box.cells 4),.pure (fs.pv Fact.cells 9)]:=by rw [ah 0 (by simp)];simp
  have k1:=ah 1 (by simp);simp at k1;have vW:=zo hg;have wE:fJ≠0:=by omega
  have uV:fJ≠1:=by omega
  have EF:0≠fJ:=by omega
  have Rl:1≠fJ:=by omega
  have qU:0 < H1.nx:=by omega
  have vJ:1 < H1.nx:=by omega
  have wz:IntKind.i64.wrap 0=0:=by decide
  have wo:IntKind.i64.wrap 1=1:=by decide
  have td:Int.tdiv 0 2=0:=by decide
  have tm:Int.tmod 0 2=0:=by decide
  clear GJ GN ah aS;have e3:pt*4+2+1=pt*4+3:=rfl;obtain ⟨ids,iw⟩:=(fun w o o2=>FrzK.fQ (n:=10) (.cons (sI (n:=8) (f:=Box.cells) (sz:=4) (l:=bs.xs.set pt w) (m:=bs.xs.length) (fun _=>rfl) (by rw [zg uV,zn (by rw [lM];exact vW)]) (by simp)) (.cons (.pure (fs.pv Fact.cells 9)) .nil)) :
   ∀ (w:Box) (o o2:aP),FrzK (((H1.set 0 o).set fJ (.cells true (zq Box.cells (bs.xs.set pt w)))).set 1 o2) false 11 (fQ [.row fJ 4 0 bs.xs.length,.pure (fs.pv Fact.cells 9)]) (.agg [(Sl.mk false (bs.xs.set pt w)).pv Box.cells 4,fs.pv Fact.cells 9])) ⟨⟨bs.xs[pt].x.lo,(min bs.xs[pt].x.hi (b.x.lo - 1))⟩,bs.xs[pt].y⟩ (.cells true [.row fJ 4 0 bs.xs.length,.pure (fs.pv Fact.cells 9)]) (.cells true [.row fJ 4 0 bs.xs.length,.pure (fs.pv Fact.cells 9)])
  (repeat' first|simp [*,zb,Box.cells,Span.cells]|(apply za<;>intro _ h<;>try simp [-Nat.le_zero_eq] at h))
 .unfold pJ uz at hs;simp only at hs;have w1:IntKind.i64.wrap (b.x.hi+1)=b.x.hi+1:=wrap64 (by omega) (by omega);have hB:jf bs.xs[pt] b 1=⟨⟨(max bs.xs[pt].x.lo (b.x.hi+1)),bs.xs[pt].x.hi⟩,bs.xs[pt].y⟩:=by simp [jf,mr,bA]
  have hS:zP bs.xs[pt] b 1=decide (max bs.xs[pt].x.lo (b.x.hi+1)<=bs.xs[pt].x.hi):=by unfold zP;rw [hB];simp [bA]
  rw [hB,hS];have pin:=Vp tC;(repeat' first|simp [*,zb,c55,Problem.cells,Box.cells,Span.cells]|(apply za<;>intro _ h<;>try simp [-Nat.le_zero_eq] at h))
  refine Gn NK ?_
  intro B H1 GJ GN bU ah aS;obtain ⟨fJ,rfl,hg⟩:=GJ.row bC;have hr:=aS fJ ⟨_,_,_,rfl⟩;simp at hr bU;have k0:H1.get 0=.cells true [.pure (bs.pv Box.cells 4),.pure (fs.pv Fact.cells 9)]:=by rw [ah 0 (by simp)];simp
  have k1:=ah 1 (by simp);simp at k1;have vW:=zo hg;have wE:fJ≠0:=by omega
  have uV:fJ≠1:=by omega
  have EF:0≠fJ:=by omega
  have Rl:1≠fJ:=by omega
  have qU:0 < H1.nx:=by omega
  have vJ:1 < H1.nx:=by omega
  have wz:IntKind.i64.wrap 0=0:=by decide
  have wo:IntKind.i64.wrap 1=1:=by decide
  have td:Int.tdiv 1 2=0:=by decide
  have tm:Int.tmod 1 2=1:=by decide
  clear GJ GN ah aS;have e3:pt*4+2+1=pt*4+3:=rfl;obtain ⟨ids,iw⟩:=(fun w o o2=>FrzK.fQ (n:=10) (.cons (sI (n:=8) (f:=Box.cells) (sz:=4) (l:=bs.xs.set pt w) (m:=bs.xs.length) (fun _=>rfl) (by rw [zg uV,zn (by rw [lM];exact vW)]) (by simp)) (.cons (.pure (fs.pv Fact.cells 9)) .nil)) :
   ∀ (w:Box) (o o2:aP),FrzK (((H1.set 0 o).set fJ (.cells true (zq Box.cells (bs.xs.set pt w)))).set 1 o2) false 11 (fQ [.row fJ 4 0 bs.xs.length,.pure (fs.pv Fact.cells 9)]) (.agg [(Sl.mk false (bs.xs.set pt w)).pv Box.cells 4,fs.pv Fact.cells 9])) ⟨⟨(max bs.xs[pt].x.lo (b.x.hi+1)),bs.xs[pt].x.hi⟩,bs.xs[pt].y⟩ (.cells true [.row fJ 4 0 bs.xs.length,.pure (fs.pv Fact.cells 9)]) (.cells true [.row fJ 4 0 bs.xs.length,.pure (fs.pv Fact.cells 9)])
  (repeat' first|simp [*,zb,Box.cells,Span.cells]|(apply za<;>intro _ h<;>try simp [-Nat.le_zero_eq] at h))
 .unfold pJ uz at hs;simp only at hs;have w1:IntKind.i64.wrap (b.y.lo - 1)=b.y.lo - 1:=wrap64 (by omega) (by omega);have hB:jf bs.xs[pt] b 2=⟨bs.xs[pt].x,⟨bs.xs[pt].y.lo,(min bs.xs[pt].y.hi (b.y.lo - 1))⟩⟩:=by simp [jf,mr,bA]
  have hS:zP bs.xs[pt] b 2=decide (bs.xs[pt].y.lo<=min bs.xs[pt].y.hi (b.y.lo - 1)):=by unfold zP;rw [hB];simp [bA]
  rw [hB,hS];have pin:=Vs tC;(repeat' first|simp [*,zb,c55,Problem.cells,Box.cells,Span.cells]|(apply za<;>intro _ h<;>try simp [-Nat.le_zero_eq] at h))
  refine Gn NK ?_
  intro B H1 GJ GN bU ah aS;obtain ⟨fJ,rfl,hg⟩:=GJ.row bC;have hr:=aS fJ ⟨_,_,_,rfl⟩;simp at hr bU;have k0:H1.get 0=.cells true [.pure (bs.pv Box.cells 4),.pure (fs.pv Fact.cells 9)]:=by rw [ah 0 (by simp)];simp
  have k1:=ah 1 (by simp);simp at k1;have vW:=zo hg;have wE:fJ≠0:=by omega
  have uV:fJ≠1:=by omega
  have EF:0≠fJ:=by omega
  have Rl:1≠fJ:=by omega
  have qU:0 < H1.nx:=by omega
  have vJ:1 < H1.nx:=by omega
  have wz:IntKind.i64.wrap 0=0:=by decide
  have wo:IntKind.i64.wrap 1=1:=by decide
  have td:Int.tdiv 2 2=1:=by decide
  have tm:Int.tmod 2 2=0:=by decide
  clear GJ GN ah aS;have e3:pt*4+2+1=pt*4+3:=rfl;obtain ⟨ids,iw⟩:=(fun w o o2=>FrzK.fQ (n:=10) (.cons (sI (n:=8) (f:=Box.cells) (sz:=4) (l:=bs.xs.set pt w) (m:=bs.xs.length) (fun _=>rfl) (by rw [zg uV,zn (by rw [lM];exact vW)]) (by simp)) (.cons (.pure (fs.pv Fact.cells 9)) .nil)) :
   ∀ (w:Box) (o o2:aP),FrzK (((H1.set 0 o).set fJ (.cells true (zq Box.cells (bs.xs.set pt w)))).set 1 o2) false 11 (fQ [.row fJ 4 0 bs.xs.length,.pure (fs.pv Fact.cells 9)]) (.agg [(Sl.mk false (bs.xs.set pt w)).pv Box.cells 4,fs.pv Fact.cells 9])) ⟨bs.xs[pt].x,⟨bs.xs[pt].y.lo,(min bs.xs[pt].y.hi (b.y.lo - 1))⟩⟩ (.cells true [.row fJ 4 0 bs.xs.length,.pure (fs.pv Fact.cells 9)]) (.cells true [.row fJ 4 0 bs.xs.length,.pure (fs.pv Fact.cells 9)])
  (repeat' first|simp [*,zb,Box.cells,Span.cells]|(apply za<;>intro _ h<;>try simp [-Nat.le_zero_eq] at h))
 .unfold pJ uz at hs;simp only at hs;have w1:IntKind.i64.wrap (b.y.hi+1)=b.y.hi+1:=wrap64 (by omega) (by omega);have hB:jf bs.xs[pt] b 3=⟨bs.xs[pt].x,⟨(max bs.xs[pt].y.lo (b.y.hi+1)),bs.xs[pt].y.hi⟩⟩:=by simp [jf,mr,bA]
  have hS:zP bs.xs[pt] b 3=decide (max bs.xs[pt].y.lo (b.y.hi+1)<=bs.xs[pt].y.hi):=by unfold zP;rw [hB];simp [bA]
  rw [hB,hS];have pin:=Vr tC;(repeat' first|simp [*,zb,c55,Problem.cells,Box.cells,Span.cells]|(apply za<;>intro _ h<;>try simp [-Nat.le_zero_eq] at h))
  refine Gn NK ?_
  intro B H1 GJ GN bU ah aS;obtain ⟨fJ,rfl,hg⟩:=GJ.row bC;have hr:=aS fJ ⟨_,_,_,rfl⟩;simp at hr bU;have k0:H1.get 0=.cells true [.pure (bs.pv Box.cells 4),.pure (fs.pv Fact.cells 9)]:=by rw [ah 0 (by simp)];simp
  have k1:=ah 1 (by simp);simp at k1;have vW:=zo hg;have wE:fJ≠0:=by omega
  have uV:fJ≠1:=by omega
  have EF:0≠fJ:=by omega
  have Rl:1≠fJ:=by omega
  have qU:0 < H1.nx:=by omega
  have vJ:1 < H1.nx:=by omega
  have wz:IntKind.i64.wrap 0=0:=by decide
  have wo:IntKind.i64.wrap 1=1:=by decide
  have td:Int.tdiv 3 2=1:=by decide
  have tm:Int.tmod 3 2=1:=by decide
  clear GJ GN ah aS;have e3:pt*4+2+1=pt*4+3:=rfl;obtain ⟨ids,iw⟩:=(fun w o o2=>FrzK.fQ (n:=10) (.cons (sI (n:=8) (f:=Box.cells) (sz:=4) (l:=bs.xs.set pt w) (m:=bs.xs.length) (fun _=>rfl) (by rw [zg uV,zn (by rw [lM];exact vW)]) (by simp)) (.cons (.pure (fs.pv Fact.cells 9)) .nil)) :
   ∀ (w:Box) (o o2:aP),FrzK (((H1.set 0 o).set fJ (.cells true (zq Box.cells (bs.xs.set pt w)))).set 1 o2) false 11 (fQ [.row fJ 4 0 bs.xs.length,.pure (fs.pv Fact.cells 9)]) (.agg [(Sl.mk false (bs.xs.set pt w)).pv Box.cells 4,fs.pv Fact.cells 9])) ⟨bs.xs[pt].x,⟨(max bs.xs[pt].y.lo (b.y.hi+1)),bs.xs[pt].y.hi⟩⟩ (.cells true [.row fJ 4 0 bs.xs.length,.pure (fs.pv Fact.cells 9)]) (.cells true [.row fJ 4 0 bs.xs.length,.pure (fs.pv Fact.cells 9)])
  (repeat' first|simp [*,zb,Box.cells,Span.cells]|(apply za<;>intro _ h<;>try simp [-Nat.le_zero_eq] at h))
structure JY (p:Problem) (pt k:Nat) (b:Box):Prop where
 hp:pt < p.boxes.xs.length
 hl:p.boxes.xs.length < 1000
 hk:k < 4
 hs:pJ (uz b k)
 wf:ja p.boxes.xs[pt]!
 lo:(bA p.boxes.xs[pt]! (k / 2)).lo<=uz b k
 hi:uz b k<=(bA p.boxes.xs[pt]! (k / 2)).hi
theorem sh58:G.shared 58=false:=by decide
theorem e58 (n:Nat) (p:Problem) (pt k:Nat) (b:Box) (h:JY p pt k b):zF G (n+2) 58 [.agg p.cells,.int .i64 (pt:Nat),.agg b.cells,.int .i64 (k:Nat)]=some (.aQ [.agg (bI p pt k b).cells,.bool (zP p.boxes.xs[pt]! b k)]):=by
 refine zy (zx _) rfl g58 rfl ?_
 obtain ⟨hp,hl,hk,hs,Ez,iG,uQ⟩:=h;have hpI:(pt:Int) < p.boxes.xs.length:=by omega
 obtain ⟨bs,fs⟩:=p;have tC:pt < bs.xs.length:=hp;have NK:bs.xs.length < 1000:=hl;have bC:bs.xs≠[]:=fun e=>by rw [e] at tC;simp at tC
 have bD:(bI ⟨bs,fs⟩ pt k b).cells=[(Sl.mk false (bs.xs.set pt (jf bs.xs[pt] b k))).pv Box.cells 4,fs.pv Fact.cells 9]:=by
  unfold bI jA;simp only [Problem.cells];rw [getElem!_pos bs.xs pt tC]
 have tK:zP (Problem.mk bs fs).boxes.xs[pt]! b k=zP bs.xs[pt] b k:=by
  show zP bs.xs[pt]! b k=_;rw [getElem!_pos bs.xs pt tC]
 have JV:ja bs.xs[pt]:=by have h1:ja bs.xs[pt]! := Ez;rwa [getElem!_pos bs.xs pt tC] at h1
 have uC:(bA bs.xs[pt] (k / 2)).lo<=uz b k:=by have h1:(bA bs.xs[pt]! (k / 2)).lo<=uz b k:=iG;rwa [getElem!_pos bs.xs pt tC] at h1
 have uD:uz b k<=(bA bs.xs[pt] (k / 2)).hi:=by have h1:uz b k<=(bA bs.xs[pt]! (k / 2)).hi:=uQ;rwa [getElem!_pos bs.xs pt tC] at h1
 rw [bD,tK];clear bD tK hp hl Ez iG uQ;have nE:k=0\/k=1\/k=2\/k=3:=by omega
 rcases nE with rfl|rfl|rfl|rfl
 .unfold pJ uz at hs;unfold uz at uC uD;unfold ja at JV;simp only [bA] at hs uC uD;simp at uC uD;have w1:IntKind.i64.wrap (b.x.lo - 1)=(b.x.lo - 1):=wrap64 (by omega) (by omega);have hm:min bs.xs[pt].x.hi (b.x.lo - 1)=(b.x.lo - 1):=by omega
  have hB:jf bs.xs[pt] b 0=⟨⟨bs.xs[pt].x.lo,(b.x.lo - 1)⟩,bs.xs[pt].y⟩:=by simp [jf,mr,bA];omega
  have hS:zP bs.xs[pt] b 0=decide (bs.xs[pt].x.lo<=(b.x.lo - 1)):=by unfold zP;rw [hB];simp [bA]
  have Rn:bs.xs[pt].y.lo<=bs.xs[pt].y.hi:=by omega
  rw [hB,hS];have pin:=Vq tC;(repeat' first|simp [*,zb,c58,Problem.cells,Box.cells,Span.cells]|(apply za<;>intro _ h<;>try simp [-Nat.le_zero_eq] at h))
  refine Yo (f:=Box.cells) (sz:=4) (l:=bs.xs) (J8 (f:=Box.cells) (sz:=4) (fun _=>rfl) _) (by simp) (fun _=>rfl) (by simp only [zu];omega) ?_
  intro v H1 hv bU ah aS;obtain ⟨fJ,rfl,hg⟩:=hv.row bC;have hr:=aS fJ ⟨_,_,_,rfl⟩;simp at hr bU;have k1:=ah 0 (by simp);simp at k1;have vW:=zo hg;have wE:fJ≠0:=by rcases hr with h|h<;>omega
  have EF:0≠fJ:=by omega
  have qU:0 < H1.nx:=by omega
  have WZ:fJ≠H1.nx:=by omega
  have Ro:H1.nx≠fJ:=by omega
  have ZH:0≠H1.nx:=by omega
  have Rq:H1.nx≠0:=by omega
  have e3:pt*4+2+1=pt*4+3:=rfl;have EG:fJ < H1.nx+1:=by omega
  have vJ:0 < H1.nx+1:=by omega
  clear hv ah aS bU;obtain ⟨ids,iw⟩:=(fun w o o1 o2=>FrzK.fQ (n:=10) (.cons (sI (n:=8) (f:=Box.cells) (sz:=4) (l:=bs.xs.set pt w) (m:=bs.xs.length) (fun _=>rfl) (by rw [zg wE,zn (by rw [lM,qp];exact EG)]) (by simp)) (.cons (.pure (fs.pv Fact.cells 9)) .nil)) :
   ∀ (w:Box) (o o1 o2:aP),FrzK ((((H1.alloc o).set H1.nx o1).set fJ (.cells true (zq Box.cells (bs.xs.set pt w)))).set 0 o2) false 11 (fQ [.row fJ 4 0 bs.xs.length,.pure (fs.pv Fact.cells 9)]) (.agg [(Sl.mk false (bs.xs.set pt w)).pv Box.cells 4,fs.pv Fact.cells 9])) ⟨⟨bs.xs[pt].x.lo,(b.x.lo - 1)⟩,bs.xs[pt].y⟩ (.cells true [.pure .nils,.pure .nils]) (.cells true [.row fJ 4 0 bs.xs.length,.pure (fs.pv Fact.cells 9)]) (.cells true [.row fJ 4 0 bs.xs.length,.pure (fs.pv Fact.cells 9)])
  (repeat' first|simp [*,zb,Box.cells,Span.cells]|(apply za<;>intro _ h<;>try simp [-Nat.le_zero_eq] at h))
 .unfold pJ uz at hs;unfold uz at uC uD;unfold ja at JV;simp only [bA] at hs uC uD;simp at uC uD;have w1:IntKind.i64.wrap (b.x.hi+1)=(b.x.hi+1):=wrap64 (by omega) (by omega);have hm:max bs.xs[pt].x.lo (b.x.hi+1)=(b.x.hi+1):=by omega
  have hB:jf bs.xs[pt] b 1=⟨⟨(b.x.hi+1),bs.xs[pt].x.hi⟩,bs.xs[pt].y⟩:=by simp [jf,mr,bA];omega
  have hS:zP bs.xs[pt] b 1=decide ((b.x.hi+1)<=bs.xs[pt].x.hi):=by unfold zP;rw [hB];simp [bA]
  have Rn:bs.xs[pt].y.lo<=bs.xs[pt].y.hi:=by omega
  rw [hB,hS];have pin:=Vp tC;(repeat' first|simp [*,zb,c58,Problem.cells,Box.cells,Span.cells]|(apply za<;>intro _ h<;>try simp [-Nat.le_zero_eq] at h))
  refine Yo (f:=Box.cells) (sz:=4) (l:=bs.xs) (J8 (f:=Box.cells) (sz:=4) (fun _=>rfl) _) (by simp) (fun _=>rfl) (by simp only [zu];omega) ?_
  intro v H1 hv bU ah aS;obtain ⟨fJ,rfl,hg⟩:=hv.row bC;have hr:=aS fJ ⟨_,_,_,rfl⟩;simp at hr bU;have k1:=ah 0 (by simp);simp at k1;have vW:=zo hg;have wE:fJ≠0:=by rcases hr with h|h<;>omega
  have EF:0≠fJ:=by omega
  have qU:0 < H1.nx:=by omega
  have WZ:fJ≠H1.nx:=by omega
  have Ro:H1.nx≠fJ:=by omega
  have ZH:0≠H1.nx:=by omega
  have Rq:H1.nx≠0:=by omega
  have e3:pt*4+2+1=pt*4+3:=rfl;have EG:fJ < H1.nx+1:=by omega
  have vJ:0 < H1.nx+1:=by omega
  clear hv ah aS bU;obtain ⟨ids,iw⟩:=(fun w o o1 o2=>FrzK.fQ (n:=10) (.cons (sI (n:=8) (f:=Box.cells) (sz:=4) (l:=bs.xs.set pt w) (m:=bs.xs.length) (fun _=>rfl) (by rw [zg wE,zn (by rw [lM,qp];exact EG)]) (by simp)) (.cons (.pure (fs.pv Fact.cells 9)) .nil)) :
   ∀ (w:Box) (o o1 o2:aP),FrzK ((((H1.alloc o).set H1.nx o1).set fJ (.cells true (zq Box.cells (bs.xs.set pt w)))).set 0 o2) false 11 (fQ [.row fJ 4 0 bs.xs.length,.pure (fs.pv Fact.cells 9)]) (.agg [(Sl.mk false (bs.xs.set pt w)).pv Box.cells 4,fs.pv Fact.cells 9])) ⟨⟨(b.x.hi+1),bs.xs[pt].x.hi⟩,bs.xs[pt].y⟩ (.cells true [.pure .nils,.pure .nils]) (.cells true [.row fJ 4 0 bs.xs.length,.pure (fs.pv Fact.cells 9)]) (.cells true [.row fJ 4 0 bs.xs.length,.pure (fs.pv Fact.cells 9)])
  (repeat' first|simp [*,zb,Box.cells,Span.cells]|(apply za<;>intro _ h<;>try simp [-Nat.le_zero_eq] at h))
 .unfold pJ uz at hs;unfold uz at uC uD;unfold ja at JV;simp only [bA] at hs uC uD;simp at uC uD;have w1:IntKind.i64.wrap (b.y.lo - 1)=(b.y.lo - 1):=wrap64 (by omega) (by omega);have hm:min bs.xs[pt].y.hi (b.y.lo - 1)=(b.y.lo - 1):=by omega
  have hB:jf bs.xs[pt] b 2=⟨bs.xs[pt].x,⟨bs.xs[pt].y.lo,(b.y.lo - 1)⟩⟩:=by simp [jf,mr,bA];omega
  have hS:zP bs.xs[pt] b 2=decide (bs.xs[pt].y.lo<=(b.y.lo - 1)):=by unfold zP;rw [hB];simp [bA]
  have Rn:bs.xs[pt].x.lo<=bs.xs[pt].x.hi:=by omega
  rw [hB,hS];have pin:=Vs tC;(repeat' first|simp [*,zb,c58,Problem.cells,Box.cells,Span.cells]|(apply za<;>intro _ h<;>try simp [-Nat.le_zero_eq] at h))
  refine Yo (f:=Box.cells) (sz:=4) (l:=bs.xs) (J8 (f:=Box.cells) (sz:=4) (fun _=>rfl) _) (by simp) (fun _=>rfl) (by simp only [zu];omega) ?_
  intro v H1 hv bU ah aS;obtain ⟨fJ,rfl,hg⟩:=hv.row bC;have hr:=aS fJ ⟨_,_,_,rfl⟩;simp at hr bU;have k1:=ah 0 (by simp);simp at k1;have vW:=zo hg;have wE:fJ≠0:=by rcases hr with h|h<;>omega
  have EF:0≠fJ:=by omega
  have qU:0 < H1.nx:=by omega
  have WZ:fJ≠H1.nx:=by omega
  have Ro:H1.nx≠fJ:=by omega
  have ZH:0≠H1.nx:=by omega
  have Rq:H1.nx≠0:=by omega
  have e3:pt*4+2+1=pt*4+3:=rfl;have EG:fJ < H1.nx+1:=by omega
  have vJ:0 < H1.nx+1:=by omega
  clear hv ah aS bU;obtain ⟨ids,iw⟩:=(fun w o o1 o2=>FrzK.fQ (n:=10) (.cons (sI (n:=8) (f:=Box.cells) (sz:=4) (l:=bs.xs.set pt w) (m:=bs.xs.length) (fun _=>rfl) (by rw [zg wE,zn (by rw [lM,qp];exact EG)]) (by simp)) (.cons (.pure (fs.pv Fact.cells 9)) .nil)) :
   ∀ (w:Box) (o o1 o2:aP),FrzK ((((H1.alloc o).set H1.nx o1).set fJ (.cells true (zq Box.cells (bs.xs.set pt w)))).set 0 o2) false 11 (fQ [.row fJ 4 0 bs.xs.length,.pure (fs.pv Fact.cells 9)]) (.agg [(Sl.mk false (bs.xs.set pt w)).pv Box.cells 4,fs.pv Fact.cells 9])) ⟨bs.xs[pt].x,⟨bs.xs[pt].y.lo,(b.y.lo - 1)⟩⟩ (.cells true [.pure .nils,.pure .nils]) (.cells true [.row fJ 4 0 bs.xs.length,.pure (fs.pv Fact.cells 9)]) (.cells true [.row fJ 4 0 bs.xs.length,.pure (fs.pv Fact.cells 9)])
  (repeat' first|simp [*,zb,Box.cells,Span.cells]|(apply za<;>intro _ h<;>try simp [-Nat.le_zero_eq] at h))
 .unfold pJ uz at hs;unfold uz at uC uD;unfold ja at JV;simp only [bA] at hs uC uD;simp at uC uD;have w1:IntKind.i64.wrap (b.y.hi+1)=(b.y.hi+1):=wrap64 (by omega) (by omega);have hm:max bs.xs[pt].y.lo (b.y.hi+1)=(b.y.hi+1):=by omega
  have hB:jf bs.xs[pt] b 3=⟨bs.xs[pt].x,⟨(b.y.hi+1),bs.xs[pt].y.hi⟩⟩:=by simp [jf,mr,bA];omega
  have hS:zP bs.xs[pt] b 3=decide ((b.y.hi+1)<=bs.xs[pt].y.hi):=by unfold zP;rw [hB];simp [bA]
  have Rn:bs.xs[pt].x.lo<=bs.xs[pt].x.hi:=by omega
  rw [hB,hS];have pin:=Vr tC;(repeat' first|simp [*,zb,c58,Problem.cells,Box.cells,Span.cells]|(apply za<;>intro _ h<;>try simp [-Nat.le_zero_eq] at h))
  refine Yo (f:=Box.cells) (sz:=4) (l:=bs.xs) (J8 (f:=Box.cells) (sz:=4) (fun _=>rfl) _) (by simp) (fun _=>rfl) (by simp only [zu];omega) ?_
  intro v H1 hv bU ah aS;obtain ⟨fJ,rfl,hg⟩:=hv.row bC;have hr:=aS fJ ⟨_,_,_,rfl⟩;simp at hr bU;have k1:=ah 0 (by simp);simp at k1;have vW:=zo hg;have wE:fJ≠0:=by rcases hr with h|h<;>omega
  have EF:0≠fJ:=by omega
  have qU:0 < H1.nx:=by omega
  have WZ:fJ≠H1.nx:=by omega
  have Ro:H1.nx≠fJ:=by omega
  have ZH:0≠H1.nx:=by omega
  have Rq:H1.nx≠0:=by omega
  have e3:pt*4+2+1=pt*4+3:=rfl;have EG:fJ < H1.nx+1:=by omega
  have vJ:0 < H1.nx+1:=by omega
  clear hv ah aS bU;obtain ⟨ids,iw⟩:=(fun w o o1 o2=>FrzK.fQ (n:=10) (.cons (sI (n:=8) (f:=Box.cells) (sz:=4) (l:=bs.xs.set pt w) (m:=bs.xs.length) (fun _=>rfl) (by rw [zg wE,zn (by rw [lM,qp];exact EG)]) (by simp)) (.cons (.pure (fs.pv Fact.cells 9)) .nil)) :
   ∀ (w:Box) (o o1 o2:aP),FrzK ((((H1.alloc o).set H1.nx o1).set fJ (.cells true (zq Box.cells (bs.xs.set pt w)))).set 0 o2) false 11 (fQ [.row fJ 4 0 bs.xs.length,.pure (fs.pv Fact.cells 9)]) (.agg [(Sl.mk false (bs.xs.set pt w)).pv Box.cells 4,fs.pv Fact.cells 9])) ⟨bs.xs[pt].x,⟨(b.y.hi+1),bs.xs[pt].y.hi⟩⟩ (.cells true [.pure .nils,.pure .nils]) (.cells true [.row fJ 4 0 bs.xs.length,.pure (fs.pv Fact.cells 9)]) (.cells true [.row fJ 4 0 bs.xs.length,.pure (fs.pv Fact.cells 9)])
  (repeat' first|simp [*,zb,Box.cells,Span.cells]|(apply za<;>intro _ h<;>try simp [-Nat.le_zero_eq] at h))
end Go.Proofs.YtmmhnfghklppiaaGreat.Vm
