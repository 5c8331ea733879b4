/- The specification's Count, walked. The two Solves and Counts say the same. Plain Lean. What the two Decides answer, and what Prove's tree is. Plain Lean. What Extent finds: ends that are solutions, and trees. Plain Lean. search.beyond: walked. search.Extent: walked. search.CheckExtent, where all is well: walked. What holds where points are a solution: no tree fits, extents hold them, proofs are right. Plain Lean, and search.Refute and inside walked. -/
import Derived.Test.YtmmhnfghklppiaaGreatWk39
import Derived.Test.YtmmhnfghklppiaaGreatWk25
import Derived.Test.YtmmhnfghklppiaaGreatWk28
import Derived.Test.YtmmhnfghklppiaaGreatWk26
import Derived.Test.YtmmhnfghklppiaaGreatWk40
import Derived.Test.YtmmhnfghklppiaaGreatWk27
import Derived.Test.YtmmhnfghklppiaaGreatWk32
import Derived.Test.YtmmhnfghklppiaaGreatWk31
namespace Go.Proofs.YtmmhnfghklppiaaGreat.Vm
open Go
set_option linter.unusedSimpArgs false
set_option linter.unusedVariables false
set_option maxHeartbeats 4000000
set_option maxRecDepth 4000
theorem zkm {b:List Box}:∀ (fs:List Fact) (k:Int),(∀ f∈fs,zJ f b=false)->Fe b fs k=(-1,true)
 | [],_,_=>rfl
 | f::fs,k,h=>by
  unfold Fe;rw [h f List.mem_cons_self];simp only [Bool.false_eq_true,if_false];exact zkm fs _ fun f' hf=>h f' (List.mem_cons_of_mem _ hf)
theorem zm6 {p:Problem} {pts:List Pt} (h0:zQ p=0) (h:iG p pts):(ak p pts).2=true:=by
 have hi:xM pts p.boxes.xs:=fun i h1 h2=>by
  have:=h.xK i h2 h1;unfold bO at this;simp only [qY,mZ,Bool.and_eq_true,decide_eq_true_eq];omega
 unfold ak;rw [if_pos ⟨h0,h.len,hi⟩,zkm _ _ h.facts]
theorem Vs (facts:List Fact) (l:List Box) (g:List Nat):(jE facts l g).part=g:=by
 unfold jE
 split<;>rfl
theorem zlR {P:Nat->Prop}:∀ (n:Nat),(∃ k,k < n/\P k)->∃ k,k < n/\P k/\∀ j,j < k->¬ P j
 | 0,⟨k,h,_⟩=>absurd h (Nat.not_lt_zero _)
 | n+1,h=>by
  by_cases hc:∃ k,k < n/\P k
  .obtain ⟨k,h1,h2,h3⟩:=zlR n hc;exact ⟨k,by omega,h2,h3⟩
  .obtain ⟨k,h1,h2⟩:=h
   refine ⟨k,h1,h2,fun j hj hp=>hc ⟨j,by omega,hp⟩⟩
theorem zlI {q:Problem} (ok:ae q) (hn:q.boxes.xs.length<=5) (hs:∀ b∈q.boxes.xs,b.x.hi - b.x.lo<=60/\b.y.hi - b.y.lo<=60) (qQ:¬ ∃ pts,iG q pts) :
  ∃ m gs k,bV (pF q.facts.xs) q.boxes.xs.length m/\gs=pG m q.boxes.xs.length/\ja q gs k:=by
 obtain ⟨m,hm⟩:=zoU ok.fact;obtain ⟨g,hg,F9⟩:=zou ok hm qQ;obtain ⟨i,hi,rfl⟩:=List.mem_iff_getElem.1 hg;have hd:=MS hm (JC ok);obtain ⟨k,h1,h2,h3⟩:=zlR (P:=fun k=>EI q (pG m q.boxes.xs.length)[k]!) (pG m q.boxes.xs.length).length ⟨i,hi,by rw [getElem!_pos _ i hi];exact F9⟩;exact ⟨m,_,k,hm,rfl,⟨ok,⟨m,hm,rfl⟩,h1,h2,h3,fun g hg=>FM.vol hn hs (hd.one g hg).1 (hd.one g hg).2⟩⟩
theorem zqG {p:Problem} (tu:oO p=true) (ok:ae p):iq p.boxes.xs<=600:=by
 have few:=zrF ok tu;exact FM.mu few.nb few.side
instance:Inhabited fE:=⟨⟨[],0,[],none⟩⟩
theorem zmy {pt:Nat}:∀ (ss:List fE) (a j:Nat) (hj:j < ss.length),pt∈ss[j].part->(∀ j' (h:j' < ss.length),j' < j->pt ∉ ss[j'].part)->jg pt ss a=(Nk ss[j] (ss[j].part.idxOf pt),((a+j:Nat):Int),((ss[j].part.idxOf pt:Nat):Int))
 | [],a,j,hj,_,_=>by simp at hj
 | s::ss,a,0,hj,hm,_=>by
  have DY:pt∈s.part:=hm;unfold jg;rw [if_pos DY];rfl
 | s::ss,a,j+1,hj,hm,hn=>by
  have h0:pt ∉ s.part:=hn 0 (by simp) (by omega);unfold jg;rw [if_neg h0];have:=zmy ss (a+1) j (by simpa using hj) hm (fun j' h oZ=>hn (j'+1) (by simpa using h) (by omega));rw [this];have e:a+1+j=a+(j+1):=by omega
  rw [e];rfl
def rH (q:Pt) (t:Nat):Int:=if t < 2 then q.x else q.y
def mY (b:Box) (t:Nat):Int:=match t with
 | 0=>b.x.lo
 | 1=>b.x.hi
 | 2=>b.y.lo
 | _=>b.y.hi
def rY (D:aZ) (n0:Nat) (cs:Nat->List (List Pt)) (t:Nat):List Pt:=xm D n0 (cs t) D.ag.length
structure Nz (p:Problem) (D:aZ) (point j k0:Nat) (c:Nat->List Pt) (cs:Nat->List (List Pt)):Prop where
 hj:j < D.ag.length
 h1:(jg point D.ag 0).2.1=(j:Int)
 h2:(jg point D.ag 0).2.2=(k0:Int)
 kl:k0 < D.ag[j]!.part.length
 len:D.ag[j]!.ends.length=4*D.ag[j]!.part.length
 few:D.ag[j]!.part.length<=12
 ends:∀ t,t < 4->D.ag[j]!.ends[4*k0+t]! = some (c t)
 NA:∀ t,t < 4->Dq D p.boxes.xs.length (cs t) j (.mk false (c t))
 Vt:∀ t,t < 4->iG p (rY D p.boxes.xs.length cs t)
 side:∀ t,t < 4->rH (rY D p.boxes.xs.length cs t)[point]! t=mY (jg point D.ag 0).1 t
theorem zuh {p:Problem} (ok:ae p) {D:aZ} {l:List Box} {gs:List (List Nat)} (h:oN p D l gs) (he:D.empty=false) {i:Nat} (hi:i < p.boxes.xs.length):∃ j k0 c cs,Nz p D i j k0 c cs:=by
 have BM:l.length=p.boxes.xs.length:=h.Fq.1.sub.1;have hdz:∀ g∈gs,(jE p.facts.xs l g).n≠0:=fun g hg e=>by
  have:D.empty=true:=by rw [h.empty,Q8,h.ag];exact ⟨_,List.mem_map.2 ⟨g,hg,rfl⟩,e⟩
  rw [this] at he;simp at he
 obtain ⟨g,hg,yh⟩:=List.mem_flatten.1 ((h.div.all i).1 (by rw [BM];exact hi));obtain ⟨j,BL,rfl⟩:=List.mem_iff_getElem.1 hg;have pV:D.ag.length=gs.length:=by rw [h.ag,List.length_map]
 have PT:∀ i (h1:i < D.ag.length) (h':i < gs.length),D.ag[i]=jE p.facts.xs l gs[i]:=fun i h1 h'=>by simp only [h.ag,List.getElem_map]
 have tZ:j < D.ag.length:=by omega
 have XO:D.ag[j]! = jE p.facts.xs l gs[j]:=by rw [getElem!_pos D.ag j tZ];exact PT j tZ BL
 have xn:(jE p.facts.xs l gs[j]).part=gs[j]:=Vs _ _ _;have ho:=h.seen _ hg;have hn:=hdz _ hg;have hlen:=ho.len;have sJ:=zmy (pt:=i) D.ag 0 j tZ (by rw [PT j tZ BL,xn];exact yh) (fun j' h1 h2 hm=>by
  rw [PT j' h1 (by omega),Vs] at hm;exact List.pairwise_iff_getElem.1 (List.pairwise_flatten.1 h.div.nodup).2 j' j (by omega) BL h2 i hm i yh rfl)
 have hk:=List.idxOf_lt_length_of_mem yh;have Fg:gs[j][gs[j].idxOf i]=i:=List.getElem_idxOf hk;have bG:=h.div.one _ hg;have uH:∀ g∈gs,∃ c∈jJ p.facts.xs l g,(jE p.facts.xs l g).first=some c:=fun g hg=>(h.seen g hg).first (hdz g hg);obtain ⟨cs0,Vu⟩:∃ cs:List (List Pt),cs=gs.map fun g=>(jE p.facts.xs l g).first.getD []:=⟨_,rfl⟩
 have fJ:cs0.length=gs.length:=by rw [Vu,List.length_map]
 have LJ:∀ i (h:i < gs.length) (h':i < cs0.length),cs0[i]∈jJ p.facts.xs l gs[i]/\(jE p.facts.xs l gs[i]).first=some cs0[i]:=fun i h h'=>by
  obtain ⟨c,hc,hf⟩:=uH _ (List.getElem_mem h);have e:cs0[i]=c:=by simp only [Vu,List.getElem_map,hf,Option.getD_some]
  rw [e];exact ⟨hc,hf⟩
 have hex:∀ t,∃ c,t < 4->c∈jJ p.facts.xs l gs[j]/\(jE p.facts.xs l gs[j]).ends[4*gs[j].idxOf i+t]! = some c:=fun t=>by
  by_cases ht:t < 4
  .have hj4:4*gs[j].idxOf i+t < (jE p.facts.xs l gs[j]).ends.length:=by omega
   obtain ⟨c,hc,h1,_⟩:=ho.ends hn _ hj4;exact ⟨c,fun _=>⟨hc,by rw [getElem!_pos (jE p.facts.xs l gs[j]).ends _ hj4];exact h1⟩⟩
  .exact ⟨[],fun h=>absurd h ht⟩
 obtain ⟨c,hc⟩:∃ c:Nat->List Pt,∀ t,t < 4->c t∈jJ p.facts.xs l gs[j]/\(jE p.facts.xs l gs[j]).ends[4*gs[j].idxOf i+t]! = some (c t):=⟨fun t=>(hex t).choose,fun t ht=>(hex t).choose_spec ht⟩
 have I7:∀ (g:List Nat),g∈gs->∀ x∈jJ p.facts.xs l g,x.length=g.length:=fun g hg x hx=>((QM (h.div.one g hg).1 (fun f hf ha=>h.div.within f hf g hg ha)).1 hx).1.1;have o9:∀ t,t < 4->cs0.set j (c t)∈MP (gs.map (jJ p.facts.xs l)):=fun t ht=>lh.2 ⟨by simp [fJ],fun k a b=>by
  simp only [List.getElem_map]
  by_cases e:j=k
  .subst e;rw [List.getElem_set_self];exact (hc t ht).1
  .rw [List.getElem_set_ne e];exact (LJ k (by simpa using a) (by simpa using b)).1⟩
 have hp:D.ag.map (·.part)=gs:=by
  rw [h.ag,List.map_map]
  refine List.ext_getElem (by simp) fun i h1 h2=>?_
  simp only [List.getElem_map,Function.comp_apply,Vs]
 have lV:∀ t,t < 4->rY D p.boxes.xs.length (fun t=>cs0.set j (c t)) t=wC gs (cs0.set j (c t)) (List.replicate p.boxes.xs.length ⟨0,0⟩):=fun t ht=>by
  unfold rY xm;rw [hp,List.take_of_length_le (by omega),List.take_of_length_le (by simp;omega)]
 have NB:∀ t (ht:t < 4),iG p (rY D p.boxes.xs.length (fun t=>cs0.set j (c t)) t)/\pick (rY D p.boxes.xs.length (fun t=>cs0.set j (c t)) t) gs[j]=c t:=fun t ht=>by
  have vD:=zkG h.div (o9 t ht) (p0:=List.replicate p.boxes.xs.length ⟨0,0⟩) (by simp [BM]);rw [lV t ht]
  refine ⟨zn3 h.Fq.1.sub vD.1,?_⟩
  have h2:=vD.2;have h3:(gs.map (pick (wC gs (cs0.set j (c t)) (List.replicate p.boxes.xs.length ⟨0,0⟩))))[j]'(by simpa using BL)=(cs0.set j (c t))[j]'(by simp;omega):=by simp only [h2]
  rw [List.getElem_map,List.getElem_set_self] at h3;exact h3
 refine ⟨j,gs[j].idxOf i,c,fun t=>cs0.set j (c t),tZ,by rw [sJ];simp,by rw [sJ,PT j tZ BL,xn],by rw [XO,xn];exact hk,by rw [XO,xn];exact hlen,by rw [XO,xn];exact h.few.2 _ hg,fun t ht=>by rw [XO];exact (hc t ht).2,fun t ht=>?_,fun t ht=>(NB t ht).1,fun t ht=>?_⟩
 .refine ⟨ok.nb,by have:=h.few.1;omega,by simp;omega,fun i' h1 h2 bJ=>?_,fun i' h1 h2 Hg=>?_,fun s hs=>?_,fun i' h1 h2=>?_⟩
  .rw [PT i' h1 (by omega),List.getElem_set_ne (by omega)];exact (LJ i' (by omega) (by omega)).2
  .have e:j=i':=by omega
   subst e;rw [List.getElem_set_self]
  .rw [h.ag] at hs;obtain ⟨g',tX,rfl⟩:=List.mem_map.1 hs;rw [Vs];exact ⟨h.few.2 g' tX,fun k hk=>by rw [<- BM];exact (h.div.one g' tX).2 k hk⟩
  .rw [PT i' h1 (by omega),Vs]
   by_cases e:j=i'
   .subst e;rw [List.getElem_set_self];exact I7 _ hg _ (hc t ht).1
   .rw [List.getElem_set_ne e];exact I7 _ (List.getElem_mem _) _ (LJ i' (by omega) (by omega)).1
 .obtain ⟨hs,JY⟩:=NB t ht;have MQ:gs[j].idxOf i < (c t).length:=by rw [I7 _ hg _ (hc t ht).1];exact hk
  have hv:(c t)[gs[j].idxOf i]=(rY D p.boxes.xs.length (fun t=>cs0.set j (c t)) t)[i]! := by
   have:(c t)[gs[j].idxOf i]=(pick (rY D p.boxes.xs.length (fun t=>cs0.set j (c t)) t) gs[j])[gs[j].idxOf i]'(by simpa [pick] using hk):=by simp only [JY]
   rw [this];simp only [pick,List.getElem_map,Fg]
  have he4:wE (jE p.facts.xs l gs[j]) (4*gs[j].idxOf i+t) (gs[j].idxOf i)=(rY D p.boxes.xs.length (fun t=>cs0.set j (c t)) t)[i]! := by
   unfold wE;rw [(hc t ht).2,<- hv];exact getElem!_pos (c t) _ MQ
  rw [sJ,PT j tZ BL,xn,<- he4];have sS:t=0\/t=1\/t=2\/t=3:=by omega
  rcases sS with rfl|rfl|rfl|rfl<;>rfl
structure NC (p:Problem) (point:Nat) (b:Box) (gs:Nat->List (List Nat)) (k:Nat->Nat):Prop where
 gi:∀ t,t < 4->zI p.boxes.xs[point]! b t=true->ja (aN p point t b) (gs t) (k t)
 mu:∀ t,t < 4->zI p.boxes.xs[point]! b t=true->iq (aN p point t b).boxes.xs<=600
 tr:∀ t,t < 4->zI p.boxes.xs[point]! b t=true->Xz (aN p point t b) (wH (aN p point t b) (gs t) (k t))
def ru (p:Problem) (point:Nat) (b:Box) (gs:Nat->List (List Nat)) (k:Nat->Nat) (t:Nat):List Node:=if zI p.boxes.xs[point]! b t=true then wH (aN p point t b) (gs t) (k t) else []
theorem zuw {p:Problem} (ok:ae p) (tu:oO p=true) {D:aZ} (h1:iD p D 0) (e1:D.empty=false) {point:Nat} {b:Box} (hp:point < p.boxes.xs.length) (hh:nG p point b):∃ gs k,NC p point b gs k:=by
 have few:=zrF ok tu;have nX:∀ t,zI p.boxes.xs[point]! b t=true->iq (aN p point t b).boxes.xs<=600:=fun t h=>FM.mu (by show (jF p.boxes.xs point t b).length<=5;rw [Px];exact few.nb) (zoH (vI ok) hp h few.side);have hex:∀ t,∃ gs k,t < 4->zI p.boxes.xs[point]! b t=true->ja (aN p point t b) gs k/\Xz (aN p point t b) (wH (aN p point t b) gs k):=fun t=>by
  by_cases hc:t < 4/\zI p.boxes.xs[point]! b t=true
  case neg=>exact ⟨[],0,fun h1 h2=>absurd ⟨h1,h2⟩ hc⟩
  obtain ⟨ht,hs⟩:=hc;have Gt:=XA ok hp hs;obtain ⟨m,gs,k,hm,vJ,gi⟩:=zlI Gt (by show (jF p.boxes.xs point t b).length<=5;rw [Px];exact few.nb) (zoH (vI ok) hp hs few.side) (zsa ok hp ht hs hh);have o9:gs[k]! ∈ pG m (aN p point t b).boxes.xs.length:=by rw [<- vJ,getElem!_pos gs k gi.lt];exact List.getElem_mem gi.lt
  exact ⟨gs,k,fun _ _=>⟨gi,zrJ ok h1 e1 hp hs hm o9 gi.no (nX t hs) (Nat.lt_succ_self _)⟩⟩
 refine ⟨fun t=>(hex t).choose,fun t=>(hex t).choose_spec.choose,⟨fun t ht hs=>((hex t).choose_spec.choose_spec ht hs).1,fun t _ hs=>nX t hs,fun t ht hs=>((hex t).choose_spec.choose_spec ht hs).2⟩⟩
set_option maxHeartbeats 8000000
structure Vv (p:Problem) (pt k:Nat) (b:Box):Prop where
 hp:pt < p.boxes.xs.length
 hl:p.boxes.xs.length < 1000
 hk:k < 4
 hs:nP (mY b k)
theorem sh55:G.shared 55=false:=by decide
theorem e55 (n:Nat) (p:Problem) (pt k:Nat) (b:Box) (h:Vv p pt k b):zK G (n+2) 55 [.agg p.cells,.int .i64 (pt:Nat),.int .i64 (k:Nat),.agg b.cells]=some (.aQ [.agg (aN p pt k b).cells,.bool (zI p.boxes.xs[pt]! b k)]):=by
 refine zz (zy _) rfl g55 rfl ?_
 obtain ⟨hp,hl,hk,hs⟩:=h;have hpI:(pt:Int) < p.boxes.xs.length:=by omega
 obtain ⟨bs,fs⟩:=p;have uf:pt < bs.xs.length:=hp;have Me:bs.xs.length < 1000:=hl;have ho:=Et n;have ho2:=FP n;have bJ:bs.xs≠[]:=fun e=>by rw [e] at uf;simp at uf
 have bA:(aN ⟨bs,fs⟩ pt k b).cells=[(Sl.mk false (bs.xs.set pt (jc bs.xs[pt] b k))).pv Box.cells 4,fs.pv Fact.cells 9]:=by
  unfold aN jF;simp only [Problem.cells];rw [getElem!_pos bs.xs pt uf]
 have Bn:zI (Problem.mk bs fs).boxes.xs[pt]! b k=zI bs.xs[pt] b k:=by
  show zI bs.xs[pt]! b k=_;rw [getElem!_pos bs.xs pt uf]
 rw [bA,Bn];clear bA Bn hp hl;have nW:k=0\/k=1\/k=2\/k=3:=by omega
 rcases nW with rfl|rfl|rfl|rfl
 .unfold nP mY at hs;simp only at hs;have w1:IntKind.i64.wrap (b.x.lo - 1)=b.x.lo - 1:=wrap64 (by omega) (by omega);have hB:jc bs.xs[pt] b 0=⟨⟨bs.xs[pt].x.lo,(min bs.xs[pt].x.hi (b.x.lo - 1))⟩,bs.xs[pt].y⟩:=by simp [jc,mG,bz]
  have hS:zI bs.xs[pt] b 0=decide (bs.xs[pt].x.lo<=min bs.xs[pt].x.hi (b.x.lo - 1)):=by unfold zI;rw [hB];simp [bz]
  rw [hB,hS];have pin:=TT uf;(repeat' first|simp [*,zb,c55,Problem.cells,Box.cells,Span.cells]|(apply za<;>intro _ h<;>try simp [-Nat.le_zero_eq] at h))
  refine Ff Me ?_
  intro B H1 FU FN bX ah aR;obtain ⟨fQ,rfl,hg⟩:=FU.row bJ;have hr:=aR fQ ⟨_,_,_,rfl⟩;simp at hr bX;have k0:H1.get 0=.cells true [.pure (bs.pv Box.cells 4),.pure (fs.pv Fact.cells 9)]:=by rw [ah 0 (by simp)];simp
  have k1:=ah 1 (by simp);simp at k1;have wD:=zx hg;have vB:fQ≠0:=by omega
  have uj:fQ≠1:=by omega
  have DD:0≠fQ:=by omega
  have PU:1≠fQ:=by omega
  have vS:0 < H1.nx:=by omega
  have Ad:1 < H1.nx:=by omega
  have wz:IntKind.i64.wrap 0=0:=by decide
  have wo:IntKind.i64.wrap 1=1:=by decide
  have td:Int.tdiv 0 2=0:=by decide
  have tm:Int.tmod 0 2=0:=by decide
  clear FU FN ah aR;have e3:pt*4+2+1=pt*4+3:=rfl;obtain ⟨ids,jk⟩:=(fun w o o2=>FrzK.iA (n:=10) (.cons (sO (n:=8) (f:=Box.cells) (sz:=4) (l:=bs.xs.set pt w) (m:=bs.xs.length) (fun _=>rfl) (by rw [zf uj,zn (by rw [mi];exact wD)]) (by simp)) (.cons (.pure (fs.pv Fact.cells 9)) .nil)) :
   ∀ (w:Box) (o o2:aU),FrzK (((H1.set 0 o).set fQ (.cells true (zq Box.cells (bs.xs.set pt w)))).set 1 o2) false 11 (iA [.row fQ 4 0 bs.xs.length,.pure (fs.pv Fact.cells 9)]) (.agg [(Sl.mk false (bs.xs.set pt w)).pv Box.cells 4,fs.pv Fact.cells 9])) ⟨⟨bs.xs[pt].x.lo,(min bs.xs[pt].x.hi (b.x.lo - 1))⟩,bs.xs[pt].y⟩ (.cells true [.row fQ 4 0 bs.xs.length,.pure (fs.pv Fact.cells 9)]) (.cells true [.row fQ 4 0 bs.xs.length,.pure (fs.pv Fact.cells 9)])
  simp [*,zb,Box.cells,Span.cells]
 .unfold nP mY at hs;simp only at hs;have w1:IntKind.i64.wrap (b.x.hi+1)=b.x.hi+1:=wrap64 (by omega) (by omega);have hB:jc bs.xs[pt] b 1=⟨⟨(max bs.xs[pt].x.lo (b.x.hi+1)),bs.xs[pt].x.hi⟩,bs.xs[pt].y⟩:=by simp [jc,mG,bz]
  have hS:zI bs.xs[pt] b 1=decide (max bs.xs[pt].x.lo (b.x.hi+1)<=bs.xs[pt].x.hi):=by unfold zI;rw [hB];simp [bz]
  rw [hB,hS];have pin:=TS uf;(repeat' first|simp [*,zb,c55,Problem.cells,Box.cells,Span.cells]|(apply za<;>intro _ h<;>try simp [-Nat.le_zero_eq] at h))
  refine Ff Me ?_
  intro B H1 FU FN bX ah aR;obtain ⟨fQ,rfl,hg⟩:=FU.row bJ;have hr:=aR fQ ⟨_,_,_,rfl⟩;simp at hr bX;have k0:H1.get 0=.cells true [.pure (bs.pv Box.cells 4),.pure (fs.pv Fact.cells 9)]:=by rw [ah 0 (by simp)];simp
  have k1:=ah 1 (by simp);simp at k1;have wD:=zx hg;have vB:fQ≠0:=by omega
  have uj:fQ≠1:=by omega
  have DD:0≠fQ:=by omega
  have PU:1≠fQ:=by omega
  have vS:0 < H1.nx:=by omega
  have Ad:1 < H1.nx:=by omega
  have wz:IntKind.i64.wrap 0=0:=by decide
  have wo:IntKind.i64.wrap 1=1:=by decide
  have td:Int.tdiv 1 2=0:=by decide
  have tm:Int.tmod 1 2=1:=by decide
  clear FU FN ah aR;have e3:pt*4+2+1=pt*4+3:=rfl;obtain ⟨ids,jk⟩:=(fun w o o2=>FrzK.iA (n:=10) (.cons (sO (n:=8) (f:=Box.cells) (sz:=4) (l:=bs.xs.set pt w) (m:=bs.xs.length) (fun _=>rfl) (by rw [zf uj,zn (by rw [mi];exact wD)]) (by simp)) (.cons (.pure (fs.pv Fact.cells 9)) .nil)) :
   ∀ (w:Box) (o o2:aU),FrzK (((H1.set 0 o).set fQ (.cells true (zq Box.cells (bs.xs.set pt w)))).set 1 o2) false 11 (iA [.row fQ 4 0 bs.xs.length,.pure (fs.pv Fact.cells 9)]) (.agg [(Sl.mk false (bs.xs.set pt w)).pv Box.cells 4,fs.pv Fact.cells 9])) ⟨⟨(max bs.xs[pt].x.lo (b.x.hi+1)),bs.xs[pt].x.hi⟩,bs.xs[pt].y⟩ (.cells true [.row fQ 4 0 bs.xs.length,.pure (fs.pv Fact.cells 9)]) (.cells true [.row fQ 4 0 bs.xs.length,.pure (fs.pv Fact.cells 9)])
  simp [*,zb,Box.cells,Span.cells]
 .unfold nP mY at hs;simp only at hs;have w1:IntKind.i64.wrap (b.y.lo - 1)=b.y.lo - 1:=wrap64 (by omega) (by omega);have hB:jc bs.xs[pt] b 2=⟨bs.xs[pt].x,⟨bs.xs[pt].y.lo,(min bs.xs[pt].y.hi (b.y.lo - 1))⟩⟩:=by simp [jc,mG,bz]
  have hS:zI bs.xs[pt] b 2=decide (bs.xs[pt].y.lo<=min bs.xs[pt].y.hi (b.y.lo - 1)):=by unfold zI;rw [hB];simp [bz]
  rw [hB,hS];have pin:=TV uf;(repeat' first|simp [*,zb,c55,Problem.cells,Box.cells,Span.cells]|(apply za<;>intro _ h<;>try simp [-Nat.le_zero_eq] at h))
  refine Ff Me ?_
  intro B H1 FU FN bX ah aR;obtain ⟨fQ,rfl,hg⟩:=FU.row bJ;have hr:=aR fQ ⟨_,_,_,rfl⟩;simp at hr bX;have k0:H1.get 0=.cells true [.pure (bs.pv Box.cells 4),.pure (fs.pv Fact.cells 9)]:=by rw [ah 0 (by simp)];simp
  have k1:=ah 1 (by simp);simp at k1;have wD:=zx hg;have vB:fQ≠0:=by omega
  have uj:fQ≠1:=by omega
  have DD:0≠fQ:=by omega
  have PU:1≠fQ:=by omega
  have vS:0 < H1.nx:=by omega
  have Ad:1 < H1.nx:=by omega
  have wz:IntKind.i64.wrap 0=0:=by decide
  have wo:IntKind.i64.wrap 1=1:=by decide
  have td:Int.tdiv 2 2=1:=by decide
  have tm:Int.tmod 2 2=0:=by decide
  clear FU FN ah aR;have e3:pt*4+2+1=pt*4+3:=rfl;obtain ⟨ids,jk⟩:=(fun w o o2=>FrzK.iA (n:=10) (.cons (sO (n:=8) (f:=Box.cells) (sz:=4) (l:=bs.xs.set pt w) (m:=bs.xs.length) (fun _=>rfl) (by rw [zf uj,zn (by rw [mi];exact wD)]) (by simp)) (.cons (.pure (fs.pv Fact.cells 9)) .nil)) :
   ∀ (w:Box) (o o2:aU),FrzK (((H1.set 0 o).set fQ (.cells true (zq Box.cells (bs.xs.set pt w)))).set 1 o2) false 11 (iA [.row fQ 4 0 bs.xs.length,.pure (fs.pv Fact.cells 9)]) (.agg [(Sl.mk false (bs.xs.set pt w)).pv Box.cells 4,fs.pv Fact.cells 9])) ⟨bs.xs[pt].x,⟨bs.xs[pt].y.lo,(min bs.xs[pt].y.hi (b.y.lo - 1))⟩⟩ (.cells true [.row fQ 4 0 bs.xs.length,.pure (fs.pv Fact.cells 9)]) (.cells true [.row fQ 4 0 bs.xs.length,.pure (fs.pv Fact.cells 9)])
  simp [*,zb,Box.cells,Span.cells]
 .unfold nP mY at hs;simp only at hs;have w1:IntKind.i64.wrap (b.y.hi+1)=b.y.hi+1:=wrap64 (by omega) (by omega);have hB:jc bs.xs[pt] b 3=⟨bs.xs[pt].x,⟨(max bs.xs[pt].y.lo (b.y.hi+1)),bs.xs[pt].y.hi⟩⟩:=by simp [jc,mG,bz]
  have hS:zI bs.xs[pt] b 3=decide (max bs.xs[pt].y.lo (b.y.hi+1)<=bs.xs[pt].y.hi):=by unfold zI;rw [hB];simp [bz]
  rw [hB,hS];have pin:=TU uf;(repeat' first|simp [*,zb,c55,Problem.cells,Box.cells,Span.cells]|(apply za<;>intro _ h<;>try simp [-Nat.le_zero_eq] at h))
  refine Ff Me ?_
  intro B H1 FU FN bX ah aR;obtain ⟨fQ,rfl,hg⟩:=FU.row bJ;have hr:=aR fQ ⟨_,_,_,rfl⟩;simp at hr bX;have k0:H1.get 0=.cells true [.pure (bs.pv Box.cells 4),.pure (fs.pv Fact.cells 9)]:=by rw [ah 0 (by simp)];simp
  have k1:=ah 1 (by simp);simp at k1;have wD:=zx hg;have vB:fQ≠0:=by omega
  have uj:fQ≠1:=by omega
  have DD:0≠fQ:=by omega
  have PU:1≠fQ:=by omega
  have vS:0 < H1.nx:=by omega
  have Ad:1 < H1.nx:=by omega
  have wz:IntKind.i64.wrap 0=0:=by decide
  have wo:IntKind.i64.wrap 1=1:=by decide
  have td:Int.tdiv 3 2=1:=by decide
  have tm:Int.tmod 3 2=1:=by decide
  clear FU FN ah aR;have e3:pt*4+2+1=pt*4+3:=rfl;obtain ⟨ids,jk⟩:=(fun w o o2=>FrzK.iA (n:=10) (.cons (sO (n:=8) (f:=Box.cells) (sz:=4) (l:=bs.xs.set pt w) (m:=bs.xs.length) (fun _=>rfl) (by rw [zf uj,zn (by rw [mi];exact wD)]) (by simp)) (.cons (.pure (fs.pv Fact.cells 9)) .nil)) :
   ∀ (w:Box) (o o2:aU),FrzK (((H1.set 0 o).set fQ (.cells true (zq Box.cells (bs.xs.set pt w)))).set 1 o2) false 11 (iA [.row fQ 4 0 bs.xs.length,.pure (fs.pv Fact.cells 9)]) (.agg [(Sl.mk false (bs.xs.set pt w)).pv Box.cells 4,fs.pv Fact.cells 9])) ⟨bs.xs[pt].x,⟨(max bs.xs[pt].y.lo (b.y.hi+1)),bs.xs[pt].y.hi⟩⟩ (.cells true [.row fQ 4 0 bs.xs.length,.pure (fs.pv Fact.cells 9)]) (.cells true [.row fQ 4 0 bs.xs.length,.pure (fs.pv Fact.cells 9)])
  simp [*,zb,Box.cells,Span.cells]
structure iC where
 box:Box
 ends:Nat->Sl Pt
 trees:Nat->Sl Node
def iC.cells (x:iC):List PV:=[.int .i64 x.box.x.lo,.int .i64 x.box.x.hi,.int .i64 x.box.y.lo,.int .i64 x.box.y.hi,(x.ends 0).pv Pt.cells 2,(x.ends 1).pv Pt.cells 2,(x.ends 2).pv Pt.cells 2,(x.ends 3).pv Pt.cells 2,(x.trees 0).pv Node.cells 4,(x.trees 1).pv Node.cells 4,(x.trees 2).pv Node.cells 4,(x.trees 3).pv Node.cells 4]
def nQ:iC:=⟨⟨⟨0,0⟩,⟨0,0⟩⟩,fun _=>.nil,fun _=>.nil⟩
def znP (p:Problem) (pt:Nat) (D:aZ) (cs:Nat->List (List Pt)) (gs:Nat->List (List Nat)) (k:Nat->Nat):iC:=⟨(jg pt D.ag 0).1,fun t=>.mk false (rY D p.boxes.xs.length cs t),fun t=>Sl.of (ru p pt (jg pt D.ag 0).1 gs k t)⟩
structure EM (p:Problem) (pt:Nat) (D:aZ) (x:iC):Prop where
 lt:pt < p.boxes.xs.length
 empty:D.empty=false
 FL:nG p pt (jg pt D.ag 0).1
 sl:D.ag.length<=12
 good:∀ s∈D.ag,oM s
 ex:∃ j k0 c cs gs k,Nz p D pt j k0 c cs/\NC p pt (jg pt D.ag 0).1 gs k/\x=znP p pt D cs gs k
def zg3 (p:Problem) (pt:Int) (x:iC) (e:Int):Prop :=
 (zQ p≠0/\x=nQ/\e=zQ p) \/
 (zQ p=0/\¬ (0<=pt/\pt < p.boxes.xs.length)/\x=nQ/\e=1) \/
 (zQ p=0/\(0<=pt/\pt < p.boxes.xs.length)/\∃ D e',iD p D e'/\((e'≠0/\x=nQ/\e=e')\/(e'=0/\D.empty=true/\x=nQ/\e=9)\/(e'=0/\e=0/\EM p pt.toNat D x)))
def ql (b:Box) (es ts:Nat->PV) (k:Nat):List AV:=[.pure (.int .i64 b.x.lo),.pure (.int .i64 b.x.hi),.pure (.int .i64 b.y.lo),.pure (.int .i64 b.y.hi),.pure (if 0 < k then es 0 else .nils),.pure (if 1 < k then es 1 else .nils),.pure (if 2 < k then es 2 else .nils),.pure (if 3 < k then es 3 else .nils),.pure (if 0 < k then ts 0 else .nils),.pure (if 1 < k then ts 1 else .nils),.pure (if 2 < k then ts 2 else .nils),.pure (if 3 < k then ts 3 else .nils)]
theorem EN:nQ.cells=[.int .i64 0,.int .i64 0,.int .i64 0,.int .i64 0,.nils,.nils,.nils,.nils,.nils,.nils,.nils,.nils]:=rfl
theorem sh21:G.shared 21=false:=by decide
theorem e21 (n:Nat) (p:Problem) (pt:Int) (x:iC) (e:Int) (h:zg3 p pt x e):zK G (n+700) 21 [.agg p.cells,.int .i64 pt]=some (.aQ [.agg x.cells,.int .i64 e]):=by
 refine zz (zy _) rfl g21 rfl ?_
 have hc:=fun H=>ze (G:=G) (n:=n+699) (H:=H) (caps:=[]) (ps:=[.agg p.cells]) sh45 (e45 (n+696) p);simp only [Problem.cells,List.map] at hc;rcases h with ⟨h0,rfl,rfl⟩|⟨h0,hnp,rfl,rfl⟩|⟨h0,Di,D,e',hf,h⟩
 .rw [EN];generalize zQ p=c at *;simp [*,zb,c21,Problem.cells]
 .have ok:=bW.1 h0;have nb:=ok.nb;rw [h0] at hc;have vK:mZ pt 0 ((p.boxes.xs.length:Int) - 1)=false:=by
   unfold mZ;rw [Bool.and_eq_false_iff,decide_eq_false_iff_not,decide_eq_false_iff_not];omega
  have w3:IntKind.i64.wrap ((p.boxes.xs.length:Int) - 1)=(p.boxes.xs.length:Int) - 1:=wrap64 (by omega) (by omega);have bD:=fun H=>ze (G:=G) (n:=n+699) (H:=H) (caps:=[]) (ps:=[.int .i64 pt,.int .i64 0,.int .i64 ((p.boxes.xs.length:Int) - 1)]) sh52 (e52 (n+698) pt 0 ((p.boxes.xs.length:Int) - 1));rw [vK] at bD;simp only [List.map] at bD;rw [EN];clear h0 ok hnp vK;simp [*,zb,c21,Problem.cells]
 .have ok:=bW.1 h0;have nb:=ok.nb;rw [h0] at hc;obtain ⟨q,rfl⟩:∃ q:Nat,pt=q:=⟨pt.toNat,by omega⟩
  have vK:mZ (q:Int) 0 ((p.boxes.xs.length:Int) - 1)=true:=by
   unfold mZ;rw [Bool.and_eq_true,decide_eq_true_eq,decide_eq_true_eq];omega
  have w3:IntKind.i64.wrap ((p.boxes.xs.length:Int) - 1)=(p.boxes.xs.length:Int) - 1:=wrap64 (by omega) (by omega);have bD:=fun H=>ze (G:=G) (n:=n+699) (H:=H) (caps:=[]) (ps:=[.int .i64 (q:Int),.int .i64 0,.int .i64 ((p.boxes.xs.length:Int) - 1)]) sh52 (e52 (n+698) (q:Int) 0 ((p.boxes.xs.length:Int) - 1));rw [vK] at bD;have fF:=fun H=>ze (G:=G) (n:=n+699) (H:=H) (caps:=[]) (ps:=[.agg p.cells]) sh48 (e48 (n+648) p ok D e' hf);have EH:D.cells=[.bool D.empty,(Sl.of D.ag).pv ym 1]:=rfl;simp only [Problem.cells,List.map] at bD fF;rw [EH] at fF;rcases h with ⟨he,rfl,rfl⟩|⟨rfl,he,rfl,rfl⟩|⟨rfl,rfl,hx⟩
  .rw [EN];generalize D.empty=B at *;clear h0 ok Di vK hf EH nb;simp [*,zb,c21,Problem.cells]
  .rw [EN];rw [he] at fF;clear h0 ok Di vK hf EH nb he;simp [*,zb,c21,Problem.cells]
  .rw [Int.toNat_natCast] at hx;obtain ⟨j,k0,c,cs,gs,kk,ha,ht,rfl⟩:=hx.ex;rw [hx.empty] at fF;have Vw:=fun H=>ze (G:=G) (n:=n+699) (H:=H) (caps:=[]) (ps:=[.agg D.cells,.int .i64 (q:Nat)]) sh53 (e53 (n+697) D q hx.sl hx.good);rw [ha.h1,ha.h2,EH,hx.empty] at Vw;have hso:=Hide.mk fun (t:Nat) (ht:t < 4) H=>ze (G:=G) (n:=n+699) (H:=H) (caps:=[]) (ps:=[.agg D.cells,.int .i64 (p.boxes.xs.length:Nat),.int .i64 (j:Int),(Sl.mk false (c t)).pv Pt.cells 2]) sh54 (e54 (n+698) D p.boxes.xs.length (cs t) j (.mk false (c t)) (ha.NA t ht));rw [EH,hx.empty] at hso;have hq:=hx.lt;have hqw:=vI ok;have Dp:∀ t,t < 4->nP (mY (jg q D.ag 0).1 t):=fun t sS=>by
    have hs:=ha.side t sS;have hv:=ha.Vt t sS;have I8:q < (rY D p.boxes.xs.length cs t).length:=by rw [hv.len];exact hq
    have bD:=hv.xK q I8 hq;have Vj:=aF.1 (ok.valid _ (List.getElem_mem hq));rw [<- hs,getElem!_pos _ q I8];unfold bO at bD;unfold nP rH
    split<;>omega
   have fV:=Hide.mk fun (t:Nat) (sS:t < 4) H=>ze (G:=G) (n:=n+699) (H:=H) (caps:=[]) (ps:=[.agg p.cells,.int .i64 (q:Nat),.int .i64 (t:Nat),.agg (jg q D.ag 0).1.cells]) sh55 (e55 (n+697) p q t (jg q D.ag 0).1 ⟨hq,by omega,sS,Dp t sS⟩);have XP:=Hide.mk fun (t:Nat) (sS:t < 4) (hs:zI p.boxes.xs[q]! (jg q D.ag 0).1 t=true) H=>ze (G:=G) (n:=n+699) (H:=H) (caps:=[]) (ps:=[.agg (aN p q t (jg q D.ag 0).1).cells]) sh39 (e39 (n+59) (aN p q t (jg q D.ag 0).1) (gs t) (kk t) (ht.gi t sS hs) (ht.mu t sS hs) (Nat.le_trans (ht.tr t sS hs).2 (by decide)));obtain ⟨es,Vx⟩:∃ es:Nat->PV,es=fun t=>(Sl.mk false (rY D p.boxes.xs.length cs t)).pv Pt.cells 2:=⟨_,rfl⟩
   obtain ⟨ts,Lh⟩:∃ ts:Nat->PV,ts=fun t=>(Sl.of (ru p q (jg q D.ag 0).1 gs kk t)).pv Node.cells 4:=⟨_,rfl⟩
   have wL:Hide (∀ t,t < 4->∀ H,zH (zu G (n+699)) H (.pure (.func 54 [])) [.pure (.agg [.bool false,(Sl.of D.ag).pv ym 1]),.pure (.int .i64 (p.boxes.xs.length:Nat)),.pure (.int .i64 (j:Int)),.pure ((Sl.mk false (c t)).pv Pt.cells 2)]=some (.val (.pure (es t)))):=⟨fun t sS H=>by rw [Vx];exact hso.h t sS H⟩
   have Lj:Hide (∀ t,t < 4->zI p.boxes.xs[q]! (jg q D.ag 0).1 t=true->∀ H,zH (zu G (n+699)) H (.pure (.func 39 [])) [.pure (.agg (aN p q t (jg q D.ag 0).1).cells)]=some (.val (.pure (ts t)))):=⟨fun t sS hs H=>by
    have h1:=XP.h t sS hs H;rw [Lh];simp only;have h2:ru p q (jg q D.ag 0).1 gs kk t=wH (aN p q t (jg q D.ag 0).1) (gs t) (kk t):=by unfold ru;rw [if_pos hs]
    rw [h2];exact h1⟩
   have Ll:Hide (∀ t,zI p.boxes.xs[q]! (jg q D.ag 0).1 t=false->ts t=.nils):=⟨fun t hs=>by
    rw [Lh];simp only;have h2:ru p q (jg q D.ag 0).1 gs kk t=[]:=by unfold ru;rw [if_neg (by rw [hs];simp)]
    rw [h2];rfl⟩
   have oe1:∀ t,AV.one (.pure (es t))=true:=fun t=>by rw [Vx];simp
   have oe2:∀ t,AV.cells (.pure (es t))=[.pure (es t)]:=fun t=>by rw [Vx];simp
   have ot1:∀ t,AV.one (.pure (ts t))=true:=fun t=>by rw [Lh];simp
   have ot2:∀ t,AV.cells (.pure (ts t))=[.pure (ts t)]:=fun t=>by rw [Lh];simp
   have bA:(znP p q D cs gs kk).cells=[.int .i64 (jg q D.ag 0).1.x.lo,.int .i64 (jg q D.ag 0).1.x.hi,.int .i64 (jg q D.ag 0).1.y.lo,.int .i64 (jg q D.ag 0).1.y.hi,es 0,es 1,es 2,es 3,ts 0,ts 1,ts 2,ts 3]:=by rw [Vx,Lh];rfl
   rw [bA];have tZ:=ha.hj;have hlen:=ha.len;have IM:=ha.kl;have lJ:=Hide.mk ha.ends;have hBc:(jg q D.ag 0).1.cells=[.int .i64 (jg q D.ag 0).1.x.lo,.int .i64 (jg q D.ag 0).1.x.hi,.int .i64 (jg q D.ag 0).1.y.lo,.int .i64 (jg q D.ag 0).1.y.hi]:=rfl;rw [hBc] at Vw fV;generalize (jg q D.ag 0).1=bb at *;obtain ⟨⟨bx0,bx1⟩,⟨JG,JH⟩⟩:=bb;simp only at bA fV Vw hBc;obtain ⟨s,hs⟩:∃ s,s=Sl.of D.ag:=⟨_,rfl⟩
   have yn:s.xs=D.ag:=by rw [hs,Sl.iV]
   rw [<- hs] at fF Vw wL;have hjs2:j < s.xs.length:=by rw [yn];exact tZ
   obtain ⟨D',FH⟩:∃ D',s.xs[j]=D':=⟨_,rfl⟩
   have Py:D.ag[j]! = D':=by rw [getElem!_pos D.ag j tZ,<- FH];simp only [yn]
   rw [Py] at hlen IM lJ;have Ea:ym s.xs[j]=[.ptr false [lK D'.part,.int .i64 D'.n,.slice false 4 (chunks 4 D'.part.length (D'.ends.map iN)),iN D'.first] 0]:=by rw [FH];rfl
   have Gs:BA 4 (.pure (.slice false 4 (chunks 4 D'.part.length (D'.ends.map iN)))) (.pure (.int .i64 k0))=some (.val (.pure (.ptr false [iN (some (c 0)),iN (some (c 1)),iN (some (c 2)),iN (some (c 3))] 0))):=by
    have y:∀ t,t < 4->∃ h:4*k0+t < D'.ends.length,D'.ends[4*k0+t]=some (c t):=fun t sS=>by
     have h1:4*k0+t < D'.ends.length:=by omega
     exact ⟨h1,by have:=lJ.h t sS;rwa [getElem!_pos D'.ends _ h1] at this⟩
    obtain ⟨y0,z0⟩:=y 0 (by omega);obtain ⟨y1,z1⟩:=y 1 (by omega);obtain ⟨y2,z2⟩:=y 2 (by omega);obtain ⟨y3,z3⟩:=y 3 (by omega)
    refine Wy ?_
    rw [zg0 _ _ _ IM,ztn (by simp;omega)];simp only [Nat.add_zero] at z0;simp [z0,z1,z2,z3]
   have aj:∀ t,iN (some (c t))=(Sl.mk false (c t)).pv Pt.cells 2:=fun t=>rfl;rw [aj,aj,aj,aj] at Gs;simp only [Problem.cells,List.map] at Vw;have Un:(q:Int) < p.boxes.xs.length:=by omega
   have hjI:(j:Int) < s.xs.length:=by omega
   clear hso XP Vx Lh bA ha ht hx hf h0 Di vK EH hBc hs yn FH Py hlen IM lJ tZ aj Dp hqw ok;generalize lK D'.part=pp at *;generalize (chunks 4 D'.part.length (D'.ends.map iN))=cc at *;generalize iN D'.first=oo at *;generalize (D'.n:Int)=nn at *;(repeat' first|simp [*,zb,c21,Problem.cells,Box.cells,Span.cells,zk,zl,zM]|(apply za<;>intro _ h<;>try simp [-Nat.le_zero_eq] at h))
   refine zL [(13,15),(53,92)] (fun (k:Nat) env H=>env 53=.pure (.int .i64 k)/\k<=4/\3 < H.nx/\H.get 0=.cells true (nQ.cells.map .pure)/\H.get 1=.cells true [.pure (.bool false),.pure (s.pv ym 1)]/\H.get 2=.cells true [.pure (.int .i64 bx0),.pure (.int .i64 bx1),.pure (.int .i64 JG),.pure (.int .i64 JH)]/\H.get 3=.cells true (ql ⟨⟨bx0,bx1⟩,⟨JG,JH⟩⟩ es ts k)) (fun k=>4 - k) 0 ?_ ?_ ?_ ?_
   .decide
   .exact ⟨by simp,by omega,by simp,by simp [EN],by simp,by simp,by simp [ql]⟩
   .simp only [zF];omega
   rintro k env H ⟨g53,hk,bX,h0,h1,h2,h3⟩;have n0:0 < H.nx:=by omega
   have n1:1 < H.nx:=by omega
   have n2:2 < H.nx:=by omega
   have x0:(0:Nat)≠H.nx:=by omega
   have x1:(1:Nat)≠H.nx:=by omega
   have x2:(2:Nat)≠H.nx:=by omega
   have x3:(3:Nat)≠H.nx:=by omega
   rw [EN] at h0;have h0H:=Hide.mk h0;have Vy:k=0\/k=1\/k=2\/k=3\/k=4:=by omega
   rcases Vy with rfl|rfl|rfl|rfl|rfl
   .have Aj:=wL.h 0 (by decide);have bu:=fV.h 0 (by decide);have vv:=Lj.h 0 (by decide);have DF:=Ll.h 0;have w1:IntKind.i64.wrap (0+1)=1:=by decide
    obtain ⟨⟨qb,qf⟩,bU⟩:∃ q',aN p q 0 ⟨⟨bx0,bx1⟩,⟨JG,JH⟩⟩=q':=⟨_,rfl⟩
    rw [bU] at bu vv;simp only [Problem.cells,List.map] at bu vv
    push_cast at bu
    simp [ql] at h3;clear bU wL fV Lj Ll
    cases oW:zI p.boxes.xs[q]! ⟨⟨bx0,bx1⟩,⟨JG,JH⟩⟩ 0 with
    | true =>
     have PW:=vv oW;rw [oW] at bu;clear oW vv DF;(repeat' first|simp [*,zb,zk,zl,zM]|(apply za<;>intro _ h<;>try simp [-Nat.le_zero_eq] at h))
     refine ⟨1,by omega,by decide,by omega,by omega,by simp [EN],?_⟩
     rw [zn (by simp;omega)];simp [ql]
    | false =>
     have DI:=DF oW;rw [oW] at bu;clear oW vv DF;(repeat' first|simp [*,zb,zk,zl,zM]|(apply za<;>intro _ h<;>try simp [-Nat.le_zero_eq] at h))
     refine ⟨1,by omega,by decide,by omega,by omega,by simp [EN],?_⟩
     simp [ql,DI]
   .have Aj:=wL.h 1 (by decide);have bu:=fV.h 1 (by decide);have vv:=Lj.h 1 (by decide);have DF:=Ll.h 1;have w1:IntKind.i64.wrap (1+1)=2:=by decide
    obtain ⟨⟨qb,qf⟩,bU⟩:∃ q',aN p q 1 ⟨⟨bx0,bx1⟩,⟨JG,JH⟩⟩=q':=⟨_,rfl⟩
    rw [bU] at bu vv;simp only [Problem.cells,List.map] at bu vv
    push_cast at bu
    simp [ql] at h3;clear bU wL fV Lj Ll
    cases oW:zI p.boxes.xs[q]! ⟨⟨bx0,bx1⟩,⟨JG,JH⟩⟩ 1 with
    | true =>
     have PW:=vv oW;rw [oW] at bu;clear oW vv DF;(repeat' first|simp [*,zb,zk,zl,zM]|(apply za<;>intro _ h<;>try simp [-Nat.le_zero_eq] at h))
     refine ⟨2,by omega,by decide,by omega,by omega,by simp [EN],?_⟩
     rw [zn (by simp;omega)];simp [ql]
    | false =>
     have DI:=DF oW;rw [oW] at bu;clear oW vv DF;(repeat' first|simp [*,zb,zk,zl,zM]|(apply za<;>intro _ h<;>try simp [-Nat.le_zero_eq] at h))
     refine ⟨2,by omega,by decide,by omega,by omega,by simp [EN],?_⟩
     simp [ql,DI]
   .have Aj:=wL.h 2 (by decide);have bu:=fV.h 2 (by decide);have vv:=Lj.h 2 (by decide);have DF:=Ll.h 2;have w1:IntKind.i64.wrap (2+1)=3:=by decide
    obtain ⟨⟨qb,qf⟩,bU⟩:∃ q',aN p q 2 ⟨⟨bx0,bx1⟩,⟨JG,JH⟩⟩=q':=⟨_,rfl⟩
    rw [bU] at bu vv;simp only [Problem.cells,List.map] at bu vv
    push_cast at bu
    simp [ql] at h3;clear bU wL fV Lj Ll
    cases oW:zI p.boxes.xs[q]! ⟨⟨bx0,bx1⟩,⟨JG,JH⟩⟩ 2 with
    | true =>
     have PW:=vv oW;rw [oW] at bu;clear oW vv DF;(repeat' first|simp [*,zb,zk,zl,zM]|(apply za<;>intro _ h<;>try simp [-Nat.le_zero_eq] at h))
     refine ⟨3,by omega,by decide,by omega,by omega,by simp [EN],?_⟩
     rw [zn (by simp;omega)];simp [ql]
    | false =>
     have DI:=DF oW;rw [oW] at bu;clear oW vv DF;(repeat' first|simp [*,zb,zk,zl,zM]|(apply za<;>intro _ h<;>try simp [-Nat.le_zero_eq] at h))
     refine ⟨3,by omega,by decide,by omega,by omega,by simp [EN],?_⟩
     simp [ql,DI]
   .have Aj:=wL.h 3 (by decide);have bu:=fV.h 3 (by decide);have vv:=Lj.h 3 (by decide);have DF:=Ll.h 3;have w1:IntKind.i64.wrap (3+1)=4:=by decide
    obtain ⟨⟨qb,qf⟩,bU⟩:∃ q',aN p q 3 ⟨⟨bx0,bx1⟩,⟨JG,JH⟩⟩=q':=⟨_,rfl⟩
    rw [bU] at bu vv;simp only [Problem.cells,List.map] at bu vv
    push_cast at bu
    simp [ql] at h3;clear bU wL fV Lj Ll
    cases oW:zI p.boxes.xs[q]! ⟨⟨bx0,bx1⟩,⟨JG,JH⟩⟩ 3 with
    | true =>
     have PW:=vv oW;rw [oW] at bu;clear oW vv DF;(repeat' first|simp [*,zb,zk,zl,zM]|(apply za<;>intro _ h<;>try simp [-Nat.le_zero_eq] at h))
     refine ⟨4,by omega,by decide,by omega,by omega,by simp [EN],?_⟩
     rw [zn (by simp;omega)];simp [ql]
    | false =>
     have DI:=DF oW;rw [oW] at bu;clear oW vv DF;(repeat' first|simp [*,zb,zk,zl,zM]|(apply za<;>intro _ h<;>try simp [-Nat.le_zero_eq] at h))
     refine ⟨4,by omega,by decide,by omega,by omega,by simp [EN],?_⟩
     simp [ql,DI]
   .simp [ql] at h3;clear wL fV Lj Ll;simp [*,zb]
structure DJ (p:Problem) (q:Nat) (x:iC) (k:Nat):Prop where
 al:(ak p (x.ends k).xs).2=true
 len:(x.ends k).xs.length=p.boxes.xs.length
 side:rH (x.ends k).xs[q]! k=mY x.box k
 ok:nP (mY x.box k)
 tl:(x.trees k).xs.length<=262144
 tr:(zI p.boxes.xs[q]! x.box k=true/\iq (aN p q k x.box).boxes.xs<=600/\rf (aN p q k x.box).facts.xs (aN p q k x.box).boxes.xs (x.trees k).xs=true)\/(zI p.boxes.xs[q]! x.box k=false/\(x.trees k).xs.length=0)
structure PX (p:Problem) (q:Nat) (x:iC):Prop where
 ok:zQ p=0
 lt:q < p.boxes.xs.length
 bx:x.box.x.lo<=x.box.x.hi
 yt:x.box.y.lo<=x.box.y.hi
 sides:∀ k,k < 4->DJ p q x k
theorem sh22:G.shared 22=false:=by decide
set_option maxHeartbeats 4000000
theorem zho {b:List Box}:∀ (fs:List Fact) (k:Int),(Fe b fs k).2=true->∀ f∈fs,zJ f b=false
 | [],k,_,f,hf=>by simp at hf
 | g::fs,k,h,f,hf=>by
  unfold Fe at h
  cases hg:zJ g b with
  | true=>rw [hg] at h;simp at h
  | false =>
   rw [hg] at h;simp only [Bool.false_eq_true,if_false] at h;rcases List.mem_cons.1 hf with rfl|hf
   .exact hg
   .exact zho fs _ h f hf
theorem zhx {p:Problem} {pts:List Pt} (h:(ak p pts).2=true):zQ p=0/\iG p pts:=by
 unfold ak at h
 split at h
 .rename_i hc;obtain ⟨h0,hl,hi⟩:=hc
  refine ⟨h0,hl,fun i h1 h2=>?_,zho _ _ h⟩
  have:=hi i h2 h1;unfold qY mZ at this;simp only [Bool.and_eq_true,decide_eq_true_eq] at this;unfold bO;omega
 .simp at h
theorem zsK {p:Problem} {q:Nat} {D:aZ} {x:iC} (h0:zQ p=0) (h:EM p q D x):PX p q x:=by
 obtain ⟨j,k0,c,cs,gs,k,ha,ht,rfl⟩:=h.ex;have ok:=bW.1 h0;have hq:=h.lt;obtain ⟨p0,s0,v0⟩:=h.FL.x0;obtain ⟨p2,s2,v2⟩:=h.FL.y0;have i0:=h.FL.all p0 s0;have i2:=h.FL.all p2 s2;unfold bO at i0 i2
 refine ⟨h0,hq,by show (jg q D.ag 0).1.x.lo<=(jg q D.ag 0).1.x.hi;omega,by show (jg q D.ag 0).1.y.lo<=(jg q D.ag 0).1.y.hi;omega,fun t sS=>?_⟩
 have hv:=ha.Vt t sS;have hs:=ha.side t sS;have I8:q < (rY D p.boxes.xs.length cs t).length:=by rw [hv.len];exact hq
 have bD:=hv.xK q I8 hq;have Vj:=aF.1 (ok.valid _ (List.getElem_mem hq))
 refine ⟨zm6 h0 hv,hv.len,hs,?_,?_,?_⟩
 .show nP (mY (jg q D.ag 0).1 t);rw [<- hs,getElem!_pos _ q I8];unfold bO at bD;unfold nP rH
  split<;>omega
 .show (Sl.of (ru p q (jg q D.ag 0).1 gs k t)).xs.length<=262144;rw [Sl.iV];unfold ru
  split
  .rename_i hb;exact (ht.tr t sS hb).2
  .simp
 .show (zI p.boxes.xs[q]! (jg q D.ag 0).1 t=true/\iq (aN p q t (jg q D.ag 0).1).boxes.xs<=600/\rf (aN p q t (jg q D.ag 0).1).facts.xs (aN p q t (jg q D.ag 0).1).boxes.xs (Sl.of (ru p q (jg q D.ag 0).1 gs k t)).xs=true)\/(zI p.boxes.xs[q]! (jg q D.ag 0).1 t=false/\(Sl.of (ru p q (jg q D.ag 0).1 gs k t)).xs.length=0)
  rw [Sl.iV]
  cases hb:zI p.boxes.xs[q]! (jg q D.ag 0).1 t with
  | true =>
   left;have he:ru p q (jg q D.ag 0).1 gs k t=wH (aN p q t (jg q D.ag 0).1) (gs t) (k t):=by unfold ru;rw [if_pos hb]
   rw [he];exact ⟨rfl,ht.mu t sS hb,(ht.tr t sS hb).1⟩
  | false =>
   right;have he:ru p q (jg q D.ag 0).1 gs k t=[]:=by unfold ru;rw [if_neg (by rw [hb];simp)]
   rw [he];exact ⟨rfl,rfl⟩
theorem zpi (p:Problem) (tu:oO p=true) (pt:Int):∃ x e,zg3 p pt x e/\(e=0->∃ D,zQ p=0/\0<=pt/\EM p pt.toNat D x):=by
 by_cases h0:zQ p=0
 case neg=>exact ⟨nQ,zQ p,.inl ⟨h0,rfl,rfl⟩,fun h=>absurd h h0⟩
 by_cases hp:0<=pt/\pt < p.boxes.xs.length
 case neg=>exact ⟨nQ,1,.inr (.inl ⟨h0,hp,rfl,rfl⟩),fun h=>by simp at h⟩
 have ok:=bW.1 h0;obtain ⟨D,e',hf⟩:=zo7 ok;have hq:pt.toNat < p.boxes.xs.length:=by omega
 rcases zkE ok hf with ⟨rfl,rfl,_⟩|⟨rfl,rfl⟩|⟨rfl,l,gs,bD⟩
 .exact ⟨nQ,9,.inr (.inr ⟨h0,hp,_,_,hf,.inr (.inl ⟨rfl,rfl,rfl,rfl⟩)⟩),fun h=>by simp at h⟩
 .exact ⟨nQ,2,.inr (.inr ⟨h0,hp,_,_,hf,.inl ⟨by simp,rfl,rfl⟩⟩),fun h=>by simp at h⟩
 .cases he:D.empty with
  | true=>exact ⟨nQ,9,.inr (.inr ⟨h0,hp,_,_,hf,.inr (.inl ⟨rfl,he,rfl,rfl⟩)⟩),fun h=>by simp at h⟩
  | false =>
   obtain ⟨j,k0,c,cs,ha⟩:=zuh ok bD he hq;have hh:=bD.FL he (by rw [bD.Fq.1.sub.1];exact hq);obtain ⟨gt,kt,ht⟩:=zuw ok tu hf he hq hh;have Ea:=znZ ok hf;have hx:EM p pt.toNat D (znP p pt.toNat D cs gt kt):=⟨hq,he,hh,Ea.1,fun s hs=>(Ea.2 he s hs).2,j,k0,c,cs,gt,kt,ha,ht,rfl⟩
   exact ⟨_,0,.inr (.inr ⟨h0,hp,D,0,hf,.inr (.inr ⟨rfl,rfl,hx⟩)⟩),fun _=>⟨D,h0,hp.1,hx⟩⟩
theorem sh11:G.shared 11=false:=by decide
end Go.Proofs.YtmmhnfghklppiaaGreat.Vm
