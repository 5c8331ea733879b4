/- The specification's Count, walked. The two Solves and Counts say the same. Plain Lean. What the two Decides answer, and what Prove's tree is. Plain Lean. What Extent finds: ends that are solutions, and trees. Plain Lean. search.beyond: walked. search.Extent: walked. search.CheckExtent, where all is well: walked. What holds where points are a solution: no tree fits, extents hold them, proofs are right. Plain Lean, and search.Refute and inside walked. -/
import Derived.Test.YtmmhnfghklppiaaGreatQk40
import Derived.Test.YtmmhnfghklppiaaGreatQk26
import Derived.Test.YtmmhnfghklppiaaGreatQk29
import Derived.Test.YtmmhnfghklppiaaGreatQk27
import Derived.Test.YtmmhnfghklppiaaGreatQk41
import Derived.Test.YtmmhnfghklppiaaGreatQk28
import Derived.Test.YtmmhnfghklppiaaGreatQk33
import Derived.Test.YtmmhnfghklppiaaGreatQk32
namespace Go.Proofs.YtmmhnfghklppiaaGreat.Vm
open Go
set_option linter.unusedSimpArgs false
set_option linter.unusedVariables false
set_option maxHeartbeats 4000000
set_option maxRecDepth 4000
theorem zjf {b:List Box}:∀ (fs:List Fact) (k:Int),(∀ f∈fs,zC f b=false)->zcS b fs k=(-1,true)
 | [],_,_=>rfl
 | f::fs,k,h=>by
  unfold zcS;rw [h f List.mem_cons_self];simp only [Bool.false_eq_true,if_false];exact zjf fs _ fun f' hf=>h f' (List.mem_cons_of_mem _ hf)
theorem zne {p:Problem} {pts:List Pt} (h0:zX p=0) (h:Solv p pts):(allowsS p pts).2=true:=by
 have hi:insB pts p.boxes.xs:=fun i h1 h2=>by
  have:=h.inn i h2 h1;unfold inB' at this;simp only [inPB,inB,Bool.and_eq_true,decide_eq_true_eq];omega
 unfold allowsS;rw [if_pos ⟨h0,h.len,hi⟩,zjf _ _ h.facts]
theorem zdU (facts:List Fact) (l:List Box) (g:List Nat):(zaf facts l g).part=g:=by
 unfold zaf
 split<;>rfl
theorem zll {P:Nat->Prop}:∀ (n:Nat),(∃ k,k < n/\P k)->∃ k,k < n/\P k/\∀ j,j < k->¬ P j
 | 0,⟨k,h,_⟩=>absurd h (Nat.not_lt_zero _)
 | n+1,h=>by
  by_cases hc:∃ k,k < n/\P k
  ·obtain ⟨k,h1,h2,h3⟩:=zll n hc;exact ⟨k,by omega,h2,h3⟩
  ·obtain ⟨k,h1,h2⟩:=h
   refine ⟨k,h1,h2,fun j hj hp=>hc ⟨j,by omega,hp⟩⟩
theorem zk5 {q:Problem} (ok:CheckOk q) (hn:q.boxes.xs.length<=5) (hs:∀ b∈q.boxes.xs,b.x.hi - b.x.lo<=60/\b.y.hi - b.y.lo<=60) (hno:¬ ∃ pts,Solv q pts) :
  ∃ m gs k,IsCls (zaw q.facts.xs) q.boxes.xs.length m/\gs=zad m q.boxes.xs.length/\GuiltIn q gs k:=by
 obtain ⟨m,hm⟩:=zot ok.fact;obtain ⟨g,hg,hgn⟩:=zng ok hm hno;obtain ⟨i,hi,rfl⟩:=List.mem_iff_getElem.1 hg;have hd:=zb7 hm (zbe ok);obtain ⟨k,h1,h2,h3⟩:=zll (P:=fun k=>zdC q (zad m q.boxes.xs.length)[k]!) (zad m q.boxes.xs.length).length ⟨i,hi,by rw [getElem!_pos _ i hi];exact hgn⟩;exact ⟨m,_,k,hm,rfl,⟨ok,⟨m,hm,rfl⟩,h1,h2,h3,fun g hg=>FewP.vol hn hs (hd.one g hg).1 (hd.one g hg).2⟩⟩
theorem zrD {p:Problem} {f:Fact} (hfew:fewB p=true) {D1 D2 D3:FoundD} {e1 e2 e3:Int} (h:zM p f=0->FindOut p D1 e1/\FindOut (zas p f false) D2 e2/\FindOut (zas p f true) D3 e3):∃ gs k,zaS (zM p f) D1 e1 D2 e2 D3 e3=(2,0)->ProveIn p f gs k:=by
 by_cases hc:zaS (zM p f) D1 e1 D2 e2 D3 e3=(2,0)
 case neg=>exact ⟨[],0,fun h=>absurd h hc⟩
 have h0:zM p f=0:=by
  refine Classical.byContradiction fun hn=>?_
  unfold zaS at hc;rw [if_pos hn] at hc;simp at hc
 obtain ⟨h1,h2,h3⟩:=h h0;obtain ⟨ok,okq,_⟩:=zbV (t:=true) h0;have few:=zrw ok hfew;have hmu:muL p.boxes.xs<=600:=FewP.mu few.nb few.side;obtain ⟨a1,a2,a3,a4,a5⟩:e1=0/\e2=0/\e3=0/\D1.empty=false/\D3.empty=true:=by
  unfold zaS at hc;rw [h0,if_neg (by simp)] at hc
  split at hc
  ·simp at hc
  ·rename_i he
   split at hc
   ·simp at hc
   ·rename_i hd1
    split at hc
    ·rename_i hd3
     refine ⟨?_,?_,?_,by simpa using hd1,hd3⟩
     ·exact Classical.byContradiction fun hn=>he (.inl hn)
     ·exact Classical.byContradiction fun hn=>he (.inr (.inl hn))
     ·exact Classical.byContradiction fun hn=>he (.inr (.inr hn))
    ·split at hc<;>simp at hc
 subst a1 a2 a3;have hno:=(zb0 okq h3).1 a5;obtain ⟨m,gs,k,hm,hgs,gi⟩:=zk5 okq few.nb few.side hno;have hmem:gs[k]! ∈ zad m (zas p f true).boxes.xs.length:=by rw [<- hgs,getElem!_pos gs k gi.lt];exact List.getElem_mem gi.lt
 exact ⟨gs,k,fun _=>⟨h0,gi,hmu,zmC h0 h1 a4 h3 hm hmem gi.no hmu (Nat.lt_succ_self _)⟩⟩
theorem zic {p:Problem} {f:Fact} {gs:List (List Nat)} {k:Nat} (h:ProveIn p f gs k):zcA p f (za3 p f gs k)=0:=by
 have h1:=h.tr.1;have h2:=h.tr.2;have hb:(zas p f true).boxes.xs=p.boxes.xs:=rfl;rw [hb] at h1;unfold zcA;rw [if_neg (by simp [h.ok]),if_neg (by omega),if_pos h1]
theorem zte {p:Problem} (hfew:fewB p=true) (ok:CheckOk p):muL p.boxes.xs<=600:=by
 have few:=zrw ok hfew;exact FewP.mu few.nb few.side
instance:Inhabited SeenD:=⟨⟨[],0,[],none⟩⟩
theorem zlc {pt:Nat}:∀ (ss:List SeenD) (a j:Nat) (hj:j < ss.length),pt∈ss[j].part->(∀ j' (h:j' < ss.length),j' < j->pt ∉ ss[j'].part)->zab pt ss a=(zg7 ss[j] (ss[j].part.idxOf pt),((a+j:Nat):Int),((ss[j].part.idxOf pt:Nat):Int))
 | [],a,j,hj,_,_=>by simp at hj
 | s::ss,a,0,hj,hm,_=>by
  have hm':pt∈s.part:=hm;unfold zab;rw [if_pos hm'];rfl
 | s::ss,a,j+1,hj,hm,hn=>by
  have h0:pt ∉ s.part:=hn 0 (by simp) (by omega);unfold zab;rw [if_neg h0];have:=zlc ss (a+1) j (by simpa using hj) hm (fun j' h hj'=>hn (j'+1) (by simpa using h) (by omega));rw [this];have e:a+1+j=a+(j+1):=by omega
  rw [e];rfl
def zoJ (q:Pt) (t:Nat):Int:=if t < 2 then q.x else q.y
def zfk (b:Box) (t:Nat):Int:=match t with
 | 0=>b.x.lo
 | 1=>b.x.hi
 | 2=>b.y.lo
 | _=>b.y.hi
def extE (D:FoundD) (n0:Nat) (cs:Nat->List (List Pt)) (t:Nat):List Pt:=zb3 D n0 (cs t) D.seens.length
structure ExtAt (p:Problem) (D:FoundD) (point j k0:Nat) (c:Nat->List Pt) (cs:Nat->List (List Pt)):Prop where
 hj:j < D.seens.length
 h1:(zab point D.seens 0).2.1=(j:Int)
 h2:(zab point D.seens 0).2.2=(k0:Int)
 kl:k0 < D.seens[j]!.part.length
 len:D.seens[j]!.ends.length=4*D.seens[j]!.part.length
 few:D.seens[j]!.part.length<=12
 ends:∀ t,t < 4->D.seens[j]!.ends[4*k0+t]! = some (c t)
 sol:∀ t,t < 4->SolnAt D p.boxes.xs.length (cs t) j (.mk false (c t))
 solv:∀ t,t < 4->Solv p (extE D p.boxes.xs.length cs t)
 side:∀ t,t < 4->zoJ (extE D p.boxes.xs.length cs t)[point]! t=zfk (zab point D.seens 0).1 t
theorem ztG {p:Problem} (ok:CheckOk p) {D:FoundD} {l:List Box} {gs:List (List Nat)} (h:FindIn p D l gs) (he:D.empty=false) {i:Nat} (hi:i < p.boxes.xs.length):∃ j k0 c cs,ExtAt p D i j k0 c cs:=by
 have hll:l.length=p.boxes.xs.length:=h.nar.1.sub.1;have hdz:∀ g∈gs,(zaf p.facts.xs l g).n≠0:=fun g hg e=>by
  have:D.empty=true:=by rw [h.empty,zcz,h.seens];exact ⟨_,List.mem_map.2 ⟨g,hg,rfl⟩,e⟩
  rw [this] at he;simp at he
 obtain ⟨g,hg,hig⟩:=List.mem_flatten.1 ((h.div.all i).1 (by rw [hll];exact hi));obtain ⟨j,hjg,rfl⟩:=List.mem_iff_getElem.1 hg;have hsl:D.seens.length=gs.length:=by rw [h.seens,List.length_map]
 have hsi:∀ i (h1:i < D.seens.length) (h':i < gs.length),D.seens[i]=zaf p.facts.xs l gs[i]:=fun i h1 h'=>by simp only [h.seens,List.getElem_map]
 have hjs:j < D.seens.length:=by omega
 have hDj:D.seens[j]! = zaf p.facts.xs l gs[j]:=by rw [getElem!_pos D.seens j hjs];exact hsi j hjs hjg
 have hpart:(zaf p.facts.xs l gs[j]).part=gs[j]:=zdU _ _ _;have ho:=h.seen _ hg;have hn:=hdz _ hg;have hlen:=ho.len;have hat:=zlc (pt:=i) D.seens 0 j hjs (by rw [hsi j hjs hjg,hpart];exact hig) (fun j' h1 h2 hm=>by
  rw [hsi j' h1 (by omega),zdU] at hm;exact List.pairwise_iff_getElem.1 (List.pairwise_flatten.1 h.div.nodup).2 j' j (by omega) hjg h2 i hm i hig rfl)
 have hk:=List.idxOf_lt_length_of_mem hig;have hgk:gs[j][gs[j].idxOf i]=i:=List.getElem_idxOf hk;have hone:=h.div.one _ hg;have hfirst:∀ g∈gs,∃ c∈zaj p.facts.xs l g,(zaf p.facts.xs l g).first=some c:=fun g hg=>(h.seen g hg).first (hdz g hg);obtain ⟨cs0,hcs0⟩:∃ cs:List (List Pt),cs=gs.map fun g=>(zaf p.facts.xs l g).first.getD []:=⟨_,rfl⟩
 have hcl:cs0.length=gs.length:=by rw [hcs0,List.length_map]
 have hci:∀ i (h:i < gs.length) (h':i < cs0.length),cs0[i]∈zaj p.facts.xs l gs[i]/\(zaf p.facts.xs l gs[i]).first=some cs0[i]:=fun i h h'=>by
  obtain ⟨c,hc,hf⟩:=hfirst _ (List.getElem_mem h);have e:cs0[i]=c:=by simp only [hcs0,List.getElem_map,hf,Option.getD_some]
  rw [e];exact ⟨hc,hf⟩
 have hex:∀ t,∃ c,t < 4->c∈zaj p.facts.xs l gs[j]/\(zaf p.facts.xs l gs[j]).ends[4*gs[j].idxOf i+t]! = some c:=fun t=>by
  by_cases ht:t < 4
  ·have hj4:4*gs[j].idxOf i+t < (zaf p.facts.xs l gs[j]).ends.length:=by omega
   obtain ⟨c,hc,h1,_⟩:=ho.ends hn _ hj4;exact ⟨c,fun _=>⟨hc,by rw [getElem!_pos (zaf p.facts.xs l gs[j]).ends _ hj4];exact h1⟩⟩
  ·exact ⟨[],fun h=>absurd h ht⟩
 obtain ⟨c,hc⟩:∃ c:Nat->List Pt,∀ t,t < 4->c t∈zaj p.facts.xs l gs[j]/\(zaf p.facts.xs l gs[j]).ends[4*gs[j].idxOf i+t]! = some (c t):=⟨fun t=>(hex t).choose,fun t ht=>(hex t).choose_spec ht⟩
 have hlenC:∀ (g:List Nat),g∈gs->∀ x∈zaj p.facts.xs l g,x.length=g.length:=fun g hg x hx=>((zd0 (h.div.one g hg).1 (fun f hf ha=>h.div.within f hf g hg ha)).1 hx).1.1;have hmem:∀ t,t < 4->cs0.set j (c t)∈zg9 (gs.map (zaj p.facts.xs l)):=fun t ht=>mem_prodC.2 ⟨by simp [hcl],fun k a b=>by
  simp only [List.getElem_map]
  by_cases e:j=k
  ·subst e;rw [List.getElem_set_self];exact (hc t ht).1
  ·rw [List.getElem_set_ne e];exact (hci k (by simpa using a) (by simpa using b)).1⟩
 have hp:D.seens.map (·.part)=gs:=by
  rw [h.seens,List.map_map]
  refine List.ext_getElem (by simp) fun i h1 h2=>?_
  simp only [List.getElem_map,Function.comp_apply,zdU]
 have hput:∀ t,t < 4->extE D p.boxes.xs.length (fun t=>cs0.set j (c t)) t=zbb gs (cs0.set j (c t)) (List.replicate p.boxes.xs.length ⟨0,0⟩):=fun t ht=>by
  unfold extE zb3;rw [hp,List.take_of_length_le (by omega),List.take_of_length_le (by simp;omega)]
 have hboth:∀ t (ht:t < 4),Solv p (extE D p.boxes.xs.length (fun t=>cs0.set j (c t)) t)/\pick (extE D p.boxes.xs.length (fun t=>cs0.set j (c t)) t) gs[j]=c t:=fun t ht=>by
  have hps:=zke h.div (hmem t ht) (p0:=List.replicate p.boxes.xs.length ⟨0,0⟩) (by simp [hll]);rw [hput t ht]
  refine ⟨zmE h.nar.1.sub hps.1,?_⟩
  have h2:=hps.2;have h3:(gs.map (pick (zbb gs (cs0.set j (c t)) (List.replicate p.boxes.xs.length ⟨0,0⟩))))[j]'(by simpa using hjg)=(cs0.set j (c t))[j]'(by simp;omega):=by simp only [h2]
  rw [List.getElem_map,List.getElem_set_self] at h3;exact h3
 refine ⟨j,gs[j].idxOf i,c,fun t=>cs0.set j (c t),hjs,by rw [hat];simp,by rw [hat,hsi j hjs hjg,hpart],by rw [hDj,hpart];exact hk,by rw [hDj,hpart];exact hlen,by rw [hDj,hpart];exact h.few.2 _ hg,fun t ht=>by rw [hDj];exact (hc t ht).2,fun t ht=>?_,fun t ht=>(hboth t ht).1,fun t ht=>?_⟩
 ·refine ⟨ok.nb,by have:=h.few.1;omega,by simp;omega,fun i' h1 h2 hne=>?_,fun i' h1 h2 he'=>?_,fun s hs=>?_,fun i' h1 h2=>?_⟩
  ·rw [hsi i' h1 (by omega),List.getElem_set_ne (by omega)];exact (hci i' (by omega) (by omega)).2
  ·have e:j=i':=by omega
   subst e;rw [List.getElem_set_self]
  ·rw [h.seens] at hs;obtain ⟨g',hg',rfl⟩:=List.mem_map.1 hs;rw [zdU];exact ⟨h.few.2 g' hg',fun k hk=>by rw [<- hll];exact (h.div.one g' hg').2 k hk⟩
  ·rw [hsi i' h1 (by omega),zdU]
   by_cases e:j=i'
   ·subst e;rw [List.getElem_set_self];exact hlenC _ hg _ (hc t ht).1
   ·rw [List.getElem_set_ne e];exact hlenC _ (List.getElem_mem _) _ (hci i' (by omega) (by omega)).1
 ·obtain ⟨hs,hpk⟩:=hboth t ht;have hkp:gs[j].idxOf i < (c t).length:=by rw [hlenC _ hg _ (hc t ht).1];exact hk
  have hv:(c t)[gs[j].idxOf i]=(extE D p.boxes.xs.length (fun t=>cs0.set j (c t)) t)[i]! := by
   have:(c t)[gs[j].idxOf i]=(pick (extE D p.boxes.xs.length (fun t=>cs0.set j (c t)) t) gs[j])[gs[j].idxOf i]'(by simpa [pick] using hk):=by simp only [hpk]
   rw [this];simp only [pick,List.getElem_map,hgk]
  have he4:endP (zaf p.facts.xs l gs[j]) (4*gs[j].idxOf i+t) (gs[j].idxOf i)=(extE D p.boxes.xs.length (fun t=>cs0.set j (c t)) t)[i]! := by
   unfold endP;rw [(hc t ht).2,<- hv];exact getElem!_pos (c t) _ hkp
  rw [hat,hsi j hjs hjg,hpart,<- he4];have ht4:t=0\/t=1\/t=2\/t=3:=by omega
  rcases ht4 with rfl|rfl|rfl|rfl<;>rfl
structure ExtTr (p:Problem) (point:Nat) (b:Box) (gs:Nat->List (List Nat)) (k:Nat->Nat):Prop where
 gi:∀ t,t < 4->zV p.boxes.xs[point]! b t=true->GuiltIn (beyP p point t b) (gs t) (k t)
 mu:∀ t,t < 4->zV p.boxes.xs[point]! b t=true->muL (beyP p point t b).boxes.xs<=600
 tr:∀ t,t < 4->zV p.boxes.xs[point]! b t=true->zgK (beyP p point t b) (zf6 (beyP p point t b) (gs t) (k t))
def extT (p:Problem) (point:Nat) (b:Box) (gs:Nat->List (List Nat)) (k:Nat->Nat) (t:Nat):List Node:=if zV p.boxes.xs[point]! b t=true then zf6 (beyP p point t b) (gs t) (k t) else []
theorem zto {p:Problem} (ok:CheckOk p) (hfew:fewB p=true) {D:FoundD} (h1:FindOut p D 0) (e1:D.empty=false) {point:Nat} {b:Box} (hp:point < p.boxes.xs.length) (hh:HullAt p point b):∃ gs k,ExtTr p point b gs k:=by
 have few:=zrw ok hfew;have hmu:∀ t,zV p.boxes.xs[point]! b t=true->muL (beyP p point t b).boxes.xs<=600:=fun t h=>FewP.mu (by show (beyL p.boxes.xs point t b).length<=5;rw [zey];exact few.nb) (zoH (zbx ok) hp h few.side);have hex:∀ t,∃ gs k,t < 4->zV p.boxes.xs[point]! b t=true->GuiltIn (beyP p point t b) gs k/\zgK (beyP p point t b) (zf6 (beyP p point t b) gs k):=fun t=>by
  by_cases hc:t < 4/\zV p.boxes.xs[point]! b t=true
  case neg=>exact ⟨[],0,fun h1 h2=>absurd ⟨h1,h2⟩ hc⟩
  obtain ⟨ht,hs⟩:=hc;have okq:=zmS ok hp hs;obtain ⟨m,gs,k,hm,hgs,gi⟩:=zk5 okq (by show (beyL p.boxes.xs point t b).length<=5;rw [zey];exact few.nb) (zoH (zbx ok) hp hs few.side) (zqE ok hp ht hs hh);have hmem:gs[k]! ∈ zad m (beyP p point t b).boxes.xs.length:=by rw [<- hgs,getElem!_pos gs k gi.lt];exact List.getElem_mem gi.lt
  exact ⟨gs,k,fun _ _=>⟨gi,zqB ok h1 e1 hp hs hm hmem gi.no (hmu t hs) (Nat.lt_succ_self _)⟩⟩
 refine ⟨fun t=>(hex t).choose,fun t=>(hex t).choose_spec.choose,⟨fun t ht hs=>((hex t).choose_spec.choose_spec ht hs).1,fun t _ hs=>hmu t hs,fun t ht hs=>((hex t).choose_spec.choose_spec ht hs).2⟩⟩
set_option maxHeartbeats 8000000
structure BeyIn (p:Problem) (pt k:Nat) (b:Box):Prop where
 hp:pt < p.boxes.xs.length
 hl:p.boxes.xs.length < 1000
 hk:k < 4
 hs:okN (zfk b k)
theorem sh55:G.shared 55=false:=by decide
theorem e55 (n:Nat) (p:Problem) (pt k:Nat) (b:Box) (h:BeyIn p pt k b):zH G (n+2) 55 [.agg p.cells,.int .i64 (pt:Nat),.int .i64 (k:Nat),.agg b.cells]=some (.tup [.agg (beyP p pt k b).cells,.bool (zV p.boxes.xs[pt]! b k)]):=by
 refine zy (zw _) rfl g55 rfl ?_
 obtain ⟨hp,hl,hk,hs⟩:=h;have hpI:(pt:Int) < p.boxes.xs.length:=by omega
 obtain ⟨bs,fs⟩:=p;have hp':pt < bs.xs.length:=hp;have hl':bs.xs.length < 1000:=hl;have ho:=zdE n;have ho2:=zcC n;have hne:bs.xs≠[]:=fun e=>by rw [e] at hp';simp at hp'
 have hres:(beyP ⟨bs,fs⟩ pt k b).cells=[(Sl.mk false (bs.xs.set pt (beyB bs.xs[pt] b k))).pv Box.cells 4,fs.pv Fact.cells 9]:=by
  unfold beyP beyL;simp only [Problem.cells];rw [getElem!_pos bs.xs pt hp']
 have hsome:zV (Problem.mk bs fs).boxes.xs[pt]! b k=zV bs.xs[pt] b k:=by
  show zV bs.xs[pt]! b k=_;rw [getElem!_pos bs.xs pt hp']
 rw [hres,hsome];clear hres hsome hp hl;have hk4:k=0\/k=1\/k=2\/k=3:=by omega
 rcases hk4 with rfl|rfl|rfl|rfl
 ·unfold okN zfk at hs;simp only at hs;have w1:IntKind.i64.wrap (b.x.lo - 1)=b.x.lo - 1:=wrap64 (by omega) (by omega);have hB:beyB bs.xs[pt] b 0=⟨⟨bs.xs[pt].x.lo,(min bs.xs[pt].x.hi (b.x.lo - 1))⟩,bs.xs[pt].y⟩:=by simp [beyB,putS,axS]
  have hS:zV bs.xs[pt] b 0=decide (bs.xs[pt].x.lo<=min bs.xs[pt].x.hi (b.x.lo - 1)):=by unfold zV;rw [hB];simp [axS]
  rw [hB,hS];have pin:=ze3 hp';(repeat' first|simp [*,za,c55,Problem.cells,Box.cells,Span.cells]|(apply zb<;>intro _ h<;>try simp [-Nat.le_zero_eq] at h))
  refine zaO hl' ?_
  intro B H1 hB1 hBn hnx hsame hnew;obtain ⟨rid,rfl,hg⟩:=hB1.row hne;have hr:=hnew rid ⟨_,_,_,rfl⟩;simp at hr hnx;have k0:H1.get 0=.cells true [.pure (bs.pv Box.cells 4),.pure (fs.pv Fact.cells 9)]:=by rw [hsame 0 (by simp)];simp
  have k1:=hsame 1 (by simp);simp at k1;have hrn:=zt hg;have hr0:rid≠0:=by omega
  have hr1:rid≠1:=by omega
  have hr0':0≠rid:=by omega
  have hr1':1≠rid:=by omega
  have hn0:0 < H1.nx:=by omega
  have hn1:1 < H1.nx:=by omega
  have wz:IntKind.i64.wrap 0=0:=by decide
  have wo:IntKind.i64.wrap 1=1:=by decide
  have td:Int.tdiv 0 2=0:=by decide
  have tm:Int.tmod 0 2=0:=by decide
  clear hB1 hBn hsame hnew;have e3:pt*4+2+1=pt*4+3:=rfl;obtain ⟨ids,hids⟩:=(fun w o o2=>FrzK.aggV (n:=10) (.cons (za6 (n:=8) (f:=Box.cells) (sz:=4) (l:=bs.xs.set pt w) (m:=bs.xs.length) (fun _=>rfl) (by rw [zh hr1,zu (by rw [zaG];exact hrn)]) (by simp)) (.cons (.pure (fs.pv Fact.cells 9)) .nil)) :
   ∀ (w:Box) (o o2:AObj),FrzK (((H1.set 0 o).set rid (.cells true (zq Box.cells (bs.xs.set pt w)))).set 1 o2) false 11 (aggV [.row rid 4 0 bs.xs.length,.pure (fs.pv Fact.cells 9)]) (.agg [(Sl.mk false (bs.xs.set pt w)).pv Box.cells 4,fs.pv Fact.cells 9])) ⟨⟨bs.xs[pt].x.lo,(min bs.xs[pt].x.hi (b.x.lo - 1))⟩,bs.xs[pt].y⟩ (.cells true [.row rid 4 0 bs.xs.length,.pure (fs.pv Fact.cells 9)]) (.cells true [.row rid 4 0 bs.xs.length,.pure (fs.pv Fact.cells 9)])
  (repeat' first|simp [*,za,Box.cells,Span.cells]|(apply zb<;>intro _ h<;>try simp [-Nat.le_zero_eq] at h))
 ·unfold okN zfk at hs;simp only at hs;have w1:IntKind.i64.wrap (b.x.hi+1)=b.x.hi+1:=wrap64 (by omega) (by omega);have hB:beyB bs.xs[pt] b 1=⟨⟨(max bs.xs[pt].x.lo (b.x.hi+1)),bs.xs[pt].x.hi⟩,bs.xs[pt].y⟩:=by simp [beyB,putS,axS]
  have hS:zV bs.xs[pt] b 1=decide (max bs.xs[pt].x.lo (b.x.hi+1)<=bs.xs[pt].x.hi):=by unfold zV;rw [hB];simp [axS]
  rw [hB,hS];have pin:=ze5 hp';(repeat' first|simp [*,za,c55,Problem.cells,Box.cells,Span.cells]|(apply zb<;>intro _ h<;>try simp [-Nat.le_zero_eq] at h))
  refine zaO hl' ?_
  intro B H1 hB1 hBn hnx hsame hnew;obtain ⟨rid,rfl,hg⟩:=hB1.row hne;have hr:=hnew rid ⟨_,_,_,rfl⟩;simp at hr hnx;have k0:H1.get 0=.cells true [.pure (bs.pv Box.cells 4),.pure (fs.pv Fact.cells 9)]:=by rw [hsame 0 (by simp)];simp
  have k1:=hsame 1 (by simp);simp at k1;have hrn:=zt hg;have hr0:rid≠0:=by omega
  have hr1:rid≠1:=by omega
  have hr0':0≠rid:=by omega
  have hr1':1≠rid:=by omega
  have hn0:0 < H1.nx:=by omega
  have hn1:1 < H1.nx:=by omega
  have wz:IntKind.i64.wrap 0=0:=by decide
  have wo:IntKind.i64.wrap 1=1:=by decide
  have td:Int.tdiv 1 2=0:=by decide
  have tm:Int.tmod 1 2=1:=by decide
  clear hB1 hBn hsame hnew;have e3:pt*4+2+1=pt*4+3:=rfl;obtain ⟨ids,hids⟩:=(fun w o o2=>FrzK.aggV (n:=10) (.cons (za6 (n:=8) (f:=Box.cells) (sz:=4) (l:=bs.xs.set pt w) (m:=bs.xs.length) (fun _=>rfl) (by rw [zh hr1,zu (by rw [zaG];exact hrn)]) (by simp)) (.cons (.pure (fs.pv Fact.cells 9)) .nil)) :
   ∀ (w:Box) (o o2:AObj),FrzK (((H1.set 0 o).set rid (.cells true (zq Box.cells (bs.xs.set pt w)))).set 1 o2) false 11 (aggV [.row rid 4 0 bs.xs.length,.pure (fs.pv Fact.cells 9)]) (.agg [(Sl.mk false (bs.xs.set pt w)).pv Box.cells 4,fs.pv Fact.cells 9])) ⟨⟨(max bs.xs[pt].x.lo (b.x.hi+1)),bs.xs[pt].x.hi⟩,bs.xs[pt].y⟩ (.cells true [.row rid 4 0 bs.xs.length,.pure (fs.pv Fact.cells 9)]) (.cells true [.row rid 4 0 bs.xs.length,.pure (fs.pv Fact.cells 9)])
  (repeat' first|simp [*,za,Box.cells,Span.cells]|(apply zb<;>intro _ h<;>try simp [-Nat.le_zero_eq] at h))
 ·unfold okN zfk at hs;simp only at hs;have w1:IntKind.i64.wrap (b.y.lo - 1)=b.y.lo - 1:=wrap64 (by omega) (by omega);have hB:beyB bs.xs[pt] b 2=⟨bs.xs[pt].x,⟨bs.xs[pt].y.lo,(min bs.xs[pt].y.hi (b.y.lo - 1))⟩⟩:=by simp [beyB,putS,axS]
  have hS:zV bs.xs[pt] b 2=decide (bs.xs[pt].y.lo<=min bs.xs[pt].y.hi (b.y.lo - 1)):=by unfold zV;rw [hB];simp [axS]
  rw [hB,hS];have pin:=ze8 hp';(repeat' first|simp [*,za,c55,Problem.cells,Box.cells,Span.cells]|(apply zb<;>intro _ h<;>try simp [-Nat.le_zero_eq] at h))
  refine zaO hl' ?_
  intro B H1 hB1 hBn hnx hsame hnew;obtain ⟨rid,rfl,hg⟩:=hB1.row hne;have hr:=hnew rid ⟨_,_,_,rfl⟩;simp at hr hnx;have k0:H1.get 0=.cells true [.pure (bs.pv Box.cells 4),.pure (fs.pv Fact.cells 9)]:=by rw [hsame 0 (by simp)];simp
  have k1:=hsame 1 (by simp);simp at k1;have hrn:=zt hg;have hr0:rid≠0:=by omega
  have hr1:rid≠1:=by omega
  have hr0':0≠rid:=by omega
  have hr1':1≠rid:=by omega
  have hn0:0 < H1.nx:=by omega
  have hn1:1 < H1.nx:=by omega
  have wz:IntKind.i64.wrap 0=0:=by decide
  have wo:IntKind.i64.wrap 1=1:=by decide
  have td:Int.tdiv 2 2=1:=by decide
  have tm:Int.tmod 2 2=0:=by decide
  clear hB1 hBn hsame hnew;have e3:pt*4+2+1=pt*4+3:=rfl;obtain ⟨ids,hids⟩:=(fun w o o2=>FrzK.aggV (n:=10) (.cons (za6 (n:=8) (f:=Box.cells) (sz:=4) (l:=bs.xs.set pt w) (m:=bs.xs.length) (fun _=>rfl) (by rw [zh hr1,zu (by rw [zaG];exact hrn)]) (by simp)) (.cons (.pure (fs.pv Fact.cells 9)) .nil)) :
   ∀ (w:Box) (o o2:AObj),FrzK (((H1.set 0 o).set rid (.cells true (zq Box.cells (bs.xs.set pt w)))).set 1 o2) false 11 (aggV [.row rid 4 0 bs.xs.length,.pure (fs.pv Fact.cells 9)]) (.agg [(Sl.mk false (bs.xs.set pt w)).pv Box.cells 4,fs.pv Fact.cells 9])) ⟨bs.xs[pt].x,⟨bs.xs[pt].y.lo,(min bs.xs[pt].y.hi (b.y.lo - 1))⟩⟩ (.cells true [.row rid 4 0 bs.xs.length,.pure (fs.pv Fact.cells 9)]) (.cells true [.row rid 4 0 bs.xs.length,.pure (fs.pv Fact.cells 9)])
  (repeat' first|simp [*,za,Box.cells,Span.cells]|(apply zb<;>intro _ h<;>try simp [-Nat.le_zero_eq] at h))
 ·unfold okN zfk at hs;simp only at hs;have w1:IntKind.i64.wrap (b.y.hi+1)=b.y.hi+1:=wrap64 (by omega) (by omega);have hB:beyB bs.xs[pt] b 3=⟨bs.xs[pt].x,⟨(max bs.xs[pt].y.lo (b.y.hi+1)),bs.xs[pt].y.hi⟩⟩:=by simp [beyB,putS,axS]
  have hS:zV bs.xs[pt] b 3=decide (max bs.xs[pt].y.lo (b.y.hi+1)<=bs.xs[pt].y.hi):=by unfold zV;rw [hB];simp [axS]
  rw [hB,hS];have pin:=ze0 hp';(repeat' first|simp [*,za,c55,Problem.cells,Box.cells,Span.cells]|(apply zb<;>intro _ h<;>try simp [-Nat.le_zero_eq] at h))
  refine zaO hl' ?_
  intro B H1 hB1 hBn hnx hsame hnew;obtain ⟨rid,rfl,hg⟩:=hB1.row hne;have hr:=hnew rid ⟨_,_,_,rfl⟩;simp at hr hnx;have k0:H1.get 0=.cells true [.pure (bs.pv Box.cells 4),.pure (fs.pv Fact.cells 9)]:=by rw [hsame 0 (by simp)];simp
  have k1:=hsame 1 (by simp);simp at k1;have hrn:=zt hg;have hr0:rid≠0:=by omega
  have hr1:rid≠1:=by omega
  have hr0':0≠rid:=by omega
  have hr1':1≠rid:=by omega
  have hn0:0 < H1.nx:=by omega
  have hn1:1 < H1.nx:=by omega
  have wz:IntKind.i64.wrap 0=0:=by decide
  have wo:IntKind.i64.wrap 1=1:=by decide
  have td:Int.tdiv 3 2=1:=by decide
  have tm:Int.tmod 3 2=1:=by decide
  clear hB1 hBn hsame hnew;have e3:pt*4+2+1=pt*4+3:=rfl;obtain ⟨ids,hids⟩:=(fun w o o2=>FrzK.aggV (n:=10) (.cons (za6 (n:=8) (f:=Box.cells) (sz:=4) (l:=bs.xs.set pt w) (m:=bs.xs.length) (fun _=>rfl) (by rw [zh hr1,zu (by rw [zaG];exact hrn)]) (by simp)) (.cons (.pure (fs.pv Fact.cells 9)) .nil)) :
   ∀ (w:Box) (o o2:AObj),FrzK (((H1.set 0 o).set rid (.cells true (zq Box.cells (bs.xs.set pt w)))).set 1 o2) false 11 (aggV [.row rid 4 0 bs.xs.length,.pure (fs.pv Fact.cells 9)]) (.agg [(Sl.mk false (bs.xs.set pt w)).pv Box.cells 4,fs.pv Fact.cells 9])) ⟨bs.xs[pt].x,⟨(max bs.xs[pt].y.lo (b.y.hi+1)),bs.xs[pt].y.hi⟩⟩ (.cells true [.row rid 4 0 bs.xs.length,.pure (fs.pv Fact.cells 9)]) (.cells true [.row rid 4 0 bs.xs.length,.pure (fs.pv Fact.cells 9)])
  (repeat' first|simp [*,za,Box.cells,Span.cells]|(apply zb<;>intro _ h<;>try simp [-Nat.le_zero_eq] at h))
structure ExtV where
 box:Box
 ends:Nat->Sl Pt
 trees:Nat->Sl Node
def ExtV.cells (x:ExtV):List PV:=[.int .i64 x.box.x.lo,.int .i64 x.box.x.hi,.int .i64 x.box.y.lo,.int .i64 x.box.y.hi,(x.ends 0).pv Pt.cells 2,(x.ends 1).pv Pt.cells 2,(x.ends 2).pv Pt.cells 2,(x.ends 3).pv Pt.cells 2,(x.trees 0).pv Node.cells 4,(x.trees 1).pv Node.cells 4,(x.trees 2).pv Node.cells 4,(x.trees 3).pv Node.cells 4]
def zeroX:ExtV:=⟨⟨⟨0,0⟩,⟨0,0⟩⟩,fun _=>.nil,fun _=>.nil⟩
def zm5 (p:Problem) (pt:Nat) (D:FoundD) (cs:Nat->List (List Pt)) (gs:Nat->List (List Nat)) (k:Nat->Nat):ExtV:=⟨(zab pt D.seens 0).1,fun t=>.mk false (extE D p.boxes.xs.length cs t),fun t=>Sl.of (extT p pt (zab pt D.seens 0).1 gs k t)⟩
structure ExtOk (p:Problem) (pt:Nat) (D:FoundD) (x:ExtV):Prop where
 lt:pt < p.boxes.xs.length
 empty:D.empty=false
 hull:HullAt p pt (zab pt D.seens 0).1
 sl:D.seens.length<=12
 good:∀ s∈D.seens,SeenGood s
 ex:∃ j k0 c cs gs k,ExtAt p D pt j k0 c cs/\ExtTr p pt (zab pt D.seens 0).1 gs k/\x=zm5 p pt D cs gs k
def zjd (p:Problem) (pt:Int) (x:ExtV) (e:Int):Prop :=
 (zX p≠0/\x=zeroX/\e=zX p) \/
 (zX p=0/\¬ (0<=pt/\pt < p.boxes.xs.length)/\x=zeroX/\e=1) \/
 (zX p=0/\(0<=pt/\pt < p.boxes.xs.length)/\∃ D e',FindOut p D e'/\((e'≠0/\x=zeroX/\e=e')\/(e'=0/\D.empty=true/\x=zeroX/\e=9)\/(e'=0/\e=0/\ExtOk p pt.toNat D x)))
def outC (b:Box) (es ts:Nat->PV) (k:Nat):List AV:=[.pure (.int .i64 b.x.lo),.pure (.int .i64 b.x.hi),.pure (.int .i64 b.y.lo),.pure (.int .i64 b.y.hi),.pure (if 0 < k then es 0 else .nils),.pure (if 1 < k then es 1 else .nils),.pure (if 2 < k then es 2 else .nils),.pure (if 3 < k then es 3 else .nils),.pure (if 0 < k then ts 0 else .nils),.pure (if 1 < k then ts 1 else .nils),.pure (if 2 < k then ts 2 else .nils),.pure (if 3 < k then ts 3 else .nils)]
theorem zaK:zeroX.cells=[.int .i64 0,.int .i64 0,.int .i64 0,.int .i64 0,.nils,.nils,.nils,.nils,.nils,.nils,.nils,.nils]:=rfl
theorem sh21:G.shared 21=false:=by decide
theorem e21 (n:Nat) (p:Problem) (pt:Int) (x:ExtV) (e:Int) (h:zjd p pt x e):zH G (n+700) 21 [.agg p.cells,.int .i64 pt]=some (.tup [.agg x.cells,.int .i64 e]):=by
 refine zy (zw _) rfl g21 rfl ?_
 have hc:=fun H=>ze (G:=G) (n:=n+699) (H:=H) (caps:=[]) (ps:=[.agg p.cells]) sh45 (e45 (n+696) p);simp only [Problem.cells,List.map_cons,List.map_nil] at hc;rcases h with ⟨h0,rfl,rfl⟩|⟨h0,hnp,rfl,rfl⟩|⟨h0,hpt,D,e',hf,h⟩
 ·rw [zaK];generalize zX p=c at *;(repeat' first|simp [*,za,c21,Problem.cells]|(apply zb<;>intro _ h<;>try simp [-Nat.le_zero_eq] at h))
 ·have ok:=check_ok.1 h0;have nb:=ok.nb;rw [h0] at hc;have hi1:inB pt 0 ((p.boxes.xs.length:Int) - 1)=false:=by
   unfold inB;rw [Bool.and_eq_false_iff,decide_eq_false_iff_not,decide_eq_false_iff_not];omega
  have w3:IntKind.i64.wrap ((p.boxes.xs.length:Int) - 1)=(p.boxes.xs.length:Int) - 1:=wrap64 (by omega) (by omega);have hin:=fun H=>ze (G:=G) (n:=n+699) (H:=H) (caps:=[]) (ps:=[.int .i64 pt,.int .i64 0,.int .i64 ((p.boxes.xs.length:Int) - 1)]) sh52 (e52 (n+698) pt 0 ((p.boxes.xs.length:Int) - 1));rw [hi1] at hin;simp only [List.map_cons,List.map_nil] at hin;rw [zaK];clear h0 ok hnp hi1;(repeat' first|simp [*,za,c21,Problem.cells]|(apply zb<;>intro _ h<;>try simp [-Nat.le_zero_eq] at h))
 ·have ok:=check_ok.1 h0;have nb:=ok.nb;rw [h0] at hc;obtain ⟨q,rfl⟩:∃ q:Nat,pt=q:=⟨pt.toNat,by omega⟩
  have hi1:inB (q:Int) 0 ((p.boxes.xs.length:Int) - 1)=true:=by
   unfold inB;rw [Bool.and_eq_true,decide_eq_true_eq,decide_eq_true_eq];omega
  have w3:IntKind.i64.wrap ((p.boxes.xs.length:Int) - 1)=(p.boxes.xs.length:Int) - 1:=wrap64 (by omega) (by omega);have hin:=fun H=>ze (G:=G) (n:=n+699) (H:=H) (caps:=[]) (ps:=[.int .i64 (q:Int),.int .i64 0,.int .i64 ((p.boxes.xs.length:Int) - 1)]) sh52 (e52 (n+698) (q:Int) 0 ((p.boxes.xs.length:Int) - 1));rw [hi1] at hin;have hfi:=fun H=>ze (G:=G) (n:=n+699) (H:=H) (caps:=[]) (ps:=[.agg p.cells]) sh48 (e48 (n+648) p ok D e' hf);have hDc:D.cells=[.bool D.empty,(Sl.of D.seens).pv zcr 1]:=rfl;simp only [Problem.cells,List.map_cons,List.map_nil] at hin hfi;rw [hDc] at hfi;rcases h with ⟨he,rfl,rfl⟩|⟨rfl,he,rfl,rfl⟩|⟨rfl,rfl,hx⟩
  ·rw [zaK];generalize D.empty=B at *;clear h0 ok hpt hi1 hf hDc nb;(repeat' first|simp [*,za,c21,Problem.cells]|(apply zb<;>intro _ h<;>try simp [-Nat.le_zero_eq] at h))
  ·rw [zaK];rw [he] at hfi;clear h0 ok hpt hi1 hf hDc nb he;(repeat' first|simp [*,za,c21,Problem.cells]|(apply zb<;>intro _ h<;>try simp [-Nat.le_zero_eq] at h))
  ·rw [Int.toNat_natCast] at hx;obtain ⟨j,k0,c,cs,gs,kk,ha,ht,rfl⟩:=hx.ex;rw [hx.empty] at hfi;have hhu:=fun H=>ze (G:=G) (n:=n+699) (H:=H) (caps:=[]) (ps:=[.agg D.cells,.int .i64 (q:Nat)]) sh53 (e53 (n+697) D q hx.sl hx.good);rw [ha.h1,ha.h2,hDc,hx.empty] at hhu;have hso:=Hide.mk fun (t:Nat) (ht:t < 4) H=>ze (G:=G) (n:=n+699) (H:=H) (caps:=[]) (ps:=[.agg D.cells,.int .i64 (p.boxes.xs.length:Nat),.int .i64 (j:Int),(Sl.mk false (c t)).pv Pt.cells 2]) sh54 (e54 (n+698) D p.boxes.xs.length (cs t) j (.mk false (c t)) (ha.sol t ht));rw [hDc,hx.empty] at hso;have hq:=hx.lt;have hqw:=zbx ok;have hbx:∀ t,t < 4->okN (zfk (zab q D.seens 0).1 t):=fun t ht4=>by
    have hs:=ha.side t ht4;have hv:=ha.solv t ht4;have hql:q < (extE D p.boxes.xs.length cs t).length:=by rw [hv.len];exact hq
    have hin:=hv.inn q hql hq;have hbv:=valid_iff.1 (ok.valid _ (List.getElem_mem hq));rw [<- hs,getElem!_pos _ q hql];unfold inB' at hin;unfold okN zoJ
    split<;>omega
   have hby:=Hide.mk fun (t:Nat) (ht4:t < 4) H=>ze (G:=G) (n:=n+699) (H:=H) (caps:=[]) (ps:=[.agg p.cells,.int .i64 (q:Nat),.int .i64 (t:Nat),.agg (zab q D.seens 0).1.cells]) sh55 (e55 (n+697) p q t (zab q D.seens 0).1 ⟨hq,by omega,ht4,hbx t ht4⟩);have hrf:=Hide.mk fun (t:Nat) (ht4:t < 4) (hs:zV p.boxes.xs[q]! (zab q D.seens 0).1 t=true) H=>ze (G:=G) (n:=n+699) (H:=H) (caps:=[]) (ps:=[.agg (beyP p q t (zab q D.seens 0).1).cells]) sh39 (e39 (n+59) (beyP p q t (zab q D.seens 0).1) (gs t) (kk t) (ht.gi t ht4 hs) (ht.mu t ht4 hs) (Nat.le_trans (ht.tr t ht4 hs).2 (by decide)));obtain ⟨es,hes⟩:∃ es:Nat->PV,es=fun t=>(Sl.mk false (extE D p.boxes.xs.length cs t)).pv Pt.cells 2:=⟨_,rfl⟩
   obtain ⟨ts,hts⟩:∃ ts:Nat->PV,ts=fun t=>(Sl.of (extT p q (zab q D.seens 0).1 gs kk t)).pv Node.cells 4:=⟨_,rfl⟩
   have hso2:Hide (∀ t,t < 4->∀ H,zG (zm G (n+699)) H (.pure (.func 54 [])) [.pure (.agg [.bool false,(Sl.of D.seens).pv zcr 1]),.pure (.int .i64 (p.boxes.xs.length:Nat)),.pure (.int .i64 (j:Int)),.pure ((Sl.mk false (c t)).pv Pt.cells 2)]=some (.val (.pure (es t)))):=⟨fun t ht4 H=>by rw [hes];exact hso.h t ht4 H⟩
   have htr:Hide (∀ t,t < 4->zV p.boxes.xs[q]! (zab q D.seens 0).1 t=true->∀ H,zG (zm G (n+699)) H (.pure (.func 39 [])) [.pure (.agg (beyP p q t (zab q D.seens 0).1).cells)]=some (.val (.pure (ts t)))):=⟨fun t ht4 hs H=>by
    have h1:=hrf.h t ht4 hs H;rw [hts];simp only;have h2:extT p q (zab q D.seens 0).1 gs kk t=zf6 (beyP p q t (zab q D.seens 0).1) (gs t) (kk t):=by unfold extT;rw [if_pos hs]
    rw [h2];exact h1⟩
   have htn:Hide (∀ t,zV p.boxes.xs[q]! (zab q D.seens 0).1 t=false->ts t=.nils):=⟨fun t hs=>by
    rw [hts];simp only;have h2:extT p q (zab q D.seens 0).1 gs kk t=[]:=by unfold extT;rw [if_neg (by rw [hs];simp)]
    rw [h2];rfl⟩
   have oe1:∀ t,AV.one (.pure (es t))=true:=fun t=>by rw [hes];simp
   have oe2:∀ t,AV.cells (.pure (es t))=[.pure (es t)]:=fun t=>by rw [hes];simp
   have ot1:∀ t,AV.one (.pure (ts t))=true:=fun t=>by rw [hts];simp
   have ot2:∀ t,AV.cells (.pure (ts t))=[.pure (ts t)]:=fun t=>by rw [hts];simp
   have hres:(zm5 p q D cs gs kk).cells=[.int .i64 (zab q D.seens 0).1.x.lo,.int .i64 (zab q D.seens 0).1.x.hi,.int .i64 (zab q D.seens 0).1.y.lo,.int .i64 (zab q D.seens 0).1.y.hi,es 0,es 1,es 2,es 3,ts 0,ts 1,ts 2,ts 3]:=by rw [hes,hts];rfl
   rw [hres];have hjs:=ha.hj;have hlen:=ha.len;have hkl:=ha.kl;have hen:=Hide.mk ha.ends;have hBc:(zab q D.seens 0).1.cells=[.int .i64 (zab q D.seens 0).1.x.lo,.int .i64 (zab q D.seens 0).1.x.hi,.int .i64 (zab q D.seens 0).1.y.lo,.int .i64 (zab q D.seens 0).1.y.hi]:=rfl;rw [hBc] at hhu hby;generalize (zab q D.seens 0).1=bb at *;obtain ⟨⟨bx0,bx1⟩,⟨by0,by1⟩⟩:=bb;simp only at hres hby hhu hBc;obtain ⟨s,hs⟩:∃ s,s=Sl.of D.seens:=⟨_,rfl⟩
   have hsx:s.xs=D.seens:=by rw [hs,Sl.xs_of]
   rw [<- hs] at hfi hhu hso2;have hjs2:j < s.xs.length:=by rw [hsx];exact hjs
   obtain ⟨D',hD'⟩:∃ D',s.xs[j]=D':=⟨_,rfl⟩
   have hDD:D.seens[j]! = D':=by rw [getElem!_pos D.seens j hjs,<- hD'];simp only [hsx]
   rw [hDD] at hlen hkl hen;have hse:zcr s.xs[j]=[.ptr false [z8 D'.part,.int .i64 D'.n,.slice false 4 (chunks 4 D'.part.length (D'.ends.map zW)),zW D'.first] 0]:=by rw [hD'];rfl
   have hca:zc0 4 (.pure (.slice false 4 (chunks 4 D'.part.length (D'.ends.map zW)))) (.pure (.int .i64 k0))=some (.val (.pure (.ptr false [zW (some (c 0)),zW (some (c 1)),zW (some (c 2)),zW (some (c 3))] 0))):=by
    have y:∀ t,t < 4->∃ h:4*k0+t < D'.ends.length,D'.ends[4*k0+t]=some (c t):=fun t ht4=>by
     have h1:4*k0+t < D'.ends.length:=by omega
     exact ⟨h1,by have:=hen.h t ht4;rwa [getElem!_pos D'.ends _ h1] at this⟩
    obtain ⟨y0,z0⟩:=y 0 (by omega);obtain ⟨y1,z1⟩:=y 1 (by omega);obtain ⟨y2,z2⟩:=y 2 (by omega);obtain ⟨y3,z3⟩:=y 3 (by omega)
    refine zeh ?_
    rw [zgD _ _ _ hkl,zsR (by simp;omega)];simp only [Nat.add_zero] at z0;simp [z0,z1,z2,z3]
   have hop:∀ t,zW (some (c t))=(Sl.mk false (c t)).pv Pt.cells 2:=fun t=>rfl;rw [hop,hop,hop,hop] at hca;simp only [Problem.cells,List.map_cons,List.map_nil] at hhu;have hqI:(q:Int) < p.boxes.xs.length:=by omega
   have hjI:(j:Int) < s.xs.length:=by omega
   clear hso hrf hes hts hres ha ht hx hf h0 hpt hi1 hDc hBc hs hsx hD' hDD hlen hkl hen hjs hop hbx hqw ok;generalize z8 D'.part=pp at *;generalize (chunks 4 D'.part.length (D'.ends.map zW))=cc at *;generalize zW D'.first=oo at *;generalize (D'.n:Int)=nn at *;(repeat' first|simp [*,za,c21,Problem.cells,Box.cells,Span.cells,zJ,zai,zbE]|(apply zb<;>intro _ h<;>try simp [-Nat.le_zero_eq] at h))
   refine zF [(13,15),(53,92)] (fun (k:Nat) env H=>env 53=.pure (.int .i64 k)/\k<=4/\3 < H.nx/\H.get 0=.cells true (zeroX.cells.map .pure)/\H.get 1=.cells true [.pure (.bool false),.pure (s.pv zcr 1)]/\H.get 2=.cells true [.pure (.int .i64 bx0),.pure (.int .i64 bx1),.pure (.int .i64 by0),.pure (.int .i64 by1)]/\H.get 3=.cells true (outC ⟨⟨bx0,bx1⟩,⟨by0,by1⟩⟩ es ts k)) (fun k=>4 - k) 0 ?_ ?_ ?_ ?_
   ·decide
   ·exact ⟨by simp,by omega,by simp,by simp [zaK],by simp,by simp,by simp [outC]⟩
   ·simp only [zA];omega
   rintro k env H ⟨g53,hk,hnx,h0,h1,h2,h3⟩;have n0:0 < H.nx:=by omega
   have n1:1 < H.nx:=by omega
   have n2:2 < H.nx:=by omega
   have x0:(0:Nat)≠H.nx:=by omega
   have x1:(1:Nat)≠H.nx:=by omega
   have x2:(2:Nat)≠H.nx:=by omega
   have x3:(3:Nat)≠H.nx:=by omega
   rw [zaK] at h0;have h0H:=Hide.mk h0;have hk5:k=0\/k=1\/k=2\/k=3\/k=4:=by omega
   rcases hk5 with rfl|rfl|rfl|rfl|rfl
   ·have hsk:=hso2.h 0 (by decide);have hbk:=hby.h 0 (by decide);have hrk:=htr.h 0 (by decide);have hnk:=htn.h 0;have w1:IntKind.i64.wrap (0+1)=1:=by decide
    obtain ⟨⟨qb,qf⟩,hqq⟩:∃ q',beyP p q 0 ⟨⟨bx0,bx1⟩,⟨by0,by1⟩⟩=q':=⟨_,rfl⟩
    rw [hqq] at hbk hrk;simp only [Problem.cells,List.map_cons,List.map_nil] at hbk hrk
    push_cast at hbk
    simp [outC] at h3;clear hqq hso2 hby htr htn
    cases hbs:zV p.boxes.xs[q]! ⟨⟨bx0,bx1⟩,⟨by0,by1⟩⟩ 0 with
    | true =>
     have hrk2:=hrk hbs;rw [hbs] at hbk;clear hbs hrk hnk;(repeat' first|simp [*,za,zJ,zai,zbE]|(apply zb<;>intro _ h<;>try simp [-Nat.le_zero_eq] at h))
     refine ⟨1,by omega,by decide,by omega,by omega,by simp [zaK],?_⟩
     rw [zu (by simp;omega)];simp [outC]
    | false =>
     have hnk2:=hnk hbs;rw [hbs] at hbk;clear hbs hrk hnk;(repeat' first|simp [*,za,zJ,zai,zbE]|(apply zb<;>intro _ h<;>try simp [-Nat.le_zero_eq] at h))
     refine ⟨1,by omega,by decide,by omega,by omega,by simp [zaK],?_⟩
     simp [outC,hnk2]
   ·have hsk:=hso2.h 1 (by decide);have hbk:=hby.h 1 (by decide);have hrk:=htr.h 1 (by decide);have hnk:=htn.h 1;have w1:IntKind.i64.wrap (1+1)=2:=by decide
    obtain ⟨⟨qb,qf⟩,hqq⟩:∃ q',beyP p q 1 ⟨⟨bx0,bx1⟩,⟨by0,by1⟩⟩=q':=⟨_,rfl⟩
    rw [hqq] at hbk hrk;simp only [Problem.cells,List.map_cons,List.map_nil] at hbk hrk
    push_cast at hbk
    simp [outC] at h3;clear hqq hso2 hby htr htn
    cases hbs:zV p.boxes.xs[q]! ⟨⟨bx0,bx1⟩,⟨by0,by1⟩⟩ 1 with
    | true =>
     have hrk2:=hrk hbs;rw [hbs] at hbk;clear hbs hrk hnk;(repeat' first|simp [*,za,zJ,zai,zbE]|(apply zb<;>intro _ h<;>try simp [-Nat.le_zero_eq] at h))
     refine ⟨2,by omega,by decide,by omega,by omega,by simp [zaK],?_⟩
     rw [zu (by simp;omega)];simp [outC]
    | false =>
     have hnk2:=hnk hbs;rw [hbs] at hbk;clear hbs hrk hnk;(repeat' first|simp [*,za,zJ,zai,zbE]|(apply zb<;>intro _ h<;>try simp [-Nat.le_zero_eq] at h))
     refine ⟨2,by omega,by decide,by omega,by omega,by simp [zaK],?_⟩
     simp [outC,hnk2]
   ·have hsk:=hso2.h 2 (by decide);have hbk:=hby.h 2 (by decide);have hrk:=htr.h 2 (by decide);have hnk:=htn.h 2;have w1:IntKind.i64.wrap (2+1)=3:=by decide
    obtain ⟨⟨qb,qf⟩,hqq⟩:∃ q',beyP p q 2 ⟨⟨bx0,bx1⟩,⟨by0,by1⟩⟩=q':=⟨_,rfl⟩
    rw [hqq] at hbk hrk;simp only [Problem.cells,List.map_cons,List.map_nil] at hbk hrk
    push_cast at hbk
    simp [outC] at h3;clear hqq hso2 hby htr htn
    cases hbs:zV p.boxes.xs[q]! ⟨⟨bx0,bx1⟩,⟨by0,by1⟩⟩ 2 with
    | true =>
     have hrk2:=hrk hbs;rw [hbs] at hbk;clear hbs hrk hnk;(repeat' first|simp [*,za,zJ,zai,zbE]|(apply zb<;>intro _ h<;>try simp [-Nat.le_zero_eq] at h))
     refine ⟨3,by omega,by decide,by omega,by omega,by simp [zaK],?_⟩
     rw [zu (by simp;omega)];simp [outC]
    | false =>
     have hnk2:=hnk hbs;rw [hbs] at hbk;clear hbs hrk hnk;(repeat' first|simp [*,za,zJ,zai,zbE]|(apply zb<;>intro _ h<;>try simp [-Nat.le_zero_eq] at h))
     refine ⟨3,by omega,by decide,by omega,by omega,by simp [zaK],?_⟩
     simp [outC,hnk2]
   ·have hsk:=hso2.h 3 (by decide);have hbk:=hby.h 3 (by decide);have hrk:=htr.h 3 (by decide);have hnk:=htn.h 3;have w1:IntKind.i64.wrap (3+1)=4:=by decide
    obtain ⟨⟨qb,qf⟩,hqq⟩:∃ q',beyP p q 3 ⟨⟨bx0,bx1⟩,⟨by0,by1⟩⟩=q':=⟨_,rfl⟩
    rw [hqq] at hbk hrk;simp only [Problem.cells,List.map_cons,List.map_nil] at hbk hrk
    push_cast at hbk
    simp [outC] at h3;clear hqq hso2 hby htr htn
    cases hbs:zV p.boxes.xs[q]! ⟨⟨bx0,bx1⟩,⟨by0,by1⟩⟩ 3 with
    | true =>
     have hrk2:=hrk hbs;rw [hbs] at hbk;clear hbs hrk hnk;(repeat' first|simp [*,za,zJ,zai,zbE]|(apply zb<;>intro _ h<;>try simp [-Nat.le_zero_eq] at h))
     refine ⟨4,by omega,by decide,by omega,by omega,by simp [zaK],?_⟩
     rw [zu (by simp;omega)];simp [outC]
    | false =>
     have hnk2:=hnk hbs;rw [hbs] at hbk;clear hbs hrk hnk;(repeat' first|simp [*,za,zJ,zai,zbE]|(apply zb<;>intro _ h<;>try simp [-Nat.le_zero_eq] at h))
     refine ⟨4,by omega,by decide,by omega,by omega,by simp [zaK],?_⟩
     simp [outC,hnk2]
   ·simp [outC] at h3;clear hso2 hby htr htn;(repeat' first|simp [*,za]|(apply zb<;>intro _ h<;>try simp [-Nat.le_zero_eq] at h))
structure CkSide (p:Problem) (q:Nat) (x:ExtV) (k:Nat):Prop where
 al:(allowsS p (x.ends k).xs).2=true
 len:(x.ends k).xs.length=p.boxes.xs.length
 side:zoJ (x.ends k).xs[q]! k=zfk x.box k
 ok:okN (zfk x.box k)
 tl:(x.trees k).xs.length<=262144
 tr:(zV p.boxes.xs[q]! x.box k=true/\muL (beyP p q k x.box).boxes.xs<=600/\zcL (beyP p q k x.box).facts.xs (beyP p q k x.box).boxes.xs (x.trees k).xs=true)\/(zV p.boxes.xs[q]! x.box k=false/\(x.trees k).xs.length=0)
structure CkGood (p:Problem) (q:Nat) (x:ExtV):Prop where
 ok:zX p=0
 lt:q < p.boxes.xs.length
 bx:x.box.x.lo<=x.box.x.hi
 by_:x.box.y.lo<=x.box.y.hi
 sides:∀ k,k < 4->CkSide p q x k
theorem sh22:G.shared 22=false:=by decide
theorem e22 (n:Nat) (p:Problem) (q:Nat) (x:ExtV) (h:CkGood p q x):zH G (n+700) 22 [.agg p.cells,.int .i64 (q:Nat),.agg x.cells]=some (.int .i64 0):=by
 refine zy (zw _) rfl g22 rfl ?_
 have hc:=fun H=>ze (G:=G) (n:=n+699) (H:=H) (caps:=[]) (ps:=[.agg p.cells]) sh45 (e45 (n+696) p);rw [h.ok] at hc;have ok:=check_ok.1 h.ok;have nb:=ok.nb;have hq:=h.lt;have hqI:(q:Int) < p.boxes.xs.length:=by omega
 have hi1:inB (q:Int) 0 ((p.boxes.xs.length:Int) - 1)=true:=by
  unfold inB;rw [Bool.and_eq_true,decide_eq_true_eq,decide_eq_true_eq];omega
 have w3:IntKind.i64.wrap ((p.boxes.xs.length:Int) - 1)=(p.boxes.xs.length:Int) - 1:=wrap64 (by omega) (by omega);have hin:=fun H=>ze (G:=G) (n:=n+699) (H:=H) (caps:=[]) (ps:=[.int .i64 (q:Int),.int .i64 0,.int .i64 ((p.boxes.xs.length:Int) - 1)]) sh52 (e52 (n+698) (q:Int) 0 ((p.boxes.xs.length:Int) - 1));rw [hi1] at hin;have hal:=Hide.mk fun (k:Nat) (hk:k < 4) H=>ze (G:=G) (n:=n+699) (H:=H) (caps:=[]) (ps:=[.agg p.cells,(x.ends k).pv Pt.cells 2]) sh28 (e28 (n+692) p (x.ends k) (by rw [(h.sides k hk).len];omega));have hby:=Hide.mk fun (k:Nat) (hk:k < 4) H=>ze (G:=G) (n:=n+699) (H:=H) (caps:=[]) (ps:=[.agg p.cells,.int .i64 (q:Nat),.int .i64 (k:Nat),.agg x.box.cells]) sh55 (e55 (n+697) p q k x.box ⟨hq,by omega,hk,(h.sides k hk).ok⟩);have hfi:=Hide.mk fun (k:Nat) (hk:k < 4) (hs:zV p.boxes.xs[q]! x.box k=true) (hm:muL (beyP p q k x.box).boxes.xs<=600) H=>ze (G:=G) (n:=n+699) (H:=H) (caps:=[]) (ps:=[.agg (beyP p q k x.box).cells,(x.trees k).pv Node.cells 4]) sh46 (e46 (n+59) (beyP p q k x.box) (zmS ok hq hs) (x.trees k) (by have:=(h.sides k hk).tl;omega) hm);have hsd:=Hide.mk h.sides;have b1:=h.bx;have b2:=h.by_;have nb1:¬ x.box.x.hi < x.box.x.lo:=by omega
 have nb2:¬ x.box.y.hi < x.box.y.lo:=by omega
 simp only [Problem.cells,Box.cells,Span.cells,List.map_cons,List.map_nil] at hc hin;have hbc:x.box.cells=[.int .i64 x.box.x.lo,.int .i64 x.box.x.hi,.int .i64 x.box.y.lo,.int .i64 x.box.y.hi]:=rfl;have hpc:p.cells=[p.boxes.pv Box.cells 4,p.facts.pv Fact.cells 9]:=rfl;rw [hbc,hpc] at hby;rw [hpc] at hal;clear h hi1 ok b1 b2;(repeat' first|simp [*,za,c22,Problem.cells,ExtV.cells,zJ,zai,zbE]|(apply zb<;>intro _ h<;>try simp [-Nat.le_zero_eq] at h))
 refine zF [(6,6),(9,14),(64,141)] (fun (k:Nat) env H=>env 64=.pure (.int .i64 k)/\k<=4/\0 < H.nx/\H.get 0=.cells true [.pure (.int .i64 x.box.x.lo),.pure (.int .i64 x.box.x.hi),.pure (.int .i64 x.box.y.lo),.pure (.int .i64 x.box.y.hi)]) (fun k=>4 - k) 0 ?_ ?_ ?_ ?_
 ·decide
 ·exact ⟨by simp,by omega,by simp,by simp⟩
 ·simp only [zA];omega
 rintro k env H ⟨g64,hk,hnx,h0⟩;have x0:(0:Nat)≠H.nx:=by omega
 have hk5:k=0\/k=1\/k=2\/k=3\/k=4:=by omega
 rcases hk5 with rfl|rfl|rfl|rfl|rfl
 ·have s:=hsd.h 0 (by decide);have hak:=hal.h 0 (by decide);have hbk:=hby.h 0 (by decide);have hfk:=hfi.h 0 (by decide);have w1:IntKind.i64.wrap (0+1)=1:=by decide
  have hl:q < (x.ends 0).xs.length:=by rw [s.len];exact hq
  have hlI:(q:Int) < (x.ends 0).xs.length:=by omega
  have hsv:(x.ends 0).xs[q].x=x.box.x.lo:=by
   have:=s.side;rw [getElem!_pos (x.ends 0).xs q hl] at this;exact this
  have htl:¬ (262144:Int) < (x.trees 0).xs.length:=by have:=s.tl;omega
  rw [s.al] at hak;generalize (allowsS p (x.ends 0).xs).1=av at *;obtain ⟨q',hqq⟩:∃ q',beyP p q 0 x.box=q':=⟨_,rfl⟩
  have hadr:=zax (k:=.i64) (f:=Pt.cells) (sz:=2) (s:=x.ends 0) hl;have str:=s.tr;rw [hqq] at hbk hfk str;obtain ⟨qb,qf⟩:=q';simp only [Problem.cells,Pt.cells,List.map_cons,List.map_nil] at hbk hak hadr
  push_cast at hbk
  clear hqq hal hby hfi hsd s;rcases str with ⟨t1,t2,t3⟩|⟨t1,t2⟩
  ·have hf2:=hfk t1 t2;rw [t3] at hf2;rw [t1] at hbk;simp only [Problem.cells,List.map_cons,List.map_nil] at hf2;clear hfk t1 t2 t3;(repeat' first|simp [*,za,zJ,zai,zbE,Pt.cells]|(apply zb<;>intro _ h<;>try simp [-Nat.le_zero_eq] at h));exact ⟨1,by omega,by decide,by omega⟩
  ·have t2I:((x.trees 0).xs.length:Int)=0:=by omega
   rw [t1] at hbk;clear hfk t1;(repeat' first|simp [*,za,zJ,zai,zbE,Pt.cells]|(apply zb<;>intro _ h<;>try simp [-Nat.le_zero_eq] at h));exact ⟨1,by omega,by decide,by omega⟩
 ·have s:=hsd.h 1 (by decide);have hak:=hal.h 1 (by decide);have hbk:=hby.h 1 (by decide);have hfk:=hfi.h 1 (by decide);have w1:IntKind.i64.wrap (1+1)=2:=by decide
  have hl:q < (x.ends 1).xs.length:=by rw [s.len];exact hq
  have hlI:(q:Int) < (x.ends 1).xs.length:=by omega
  have hsv:(x.ends 1).xs[q].x=x.box.x.hi:=by
   have:=s.side;rw [getElem!_pos (x.ends 1).xs q hl] at this;exact this
  have htl:¬ (262144:Int) < (x.trees 1).xs.length:=by have:=s.tl;omega
  rw [s.al] at hak;generalize (allowsS p (x.ends 1).xs).1=av at *;obtain ⟨q',hqq⟩:∃ q',beyP p q 1 x.box=q':=⟨_,rfl⟩
  have hadr:=zax (k:=.i64) (f:=Pt.cells) (sz:=2) (s:=x.ends 1) hl;have str:=s.tr;rw [hqq] at hbk hfk str;obtain ⟨qb,qf⟩:=q';simp only [Problem.cells,Pt.cells,List.map_cons,List.map_nil] at hbk hak hadr
  push_cast at hbk
  clear hqq hal hby hfi hsd s;rcases str with ⟨t1,t2,t3⟩|⟨t1,t2⟩
  ·have hf2:=hfk t1 t2;rw [t3] at hf2;rw [t1] at hbk;simp only [Problem.cells,List.map_cons,List.map_nil] at hf2;clear hfk t1 t2 t3;(repeat' first|simp [*,za,zJ,zai,zbE,Pt.cells]|(apply zb<;>intro _ h<;>try simp [-Nat.le_zero_eq] at h));exact ⟨2,by omega,by decide,by omega⟩
  ·have t2I:((x.trees 1).xs.length:Int)=0:=by omega
   rw [t1] at hbk;clear hfk t1;(repeat' first|simp [*,za,zJ,zai,zbE,Pt.cells]|(apply zb<;>intro _ h<;>try simp [-Nat.le_zero_eq] at h));exact ⟨2,by omega,by decide,by omega⟩
 ·have s:=hsd.h 2 (by decide);have hak:=hal.h 2 (by decide);have hbk:=hby.h 2 (by decide);have hfk:=hfi.h 2 (by decide);have w1:IntKind.i64.wrap (2+1)=3:=by decide
  have hl:q < (x.ends 2).xs.length:=by rw [s.len];exact hq
  have hlI:(q:Int) < (x.ends 2).xs.length:=by omega
  have hsv:(x.ends 2).xs[q].y=x.box.y.lo:=by
   have:=s.side;rw [getElem!_pos (x.ends 2).xs q hl] at this;exact this
  have htl:¬ (262144:Int) < (x.trees 2).xs.length:=by have:=s.tl;omega
  rw [s.al] at hak;generalize (allowsS p (x.ends 2).xs).1=av at *;obtain ⟨q',hqq⟩:∃ q',beyP p q 2 x.box=q':=⟨_,rfl⟩
  have hadr:=zax (k:=.i64) (f:=Pt.cells) (sz:=2) (s:=x.ends 2) hl;have str:=s.tr;rw [hqq] at hbk hfk str;obtain ⟨qb,qf⟩:=q';simp only [Problem.cells,Pt.cells,List.map_cons,List.map_nil] at hbk hak hadr
  push_cast at hbk
  clear hqq hal hby hfi hsd s;rcases str with ⟨t1,t2,t3⟩|⟨t1,t2⟩
  ·have hf2:=hfk t1 t2;rw [t3] at hf2;rw [t1] at hbk;simp only [Problem.cells,List.map_cons,List.map_nil] at hf2;clear hfk t1 t2 t3;(repeat' first|simp [*,za,zJ,zai,zbE,Pt.cells]|(apply zb<;>intro _ h<;>try simp [-Nat.le_zero_eq] at h));exact ⟨3,by omega,by decide,by omega⟩
  ·have t2I:((x.trees 2).xs.length:Int)=0:=by omega
   rw [t1] at hbk;clear hfk t1;(repeat' first|simp [*,za,zJ,zai,zbE,Pt.cells]|(apply zb<;>intro _ h<;>try simp [-Nat.le_zero_eq] at h));exact ⟨3,by omega,by decide,by omega⟩
 ·have s:=hsd.h 3 (by decide);have hak:=hal.h 3 (by decide);have hbk:=hby.h 3 (by decide);have hfk:=hfi.h 3 (by decide);have w1:IntKind.i64.wrap (3+1)=4:=by decide
  have hl:q < (x.ends 3).xs.length:=by rw [s.len];exact hq
  have hlI:(q:Int) < (x.ends 3).xs.length:=by omega
  have hsv:(x.ends 3).xs[q].y=x.box.y.hi:=by
   have:=s.side;rw [getElem!_pos (x.ends 3).xs q hl] at this;exact this
  have htl:¬ (262144:Int) < (x.trees 3).xs.length:=by have:=s.tl;omega
  rw [s.al] at hak;generalize (allowsS p (x.ends 3).xs).1=av at *;obtain ⟨q',hqq⟩:∃ q',beyP p q 3 x.box=q':=⟨_,rfl⟩
  have hadr:=zax (k:=.i64) (f:=Pt.cells) (sz:=2) (s:=x.ends 3) hl;have str:=s.tr;rw [hqq] at hbk hfk str;obtain ⟨qb,qf⟩:=q';simp only [Problem.cells,Pt.cells,List.map_cons,List.map_nil] at hbk hak hadr
  push_cast at hbk
  clear hqq hal hby hfi hsd s;rcases str with ⟨t1,t2,t3⟩|⟨t1,t2⟩
  ·have hf2:=hfk t1 t2;rw [t3] at hf2;rw [t1] at hbk;simp only [Problem.cells,List.map_cons,List.map_nil] at hf2;clear hfk t1 t2 t3;(repeat' first|simp [*,za,zJ,zai,zbE,Pt.cells]|(apply zb<;>intro _ h<;>try simp [-Nat.le_zero_eq] at h));exact ⟨4,by omega,by decide,by omega⟩
  ·have t2I:((x.trees 3).xs.length:Int)=0:=by omega
   rw [t1] at hbk;clear hfk t1;(repeat' first|simp [*,za,zJ,zai,zbE,Pt.cells]|(apply zb<;>intro _ h<;>try simp [-Nat.le_zero_eq] at h));exact ⟨4,by omega,by decide,by omega⟩
 ·clear hal hby hfi hsd;(repeat' first|simp [*,za]|(apply zb<;>intro _ h<;>try simp [-Nat.le_zero_eq] at h))
set_option maxHeartbeats 4000000
theorem zg4 {b:List Box}:∀ (fs:List Fact) (k:Int),(zcS b fs k).2=true->∀ f∈fs,zC f b=false
 | [],k,_,f,hf=>by simp at hf
 | g::fs,k,h,f,hf=>by
  unfold zcS at h
  cases hg:zC g b with
  | true=>rw [hg] at h;simp at h
  | false =>
   rw [hg] at h;simp only [Bool.false_eq_true,if_false] at h;rcases List.mem_cons.1 hf with rfl|hf
   ·exact hg
   ·exact zg4 fs _ h f hf
theorem zlf {p:Problem} {pts:List Pt} (h:(allowsS p pts).2=true):zX p=0/\Solv p pts:=by
 unfold allowsS at h
 split at h
 ·rename_i hc;obtain ⟨h0,hl,hi⟩:=hc
  refine ⟨h0,hl,fun i h1 h2=>?_,zg4 _ _ h⟩
  have:=hi i h2 h1;unfold inPB inB at this;simp only [Bool.and_eq_true,decide_eq_true_eq] at this;unfold inB';omega
 ·simp at h
theorem znl {p:Problem} {pts:List Pt} (h0:zX p=0) (hs:Solv p pts) (tree:List Node):zfe p tree≠0:=by
 have hf:=ziL (check_ok.1 h0) (tree:=tree) hs;unfold zfe;rw [if_neg (by simp [h0]),hf]
 split<;>simp
theorem zld {p:Problem} {f:Fact} {pts:List Pt} (ok:CheckOk p) (hfm:zar f p.boxes.xs.length=true) (hs:Solv p pts) (h:zC f (pts.map atB)=false):zeg f pts=true:=by
 unfold zeg zdv;rw [h];simp only [Bool.not_false,Bool.and_true,Bool.and_eq_true,List.all_eq_true]
 refine ⟨zj9 ok hs,?_⟩
 rw [List.length_map,hs.len];exact hfm
theorem zlF {p:Problem} {f:Fact} {D1 D2 D3:FoundD} {e1 e2 e3:Int} (h:zM p f=0->FindOut p D1 e1/\FindOut (zas p f false) D2 e2/\FindOut (zas p f true) D3 e3) (hd:zaS (zM p f) D1 e1 D2 e2 D3 e3=(2,0)) {pts:List Pt} (hs:Solv p pts):zeg f pts=true:=by
 obtain ⟨h0,_,hc⟩:=znb h (by rw [hd]);rw [hd] at hc;obtain ⟨ok,_,hfm⟩:=zbV (t:=true) h0;rcases hc with ⟨_,ha⟩|⟨hv,_⟩|⟨hv,_⟩
 ·exact zld ok hfm hs (ha pts hs)
 ·simp at hv
 ·simp at hv
theorem zls {p:Problem} {f:Fact} {tree:List Node} (hz:zcA p f tree=0) {pts:List Pt} (hs:Solv p pts):zeg f pts=true:=by
 unfold zcA at hz
 split at hz
 ·rename_i h;exact absurd hz h
 ·rename_i h;have h0:zM p f=0:=Classical.byContradiction fun hn=>h hn;obtain ⟨ok,okq,hfm⟩:=zbV (t:=true) h0
  split at hz
  ·simp at hz
  ·split at hz
   ·rename_i hfit
    refine zld ok hfm hs ?_
    have ht:=zjh ok hfm hs
    cases hf:zC f (pts.map atB) with
    | false=>rfl
    | true =>
     rw [hf] at ht;have hq:Solv (zas p f true) pts:=sol_with.2 ⟨hs,ht⟩;have:=ziL okq (tree:=tree) hq;have hb:(zas p f true).boxes.xs=p.boxes.xs:=rfl;rw [hb,hfit] at this;simp at this
   ·simp at hz
theorem zr8 {p:Problem} {q:Nat} {D:FoundD} {x:ExtV} (h0:zX p=0) (h:ExtOk p q D x):CkGood p q x:=by
 obtain ⟨j,k0,c,cs,gs,k,ha,ht,rfl⟩:=h.ex;have ok:=check_ok.1 h0;have hq:=h.lt;obtain ⟨p0,s0,v0⟩:=h.hull.x0;obtain ⟨p2,s2,v2⟩:=h.hull.y0;have i0:=h.hull.all p0 s0;have i2:=h.hull.all p2 s2;unfold inB' at i0 i2
 refine ⟨h0,hq,by show (zab q D.seens 0).1.x.lo<=(zab q D.seens 0).1.x.hi;omega,by show (zab q D.seens 0).1.y.lo<=(zab q D.seens 0).1.y.hi;omega,fun t ht4=>?_⟩
 have hv:=ha.solv t ht4;have hs:=ha.side t ht4;have hql:q < (extE D p.boxes.xs.length cs t).length:=by rw [hv.len];exact hq
 have hin:=hv.inn q hql hq;have hbv:=valid_iff.1 (ok.valid _ (List.getElem_mem hq))
 refine ⟨zne h0 hv,hv.len,hs,?_,?_,?_⟩
 ·show okN (zfk (zab q D.seens 0).1 t);rw [<- hs,getElem!_pos _ q hql];unfold inB' at hin;unfold okN zoJ
  split<;>omega
 ·show (Sl.of (extT p q (zab q D.seens 0).1 gs k t)).xs.length<=262144;rw [Sl.xs_of];unfold extT
  split
  ·rename_i hb;exact (ht.tr t ht4 hb).2
  ·simp
 ·show (zV p.boxes.xs[q]! (zab q D.seens 0).1 t=true/\muL (beyP p q t (zab q D.seens 0).1).boxes.xs<=600/\zcL (beyP p q t (zab q D.seens 0).1).facts.xs (beyP p q t (zab q D.seens 0).1).boxes.xs (Sl.of (extT p q (zab q D.seens 0).1 gs k t)).xs=true)\/(zV p.boxes.xs[q]! (zab q D.seens 0).1 t=false/\(Sl.of (extT p q (zab q D.seens 0).1 gs k t)).xs.length=0)
  rw [Sl.xs_of]
  cases hb:zV p.boxes.xs[q]! (zab q D.seens 0).1 t with
  | true =>
   left;have he:extT p q (zab q D.seens 0).1 gs k t=zf6 (beyP p q t (zab q D.seens 0).1) (gs t) (k t):=by unfold extT;rw [if_pos hb]
   rw [he];exact ⟨rfl,ht.mu t ht4 hb,(ht.tr t ht4 hb).1⟩
  | false =>
   right;have he:extT p q (zab q D.seens 0).1 gs k t=[]:=by unfold extT;rw [if_neg (by rw [hb];simp)]
   rw [he];exact ⟨rfl,rfl⟩
theorem zpC (p:Problem) (hfew:fewB p=true) (pt:Int):∃ x e,zjd p pt x e/\(e=0->∃ D,zX p=0/\0<=pt/\ExtOk p pt.toNat D x):=by
 by_cases h0:zX p=0
 case neg=>exact ⟨zeroX,zX p,.inl ⟨h0,rfl,rfl⟩,fun h=>absurd h h0⟩
 by_cases hp:0<=pt/\pt < p.boxes.xs.length
 case neg=>exact ⟨zeroX,1,.inr (.inl ⟨h0,hp,rfl,rfl⟩),fun h=>by simp at h⟩
 have ok:=check_ok.1 h0;obtain ⟨D,e',hf⟩:=zf5 ok;have hq:pt.toNat < p.boxes.xs.length:=by omega
 rcases zkm ok hf with ⟨rfl,rfl,_⟩|⟨rfl,rfl⟩|⟨rfl,l,gs,hin⟩
 ·exact ⟨zeroX,9,.inr (.inr ⟨h0,hp,_,_,hf,.inr (.inl ⟨rfl,rfl,rfl,rfl⟩)⟩),fun h=>by simp at h⟩
 ·exact ⟨zeroX,2,.inr (.inr ⟨h0,hp,_,_,hf,.inl ⟨by simp,rfl,rfl⟩⟩),fun h=>by simp at h⟩
 ·cases he:D.empty with
  | true=>exact ⟨zeroX,9,.inr (.inr ⟨h0,hp,_,_,hf,.inr (.inl ⟨rfl,he,rfl,rfl⟩)⟩),fun h=>by simp at h⟩
  | false =>
   obtain ⟨j,k0,c,cs,ha⟩:=ztG ok hin he hq;have hh:=hin.hull he (by rw [hin.nar.1.sub.1];exact hq);obtain ⟨gt,kt,ht⟩:=zto ok hfew hf he hq hh;have hse:=znh ok hf;have hx:ExtOk p pt.toNat D (zm5 p pt.toNat D cs gt kt):=⟨hq,he,hh,hse.1,fun s hs=>(hse.2 he s hs).2,j,k0,c,cs,gt,kt,ha,ht,rfl⟩
   exact ⟨_,0,.inr (.inr ⟨h0,hp,D,0,hf,.inr (.inr ⟨rfl,rfl,hx⟩)⟩),fun _=>⟨D,h0,hp.1,hx⟩⟩
theorem zpM {p:Problem} {pts:List Pt} (h0:zX p=0) (hs:Solv p pts):∃ L:Sl Box,zrB p (zb5 p) (L.pv Box.cells 4) 0/\L.xs.length=pts.length/\∀ i (h:i < pts.length) (h':i < L.xs.length),inB' pts[i] L.xs[i]:=by
 have ok:=check_ok.1 h0;obtain ⟨r,hr⟩:=zkv (zbJ ok) (zbx ok);obtain ⟨l,rfl,hl⟩:=zgf hr hs;obtain ⟨L,hL,hLx⟩:=znG (p:=p) (l:=l) hr.1.sub.1;exact ⟨L,.inr ⟨h0,some l,hr,hL.symm,rfl⟩,by rw [hLx];exact hl.len.symm,fun i h1 h2=>by
  have:=hl.inn i h1 (by rw [<- hLx];exact h2)
  simpa only [hLx] using this⟩
theorem zkB {p:Problem} {pts:List Pt} (h0:zX p=0) (hs:Solv p pts) {D:FoundD} {e:Int} (h:SolvedOut p D e):e=0->D.empty=false:=fun he=>by
 rcases h with ⟨h1,_⟩|⟨_,h⟩
 ·exact absurd h0 h1
 ·subst he;have:=zb0 (check_ok.1 h0) h
  cases hb:D.empty with
  | false=>rfl
  | true=>exact absurd ⟨pts,hs⟩ (this.1 hb)
theorem sh11:G.shared 11=false:=by decide
theorem e11 (n:Nat) (p:Problem) (D:FoundD) (e:Int) (h:SolvedOut p D e) (hne:e=0->D.empty=false):zH G (n+700) 11 [.agg p.cells]=some (.tup [.nils,.int .i64 (if e≠0 then e else 5)]):=by
 refine zy (zw _) rfl g11 rfl ?_
 have hn:=fun H=>ze (G:=G) (n:=n+699) (H:=H) (caps:=[]) (ps:=[.agg p.cells]) sh38 (e38 (n+647) p D e h);have hDc:D.cells=[.bool D.empty,(Sl.of D.seens).pv zcr 1]:=rfl;rw [hDc] at hn;simp only [Problem.cells,List.map_cons,List.map_nil] at hn
 by_cases he:e=0
 ·have hb:=hne he;subst he;rw [hb] at hn;rw [if_neg (by simp)];clear h hne hb hDc;(repeat' first|simp [*,za,c11,Problem.cells]|(apply zb<;>intro _ h<;>try simp [-Nat.le_zero_eq] at h))
 ·rw [if_pos he];generalize D.empty=B at *;clear h hne hDc;(repeat' first|simp [*,za,c11,Problem.cells]|(apply zb<;>intro _ h<;>try simp [-Nat.le_zero_eq] at h))
theorem sh29:G.shared 29=false:=by decide
theorem e29 (n:Nat) (q:Pt) (b:Box) (h:inB' q b):zH G (n+1) 29 [.agg q.cells,.agg b.cells]=some (.bool true):=by
 refine zy (zw _) rfl g29 rfl ?_
 obtain ⟨h1,h2,h3,h4⟩:=h;(repeat' first|simp [*,za,c29,Pt.cells,Box.cells,Span.cells]|(apply zb<;>intro _ h<;>try simp [-Nat.le_zero_eq] at h))
end Go.Proofs.YtmmhnfghklppiaaGreat.Vm
