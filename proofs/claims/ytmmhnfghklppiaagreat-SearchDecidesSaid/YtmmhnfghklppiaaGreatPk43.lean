/- search.Solve: the solution that is put together from the parts' first ones. The two Solves and Counts say the same. Plain Lean. What the two Decides answer, and what Prove's tree is. Plain Lean. -/
import Derived.Test.YtmmhnfghklppiaaGreatPk26
import Derived.Test.YtmmhnfghklppiaaGreatPk42
import Derived.Test.YtmmhnfghklppiaaGreatPk33
import Derived.Test.YtmmhnfghklppiaaGreatPk41
namespace Go.Proofs.YtmmhnfghklppiaaGreat.Vm
open Go
set_option linter.unusedSimpArgs false
set_option linter.unusedVariables false
set_option maxHeartbeats 4000000
set_option maxRecDepth 4000
structure SolnIn (D:FoundD) (n0:Nat) (cs:List (List Pt)):Prop where
 n:n0<=12
 sl:D.seens.length<=12
 len:cs.length=D.seens.length
 first:∀ i (h:i < D.seens.length) (h':i < cs.length),D.seens[i].first=some cs[i]
 part:∀ s∈D.seens,s.part.length<=12/\∀ k∈s.part,k < n0
 cl:∀ i (h:i < D.seens.length) (h':i < cs.length),cs[i].length=D.seens[i].part.length
structure SolnAt (D:FoundD) (n0:Nat) (cs:List (List Pt)) (at_:Int) (E:Sl Pt):Prop where
 n:n0<=12
 sl:D.seens.length<=12
 len:cs.length=D.seens.length
 first:∀ i (h:i < D.seens.length) (h':i < cs.length),(i:Int)≠at_->D.seens[i].first=some cs[i]
 own:∀ i (h:i < D.seens.length) (h':i < cs.length),(i:Int)=at_->E=.mk false cs[i]
 part:∀ s∈D.seens,s.part.length<=12/\∀ k∈s.part,k < n0
 cl:∀ i (h:i < D.seens.length) (h':i < cs.length),cs[i].length=D.seens[i].part.length
theorem SolnIn.at {D:FoundD} {n0:Nat} {cs:List (List Pt)} (h:SolnIn D n0 cs):SolnAt D n0 cs (-1) .nil :=
 ⟨h.n,h.sl,h.len,fun i h1 h2 _=>h.first i h1 h2,fun i h1 h2 h3=>by omega,h.part,h.cl⟩
def zmR (D:FoundD) (n0:Nat) (cs:List (List Pt)) (i:Nat):List Pt:=zcd ((D.seens.map (·.part)).take i) (cs.take i) (List.replicate n0 ⟨0,0⟩)
def zbi (p:Problem) (D:FoundD) (e:Int) (cs:List (List Pt)):Sl Pt×Int:=if e≠0 then (.nil,e) else if D.empty=true then (.nil,9) else (.mk false (zmR D p.boxes.xs.length cs D.seens.length),0)
def zjB (gs:List (List Nat)) (x:Nat):List Nat:=(gs.find? fun g=>g.contains x).getD []
theorem zrc {gs:List (List Nat)} (hd:gs.flatten.Nodup) {g:List Nat} (hg:g∈gs) {x:Nat} (hx:x∈g):zjB gs x=g:=by
 unfold zjB
 cases h:gs.find? fun g=>g.contains x with
 | none =>
  have:=List.find?_eq_none.1 h g hg;simp [hx] at this
 | some g' =>
  have h1:=List.mem_of_find?_eq_some h;have h2:=List.find?_some h;simp only [List.contains_iff_mem] at h2;simp only [Option.getD_some];obtain ⟨i,hi,rfl⟩:=List.getElem_of_mem hg;obtain ⟨j,hj,rfl⟩:=List.getElem_of_mem h1
  by_cases e:i=j
  ·subst e;rfl
  ·exact absurd h2 (zg2 hd hi hj e hx)
theorem zpV (p:Problem) (L:Sl Box) {gs:List (List Nat)} (hd:gs.flatten.Nodup) (hlt:∀ g∈gs,∀ x∈g,x < L.xs.length):∃ hb on,SolveJ p L gs gs.length (if gs.any (badR p L)=true then 9 else 0) (gs.map (numR p L)) hb on:=by
 refine ⟨(List.range L.xs.length).map (fun x=>zox p L (zjB gs x) ((zjB gs x).idxOf x)),(List.range L.xs.length).map (fun x=>oneR p L (zjB gs x) ((zjB gs x).idxOf x)),⟨by rw [List.take_length],by rw [List.take_length],by simp,by simp,fun g hg k hk=>?_,fun g hg=>by simp at hg⟩⟩
 rw [List.take_length] at hg;have hm:=List.getElem_mem hk;have hx:=hlt g hg _ hm;have hn:=(List.pairwise_flatten.1 hd).1 g hg;have hi:g.idxOf g[k]=k:=by
  have h1:=List.idxOf_lt_length_of_mem hm;have h2:=List.getElem_idxOf h1;rcases Nat.lt_trichotomy (g.idxOf g[k]) k with h|h|h
  ·exact absurd h2 (List.pairwise_iff_getElem.1 hn _ _ h1 hk h)
  ·exact h
  ·exact absurd h2.symm (List.pairwise_iff_getElem.1 hn _ _ hk h1 h)
 rw [getElem!_pos _ _ (by simpa using hx),getElem!_pos _ _ (by simpa using hx),List.getElem_map,List.getElem_map,List.getElem_range,zrc hd hg hm,hi];exact ⟨rfl,rfl⟩
theorem zpF {p:Problem} {l:List Box} {g:List Nat} (hn:g.Nodup) (hw:∀ f∈p.facts.xs,f.a.toNat∈g->Within g f) (hp:∀ f∈p.facts.xs,0<=f.a):(zbR p (Sl.mk false l) g).length=(zaq p.facts.xs l g).length:=by
 refine ziB ((zfM _).filter _) (zhH _ _ _) fun c=>?_
 unfold zbR;rw [List.mem_filter,zek hn hw,mem_allX];have e:(zS (Sl.mk false l).xs g).length=g.length:=by simp [zS]
 unfold okR;rw [List.all_eq_true];have hc:∀ f∈p.facts.xs,(f∈zbJ p.facts.xs g↔f.a.toNat∈g):=fun f hf=>by
  unfold zbJ inL;rw [List.mem_filter,List.any_eq_true]
  constructor
  ·rintro ⟨_,k,hk,h⟩;simp only [decide_eq_true_eq] at h;rw [h,Int.toNat_natCast];exact hk
  ·intro h;exact ⟨hf,_,h,by have:=hp f hf;simp only [decide_eq_true_eq];omega⟩
 constructor
 ·rintro ⟨⟨h1,h2⟩,h3⟩
  refine ⟨⟨by rw [h1,e],fun k h h'=>by have:=h2 k (by rw [e];exact h) h';simpa [zS] using this⟩,fun f hf ha=>?_⟩
  have:=h3 f ((hc f hf).2 ha)
  simpa using this
 ·rintro ⟨⟨h1,h2⟩,h3⟩
  refine ⟨⟨by rw [h1,e],fun k h h'=>?_⟩,fun f hf=>?_⟩
  ·rw [e] at h
   simpa [zS] using h2 k h h'
  ·have hf':=(List.mem_filter.1 hf).1;have:=h3 f hf' ((hc f hf').1 hf)
   simpa using this
theorem zj7 {b:List Box}:∀ (fs:List Fact) (k:Int),(∀ f∈fs,zJ f b=false)->zkR b fs k=(-1,true)
 | [],_,_=>rfl
 | f::fs,k,h=>by
  unfold zkR;rw [h f List.mem_cons_self];simp only [Bool.false_eq_true,if_false];exact zj7 fs _ fun f' hf=>h f' (List.mem_cons_of_mem _ hf)
theorem zoj {p:Problem} {pts:List Pt} (h0:zac p=0) (h:Solv p pts):(allowsS p pts).2=true:=by
 have hi:insB pts p.boxes.xs:=fun i h1 h2=>by
  have:=h.inn i h2 h1;unfold inB' at this;simp only [inPB,inB,Bool.and_eq_true,decide_eq_true_eq];omega
 unfold allowsS;rw [if_pos ⟨h0,h.len,hi⟩,zj7 _ _ h.facts]
structure SolvesAll (p:Problem) (D:FoundD) (e E:Int) (nS:Sl Int) (hS:Sl Box) (oS:Sl Pt) (ns:List Nat) (cs:List (List Pt)):Prop where
 so:SolvedOut p D e
 sr:zdF p E nS hS oS
 nse:nS.xs=zM ns
 nz:E=0->∀ k∈ns,k≠0
 nl:ns.length<=12
 dl:D.seens.length<=12
 dz:D.empty=false->∀ s∈D.seens,s.n≠0
 soln:e=0->D.empty=false->SolnIn D p.boxes.xs.length cs
 same:(zbi p D e cs).2=E
 count:ziT D e=ziA E ns
 nilE:E≠0->(zbi p D e cs).1=.nil
 ok:E=0->(allowsS p (zbi p D e cs).1.xs).2=true
 len:(zbi p D e cs).1.xs.length < 1000
theorem zgP (facts:List Fact) (l:List Box) (g:List Nat):(zah facts l g).part=g:=by
 unfold zah
 split<;>rfl
theorem znl (p:Problem):∃ D e E nS hS oS ns cs,SolvesAll p D e E nS hS oS ns cs:=by
 by_cases h0:zac p=0
 case neg =>
  have h9:zac p≠9:=by unfold zac;split<;>(try split)<;>omega
  refine ⟨⟨false,[]⟩,zac p,zac p,.nil,.nil,.nil,[],[],.inl ⟨h0,rfl,rfl⟩,.inl ⟨h0,rfl,rfl,rfl,rfl⟩,rfl,fun _=>by simp,by simp,by simp,fun _=>by simp,fun h=>absurd h h0,?_,?_,fun _=>?_,fun h=>absurd h h0,?_⟩
  ·simp [zbi,h0]
  ·simp [ziT,ziA,h0,h9]
  ·simp [zbi,h0]
  ·simp [zbi,h0]
 case pos =>
  have ok:=check_ok.1 h0;obtain ⟨r,hr⟩:=zkr (zb7 ok) (zcM ok)
  cases r with
  | none =>
   refine ⟨⟨true,[]⟩,0,9,.nil,.nil,.nil,[],[],.inr ⟨h0,.inl ⟨hr,rfl,rfl⟩⟩,.inr (.inl ⟨h0,hr,rfl,rfl,rfl,rfl⟩),rfl,fun _=>by simp,by simp,by simp,fun _=>by simp,fun _ h=>by simp at h,?_,?_,fun _=>?_,fun h=>by simp at h,?_⟩
   ·simp [zbi]
   ·simp [ziT,ziA]
   ·simp [zbi]
   ·simp [zbi]
  | some l =>
   obtain ⟨m,hm⟩:=zkB ok.fact
   by_cases hv:volL l (zK m p.boxes.xs.length)<=65536
   case neg =>
    refine ⟨⟨false,[]⟩,2,2,.nil,.nil,.nil,[],[],.inr ⟨h0,.inr ⟨l,m,hr,hm,.inl ⟨by omega,rfl,rfl⟩⟩⟩,.inr (.inr (.inl ⟨h0,l,m,hr,hm,by omega,rfl,rfl,rfl,rfl⟩)),rfl,fun h=>by simp at h,by simp,by simp,fun _=>by simp,fun h=>by simp at h,?_,?_,fun _=>?_,fun h=>by simp at h,?_⟩
    ·simp [zbi]
    ·simp [ziT,ziA]
    ·simp [zbi]
    ·simp [zbi]
   case pos =>
    have hfo:FindOut p ⟨zbu ((zK m p.boxes.xs.length).map (zah p.facts.xs l)),(zK m p.boxes.xs.length).map (zah p.facts.xs l)⟩ 0:=.inr ⟨l,m,hr,hm,.inr ⟨hv,rfl,rfl⟩⟩;have hl:l.length=p.boxes.xs.length:=hr.1.sub.1;have hd:=zbq hm (zaR ok);have hpo:=zbS m p.boxes.xs.length;have nb:=ok.nb;have h1g:∀ g∈zK m p.boxes.xs.length,0 < g.length:=fun g hg=>(zdS ok hm hg).1;obtain ⟨gs,hgs⟩:∃ gs,zK m p.boxes.xs.length=gs:=⟨_,rfl⟩
    rw [hgs] at hfo hd hpo h1g;have hseen:∀ g∈gs,SeenOk p.facts.xs l g (zah p.facts.xs l g):=fun g hg=>by
     refine zkW (fun k hk=>by rw [hl];exact (hd.one g hg).2 k hk) hr.1.wf (fun f hf ha=>hd.within f hf g hg ha) fun f hf=>?_
     have h1:=(z8 f _).1 (ok.fact f hf);exact ⟨by omega,by omega,by omega⟩
    have hnum:∀ g∈gs,numR p (Sl.mk false l) g=((zah p.facts.xs l g).n:Int)/\(badR p (Sl.mk false l) g=((zah p.facts.xs l g).n == 0)):=fun g hg=>by
     have hlen:=h1g g hg;unfold numR badR
     by_cases h1:1 < g.length
     ·have he:=zpF (l:=l) (hd.one g hg).1 (fun f hf ha=>hd.within f hf g hg ha) (fun f hf=>by have h1:=(z8 f _).1 (ok.fact f hf);omega);rw [if_pos h1,(hseen g hg).n,he]
      refine ⟨rfl,?_⟩
      rw [decide_eq_true h1,Bool.true_and,Bool.eq_iff_iff];simp only [List.isEmpty_iff,beq_iff_eq];rw [<- List.length_eq_zero_iff,he]
     ·have hg1:g.length=1:=by omega
      have hx:g[0]! < l.length:=by rw [getElem!_pos g 0 (by omega),hl];exact (hd.one g hg).2 _ (List.getElem_mem _)
      have ha:1<=zaT l[g[0]!]! := by
       rw [getElem!_pos l _ hx];have:=hr.1.wf _ (List.getElem_mem hx);exact zds this
      rw [if_neg h1,Sl.xs_mk,decide_eq_false h1,Bool.false_and];have hn:(zah p.facts.xs l g).n=(zaT l[g[0]!]!).toNat:=by unfold zah;rw [if_pos hg1];rfl
      rw [hn]
      refine ⟨by omega,?_⟩
      symm
      rw [beq_eq_false_iff_ne];omega
    obtain ⟨hb,on,hJ⟩:=zpV p (Sl.mk false l) hd.nodup (fun g hg x hx=>by rw [Sl.xs_mk,hl];exact (hd.one g hg).2 x hx);obtain ⟨D,hD⟩:∃ D:FoundD,D=⟨zbu (gs.map (zah p.facts.xs l)),gs.map (zah p.facts.xs l)⟩:=⟨_,rfl⟩
    rw [<- hD] at hfo;have hDs:D.seens=gs.map (zah p.facts.xs l):=by rw [hD]
    have hbad:gs.any (badR p (Sl.mk false l))=D.empty:=by
     rw [hD];simp only [zbu,List.any_map];rw [Bool.eq_iff_iff,List.any_eq_true,List.any_eq_true]
     constructor
     ·rintro ⟨g,hg,h⟩;exact ⟨g,hg,by rw [(hnum g hg).2] at h;exact h⟩
     ·rintro ⟨g,hg,h⟩;exact ⟨g,hg,by rw [(hnum g hg).2];exact h⟩
    rw [hbad] at hJ;have hN:gs.map (numR p (Sl.mk false l))=zM (D.seens.map (·.n)):=by
     rw [hDs,zM,List.map_map,List.map_map];exact List.map_inj_left.2 fun g hg=>(hnum g hg).1
    have hdz:D.empty=false->∀ s∈D.seens,s.n≠0:=fun he s hs h=>by
     have:zbu D.seens=true:=emptyB_iff.2 ⟨s,hs,h⟩;have h2:D.empty=zbu D.seens:=by rw [hD]
     rw [h2,this] at he;simp at he
    have hle:gs.length<=12:=by omega
    have hdl:D.seens.length<=12:=by rw [hDs,List.length_map];exact hle
    have hfirst:D.empty=false->∀ g∈gs,∃ c∈zaq p.facts.xs l g,(zah p.facts.xs l g).first=some c:=fun he g hg=>(hseen g hg).first (hdz he _ (by rw [hDs];exact List.mem_map.2 ⟨g,hg,rfl⟩));obtain ⟨cs,hcs⟩:∃ cs:List (List Pt),cs=gs.map fun g=>(zah p.facts.xs l g).first.getD []:=⟨_,rfl⟩
    have hcl:cs.length=gs.length:=by rw [hcs,List.length_map]
    have hci:D.empty=false->∀ i (h:i < gs.length) (h':i < cs.length),cs[i]∈zaq p.facts.xs l gs[i]/\(zah p.facts.xs l gs[i]).first=some cs[i]:=fun he i h h'=>by
     obtain ⟨c,hc,hf⟩:=hfirst he _ (List.getElem_mem h);have e:cs[i]=c:=by simp only [hcs,List.getElem_map,hf,Option.getD_some]
     rw [e];exact ⟨hc,hf⟩
    have hsl:D.seens.length=gs.length:=by rw [hDs,List.length_map]
    have hsi:∀ i (h:i < D.seens.length) (h':i < gs.length),D.seens[i]=zah p.facts.xs l gs[i]:=fun i h h'=>by simp only [hDs,List.getElem_map]
    have hSoln:D.empty=false->SolnIn D p.boxes.xs.length cs:=fun he=>by
     refine ⟨nb,hdl,by omega,fun i h1 h2=>?_,fun s hs=>?_,fun i h1 h2=>?_⟩
     ·rw [hsi i h1 (by omega)];exact (hci he i (by omega) h2).2
     ·rw [hDs] at hs;obtain ⟨g,hg,rfl⟩:=List.mem_map.1 hs;rw [zgP];exact ⟨by have:=(hpo.2 g hg).1;omega,(hpo.2 g hg).2⟩
     ·rw [hsi i h1 (by omega),zgP];have hg:=List.getElem_mem (l:=gs) (show i < gs.length by omega);exact ((zek (hd.one _ hg).1 (fun f hf ha=>hd.within f hf _ hg ha)).1 (hci he i (by omega) h2).1).1.1
    have hsolv:D.empty=false->Solv p (zmR D p.boxes.xs.length cs D.seens.length):=fun he=>by
     have hp:D.seens.map (·.part)=gs:=by
      rw [hDs,List.map_map]
      refine List.ext_getElem (by simp) fun i h1 h2=>?_
      simp only [List.getElem_map,Function.comp_apply,zgP]
     unfold zmR;rw [hp,List.take_of_length_le (by omega),List.take_of_length_le (by omega)];have hd':IsDiv p.facts.xs l.length gs:=by rw [hl];exact hd
     have hm':cs∈zhk (gs.map (zaq p.facts.xs l)):=mem_prodC.2 ⟨by simp [hcl],fun k a b=>by
      simp only [List.getElem_map];exact (hci he k (by simpa using a) b).1⟩
     exact zqO hr.1.sub (zkC hd' hm' (p0:=List.replicate p.boxes.xs.length ⟨0,0⟩) (by simp [hl])).1
    refine ⟨D,0,if D.empty=true then 9 else 0,Sl.of (gs.map (numR p (Sl.mk false l))),Sl.mk false hb,Sl.of on,D.seens.map (·.n),cs,.inr ⟨h0,hfo⟩,.inr (.inr (.inr ⟨h0,l,m,_,hb,on,hr,hm,hv,by rw [hgs];exact hJ,rfl,rfl,rfl⟩)),by rw [Sl.xs_of,hN],fun hE k hk=>?_,by rw [List.length_map];exact hdl,hdl,hdz,fun _=>hSoln,?_,?_,fun hE=>?_,fun hE=>?_,?_⟩
    ·have he:D.empty=false:=by
      cases h:D.empty with
      | true=>rw [h] at hE;simp at hE
      | false=>rfl
     obtain ⟨x,hx,rfl⟩:=List.mem_map.1 hk;exact hdz he x hx
    ·cases h:D.empty<;>simp [zbi,h]
    ·unfold ziT ziA;generalize zkM (D.seens.map (·.n)) 1=o
     cases h:D.empty<;>cases o<;>simp [h]
    ·cases h:D.empty with
     | true=>simp [zbi,h]
     | false=>rw [h] at hE;simp at hE
    ·cases h:D.empty with
     | true=>rw [h] at hE;simp at hE
     | false =>
      have e:(zbi p D 0 cs).1.xs=zmR D p.boxes.xs.length cs D.seens.length:=by simp [zbi,h]
      rw [e];exact zoj h0 (hsolv h)
    ·cases h:D.empty with
     | true=>simp [zbi,h]
     | false =>
      have e:(zbi p D 0 cs).1.xs=zmR D p.boxes.xs.length cs D.seens.length:=by simp [zbi,h]
      rw [e,(hsolv h).len];omega
def ansD (D:FoundD) (e:Int):Int:=if e≠0 then e else if D.empty=true then 9 else 0
theorem zs5 {p:Problem} {D:FoundD} {e E:Int} {nS:Sl Int} {hS:Sl Box} {oS:Sl Pt} {ns:List Nat} {cs:List (List Pt)} (h:SolvesAll p D e E nS hS oS ns cs):E=ansD D e:=by
 have:=h.same;unfold zbi at this;unfold ansD;rw [<- this]
 split
 ·rfl
 ·split<;>rfl
theorem zfu {p:Problem} {D:FoundD} {e:Int} (h:SolvedOut p D e):∃ nS hS oS,zdF p (ansD D e) nS hS oS:=by
 obtain ⟨D',e',E,nS,hS,oS,ns,cs,hs⟩:=znl p;obtain ⟨rfl,rfl⟩:=hs.so.unique h;rw [<- zs5 hs];exact ⟨nS,hS,oS,hs.sr⟩
theorem zg4 (p:Problem):∃ E nS hS oS,zdF p E nS hS oS:=by
 obtain ⟨D,e,h⟩:=zpy p;obtain ⟨nS,hS,oS,h⟩:=zfu h;exact ⟨_,nS,hS,oS,h⟩
theorem zlt {p:Problem} {f:Fact} {D1 D2 D3:FoundD} {e1 e2 e3:Int} (h:zD p f=0->FindOut p D1 e1/\FindOut (zad p f false) D2 e2/\FindOut (zad p f true) D3 e3):∃ E1 E2 E3,DecIn p f E1 E2 E3/\zaC (zD p f) E1 E2 E3=za9 (zD p f) D1 e1 D2 e2 D3 e3:=by
 by_cases h0:zD p f=0
 ·obtain ⟨h1,h2,h3⟩:=h h0;obtain ⟨ok,okt,_⟩:=zcb (t:=true) h0;obtain ⟨_,okf,_⟩:=zcb (t:=false) h0
  refine ⟨ansD D1 e1,ansD D2 e2,ansD D3 e3,⟨zfu (.inr ⟨check_ok.2 ok,h1⟩),zfu (.inr ⟨check_ok.2 okf,h2⟩),zfu (.inr ⟨check_ok.2 okt,h3⟩)⟩,?_⟩
  have z1:=znw ok h1;have z2:=znw okf h2;have z3:=znw okt h3;rw [h0];unfold zaC za9 ansD;rcases z1 with rfl|rfl<;>rcases z2 with rfl|rfl<;>rcases z3 with rfl|rfl<;>cases D1.empty<;>cases D2.empty<;>cases D3.empty<;>simp
 ·obtain ⟨E1,n1,b1,c1,s1⟩:=zg4 p;obtain ⟨E2,n2,b2,c2,s2⟩:=zg4 (zad p f false);obtain ⟨E3,n3,b3,c3,s3⟩:=zg4 (zad p f true)
  refine ⟨E1,E2,E3,⟨⟨_,_,_,s1⟩,⟨_,_,_,s2⟩,⟨_,_,_,s3⟩⟩,?_⟩
  unfold zaC za9;rw [if_pos h0,if_pos h0]
theorem zlq {P:Nat->Prop}:∀ (n:Nat),(∃ k,k < n/\P k)->∃ k,k < n/\P k/\∀ j,j < k->¬ P j
 | 0,⟨k,h,_⟩=>absurd h (Nat.not_lt_zero _)
 | n+1,h=>by
  by_cases hc:∃ k,k < n/\P k
  ·obtain ⟨k,h1,h2,h3⟩:=zlq n hc;exact ⟨k,by omega,h2,h3⟩
  ·obtain ⟨k,h1,h2⟩:=h
   refine ⟨k,h1,h2,fun j hj hp=>hc ⟨j,by omega,hp⟩⟩
theorem zrT {q:Problem} (ok:CheckOk q) (hn:q.boxes.xs.length<=5) (hs:∀ b∈q.boxes.xs,b.x.hi - b.x.lo<=60/\b.y.hi - b.y.lo<=60) (hno:¬ ∃ pts,Solv q pts) :
  ∃ m gs k,IsCls (zak q.facts.xs) q.boxes.xs.length m/\gs=zK m q.boxes.xs.length/\GuiltIn q gs k:=by
 obtain ⟨m,hm⟩:=zkB ok.fact;obtain ⟨g,hg,hgn⟩:=zm7 ok hm hno;obtain ⟨i,hi,rfl⟩:=List.mem_iff_getElem.1 hg;have hd:=zbq hm (zaR ok);obtain ⟨k,h1,h2,h3⟩:=zlq (P:=fun k=>zd9 q (zK m q.boxes.xs.length)[k]!) (zK m q.boxes.xs.length).length ⟨i,hi,by rw [getElem!_pos _ i hi];exact hgn⟩;exact ⟨m,_,k,hm,rfl,⟨ok,⟨m,hm,rfl⟩,h1,h2,h3,fun g hg=>FewP.vol hn hs (hd.one g hg).1 (hd.one g hg).2⟩⟩
theorem zra {p:Problem} {f:Fact} (hfew:fewB p=true) {D1 D2 D3:FoundD} {e1 e2 e3:Int} (h:zD p f=0->FindOut p D1 e1/\FindOut (zad p f false) D2 e2/\FindOut (zad p f true) D3 e3):∃ gs k,za9 (zD p f) D1 e1 D2 e2 D3 e3=(2,0)->ProveIn p f gs k:=by
 by_cases hc:za9 (zD p f) D1 e1 D2 e2 D3 e3=(2,0)
 case neg=>exact ⟨[],0,fun h=>absurd h hc⟩
 have h0:zD p f=0:=by
  refine Classical.byContradiction fun hn=>?_
  unfold za9 at hc;rw [if_pos hn] at hc;simp at hc
 obtain ⟨h1,h2,h3⟩:=h h0;obtain ⟨ok,okq,_⟩:=zcb (t:=true) h0;have few:=ztA ok hfew;have hmu:muL p.boxes.xs<=600:=FewP.mu few.nb few.side;obtain ⟨a1,a2,a3,a4,a5⟩:e1=0/\e2=0/\e3=0/\D1.empty=false/\D3.empty=true:=by
  unfold za9 at hc;rw [h0,if_neg (by simp)] at hc
  split at hc
  ·simp at hc
  ·rename_i he
   split at hc
   ·simp at hc
   ·rename_i hd1
    split at hc
    ·rename_i hd3
     refine ⟨?_,?_,?_,by simpa using hd1,hd3⟩
     ·exact Classical.byContradiction fun hn=>he (.inl hn)
     ·exact Classical.byContradiction fun hn=>he (.inr (.inl hn))
     ·exact Classical.byContradiction fun hn=>he (.inr (.inr hn))
    ·split at hc<;>simp at hc
 subst a1 a2 a3;have hno:=(zhS okq h3).1 a5;obtain ⟨m,gs,k,hm,hgs,gi⟩:=zrT okq few.nb few.side hno;have hmem:gs[k]! ∈ zK m (zad p f true).boxes.xs.length:=by rw [<- hgs,getElem!_pos gs k gi.lt];exact List.getElem_mem gi.lt
 exact ⟨gs,k,fun _=>⟨h0,gi,hmu,zop h0 h1 a4 h3 hm hmem gi.no hmu (Nat.lt_succ_self _)⟩⟩
theorem zn4 {p:Problem} {f:Fact} {gs:List (List Nat)} {k:Nat} (h:ProveIn p f gs k):zbp p f (zbx p f gs k)=0:=by
 have h1:=h.tr.1;have h2:=h.tr.2;have hb:(zad p f true).boxes.xs=p.boxes.xs:=rfl;rw [hb] at h1;unfold zbp;rw [if_neg (by simp [h.ok]),if_neg (by omega),if_pos h1]
theorem zt8 {p:Problem} (hfew:fewB p=true) (ok:CheckOk p):muL p.boxes.xs<=600:=by
 have few:=ztA ok hfew;exact FewP.mu few.nb few.side
end Go.Proofs.YtmmhnfghklppiaaGreat.Vm
