/- search.Solve: the solution that is put together from the parts' first ones. The two Solves and Counts say the same. Plain Lean. -/
import Derived.Test.YtmghcpdpilgplaaGreatPk26
import Derived.Test.YtmghcpdpilgplaaGreatPk35
import Derived.Test.YtmghcpdpilgplaaGreatPk28
namespace Go.Proofs.YtmghcpdpilgplaaGreat.Vm
open Go
set_option maxHeartbeats 4000000
set_option maxRecDepth 4000
structure SolnIn (D:FoundD) (n0:Nat) (cs:List (List Pt)):Prop where
 n:n0≤12
 sl:D.seens.length≤12
 len:cs.length=D.seens.length
 first:∀ i (h:i < D.seens.length) (h':i < cs.length),D.seens[i].first=some cs[i]
 part:∀ s∈D.seens,s.part.length≤12∧∀ k∈s.part,k < n0
 cl:∀ i (h:i < D.seens.length) (h':i < cs.length),cs[i].length=D.seens[i].part.length
def solTo (D:FoundD) (n0:Nat) (cs:List (List Pt)) (i:Nat):List Pt:=putAll ((D.seens.map (·.part)).take i) (cs.take i) (List.replicate n0 ⟨0,0⟩)
def solveF (p:Problem) (D:FoundD) (e:Int) (cs:List (List Pt)):Sl Pt×Int:=if e≠0 then (.nil,e) else if D.empty=true then (.nil,9) else (.mk false (solTo D p.boxes.xs.length cs D.seens.length),0)
def holdG (gs:List (List Nat)) (x:Nat):List Nat:=(gs.find? fun g=>g.contains x).getD []
theorem holdG_at {gs:List (List Nat)} (hd:gs.flatten.Nodup) {g:List Nat} (hg:g∈gs) {x:Nat} (hx:x∈g):holdG gs x=g:=by
 unfold holdG
 cases h:gs.find? fun g=>g.contains x with
 | none =>
  have:=List.find?_eq_none.1 h g hg;simp [hx] at this
 | some g' =>
  have h1:=List.mem_of_find?_eq_some h;have h2:=List.find?_some h;simp only [List.contains_iff_mem] at h2;simp only [Option.getD_some];obtain ⟨i,hi,rfl⟩:=List.getElem_of_mem hg;obtain ⟨j,hj,rfl⟩:=List.getElem_of_mem h1
  by_cases e:i=j
  ·subst e;rfl
  ·exact absurd h2 (flat_disj hd hi hj e hx)
theorem solveJ_ex (p:Problem) (L:Sl Box) {gs:List (List Nat)} (hd:gs.flatten.Nodup) (hlt:∀ g∈gs,∀ x∈g,x < L.xs.length):∃ hb on,SolveJ p L gs gs.length (if gs.any (badR p L)=true then 9 else 0) (gs.map (numR p L)) hb on:=by
 refine ⟨(List.range L.xs.length).map (fun x=>hullR p L (holdG gs x) ((holdG gs x).idxOf x)),(List.range L.xs.length).map (fun x=>oneR p L (holdG gs x) ((holdG gs x).idxOf x)),⟨by rw [List.take_length],by rw [List.take_length],by simp,by simp,fun g hg k hk=>?_,fun g hg=>by simp at hg⟩⟩
 rw [List.take_length] at hg;have hm:=List.getElem_mem hk;have hx:=hlt g hg _ hm;have hn:=(List.pairwise_flatten.1 hd).1 g hg;have hi:g.idxOf g[k]=k:=by
  have h1:=List.idxOf_lt_length_of_mem hm;have h2:=List.getElem_idxOf h1;rcases Nat.lt_trichotomy (g.idxOf g[k]) k with h|h|h
  ·exact absurd h2 (List.pairwise_iff_getElem.1 hn _ _ h1 hk h)
  ·exact h
  ·exact absurd h2.symm (List.pairwise_iff_getElem.1 hn _ _ hk h1 h)
 rw [getElem!_pos _ _ (by simpa using hx),getElem!_pos _ _ (by simpa using hx),List.getElem_map,List.getElem_map,List.getElem_range,holdG_at hd hg hm,hi];exact ⟨rfl,rfl⟩
theorem solsR_len {p:Problem} {l:List Box} {g:List Nat} (hn:g.Nodup) (hw:∀ f∈p.facts.xs,f.a.toNat∈g→Within g f) (hp:∀ f∈p.facts.xs,0≤f.a):(solsR p (Sl.mk false l) g).length=(solsC p.facts.xs l g).length:=by
 refine nodup_eq ((allX_nodup _).filter _) (sols_nodup _ _ _) fun c=>?_
 unfold solsR;rw [List.mem_filter,mem_sols hn hw,mem_allX];have e:(boxesOf (Sl.mk false l).xs g).length=g.length:=by simp [boxesOf]
 unfold okR;rw [List.all_eq_true];have hc:∀ f∈p.facts.xs,(f∈aboutR p.facts.xs g↔f.a.toNat∈g):=fun f hf=>by
  unfold aboutR inL;rw [List.mem_filter,List.any_eq_true]
  constructor
  ·rintro ⟨_,k,hk,h⟩;simp only [decide_eq_true_eq] at h;rw [h,Int.toNat_natCast];exact hk
  ·intro h;exact ⟨hf,_,h,by have:=hp f hf;simp only [decide_eq_true_eq];omega⟩
 constructor
 ·rintro ⟨⟨h1,h2⟩,h3⟩
  refine ⟨⟨by rw [h1,e],fun k h h'=>by have:=h2 k (by rw [e];exact h) h';simpa [boxesOf] using this⟩,fun f hf ha=>?_⟩
  have:=h3 f ((hc f hf).2 ha)
  simpa using this
 ·rintro ⟨⟨h1,h2⟩,h3⟩
  refine ⟨⟨by rw [h1,e],fun k h h'=>?_⟩,fun f hf=>?_⟩
  ·rw [e] at h
   simpa [boxesOf] using h2 k h h'
  ·have hf':=(List.mem_filter.1 hf).1;have:=h3 f hf' ((hc f hf').1 hf)
   simpa using this
theorem firstF_no {b:List Box}:∀ (fs:List Fact) (k:Int),(∀ f∈fs,failsS f b=false)→firstF b fs k=(-1,true)
 | [],_,_=>rfl
 | f::fs,k,h=>by
  unfold firstF;rw [h f List.mem_cons_self];simp only [Bool.false_eq_true,if_false];exact firstF_no fs _ fun f' hf=>h f' (List.mem_cons_of_mem _ hf)
theorem allows_sol {p:Problem} {pts:List Pt} (h0:checkS p=0) (h:Solv p pts):(allowsS p pts).2=true:=by
 have hi:insB pts p.boxes.xs:=fun i h1 h2=>by
  have:=h.inn i h2 h1;unfold inB' at this;simp only [inPB,inB,Bool.and_eq_true,decide_eq_true_eq];omega
 unfold allowsS;rw [if_pos ⟨h0,h.len,hi⟩,firstF_no _ _ h.facts]
structure SolvesAll (p:Problem) (D:FoundD) (e E:Int) (nS:Sl Int) (hS:Sl Box) (oS:Sl Pt) (ns:List Nat) (cs:List (List Pt)):Prop where
 so:SolvedOut p D e
 sr:SolveOut p E nS hS oS
 nse:nS.xs=intsN ns
 nz:E=0→∀ k∈ns,k≠0
 nl:ns.length≤12
 dl:D.seens.length≤12
 dz:D.empty=false→∀ s∈D.seens,s.n≠0
 soln:e=0→D.empty=false→SolnIn D p.boxes.xs.length cs
 same:(solveF p D e cs).2=E
 count:countF D e=countG E ns
 nilE:E≠0→(solveF p D e cs).1=.nil
 ok:E=0→(allowsS p (solveF p D e cs).1.xs).2=true
 len:(solveF p D e cs).1.xs.length < 1000
theorem look_part (facts:List Fact) (l:List Box) (g:List Nat):(lookD facts l g).part=g:=by
 unfold lookD
 split<;>rfl
theorem solves_sem (p:Problem):∃ D e E nS hS oS ns cs,SolvesAll p D e E nS hS oS ns cs:=by
 by_cases h0:checkS p=0
 case neg =>
  have h9:checkS p≠9:=by unfold checkS;split<;>(try split)<;>omega
  refine ⟨⟨false,[]⟩,checkS p,checkS p,.nil,.nil,.nil,[],[],.inl ⟨h0,rfl,rfl⟩,.inl ⟨h0,rfl,rfl,rfl,rfl⟩,rfl,fun _=>by simp,by simp,by simp,fun _=>by simp,fun h=>absurd h h0,?_,?_,fun _=>?_,fun h=>absurd h h0,?_⟩
  ·simp [solveF,h0]
  ·simp [countF,countG,h0,h9]
  ·simp [solveF,h0]
  ·simp [solveF,h0]
 case pos =>
  have ok:=check_ok.1 h0;obtain ⟨r,hr⟩:=nar_ex (nar_anti ok) (nar_wf ok)
  cases r with
  | none =>
   refine ⟨⟨true,[]⟩,0,9,.nil,.nil,.nil,[],[],.inr ⟨h0,.inl ⟨hr,rfl,rfl⟩⟩,.inr (.inl ⟨h0,hr,rfl,rfl,rfl,rfl⟩),rfl,fun _=>by simp,by simp,by simp,fun _=>by simp,fun _ h=>by simp at h,?_,?_,fun _=>?_,fun h=>by simp at h,?_⟩
   ·simp [solveF]
   ·simp [countF,countG]
   ·simp [solveF]
   ·simp [solveF]
  | some l =>
   obtain ⟨m,hm⟩:=cls_ex' ok.fact
   by_cases hv:volL l (partsL' m p.boxes.xs.length)≤65536
   case neg =>
    refine ⟨⟨false,[]⟩,2,2,.nil,.nil,.nil,[],[],.inr ⟨h0,.inr ⟨l,m,hr,hm,.inl ⟨by omega,rfl,rfl⟩⟩⟩,.inr (.inr (.inl ⟨h0,l,m,hr,hm,by omega,rfl,rfl,rfl,rfl⟩)),rfl,fun h=>by simp at h,by simp,by simp,fun _=>by simp,fun h=>by simp at h,?_,?_,fun _=>?_,fun h=>by simp at h,?_⟩
    ·simp [solveF]
    ·simp [countF,countG]
    ·simp [solveF]
    ·simp [solveF]
   case pos =>
    have hfo:FindOut p ⟨emptyB ((partsL' m p.boxes.xs.length).map (lookD p.facts.xs l)),(partsL' m p.boxes.xs.length).map (lookD p.facts.xs l)⟩ 0:=.inr ⟨l,m,hr,hm,.inr ⟨hv,rfl,rfl⟩⟩;have hl:l.length=p.boxes.xs.length:=hr.1.sub.1;have hd:=parts_div hm (fact_named ok);have hpo:=parts_ok m p.boxes.xs.length;have nb:=ok.nb;have h1g:∀ g∈partsL' m p.boxes.xs.length,0 < g.length:=fun g hg=>(namedA_part ok hm hg).1;obtain ⟨gs,hgs⟩:∃ gs,partsL' m p.boxes.xs.length=gs:=⟨_,rfl⟩
    rw [hgs] at hfo hd hpo h1g;have hseen:∀ g∈gs,SeenOk p.facts.xs l g (lookD p.facts.xs l g):=fun g hg=>by
     refine look_ok (fun k hk=>by rw [hl];exact (hd.one g hg).2 k hk) hr.1.wf (fun f hf ha=>hd.within f hf g hg ha) fun f hf=>?_
     have h1:=(formedB_iff f _).1 (ok.fact f hf);exact ⟨by omega,by omega,by omega⟩
    have hnum:∀ g∈gs,numR p (Sl.mk false l) g=((lookD p.facts.xs l g).n:Int)∧(badR p (Sl.mk false l) g=((lookD p.facts.xs l g).n == 0)):=fun g hg=>by
     have hlen:=h1g g hg;unfold numR badR
     by_cases h1:1 < g.length
     ·have he:=solsR_len (l:=l) (hd.one g hg).1 (fun f hf ha=>hd.within f hf g hg ha) (fun f hf=>by have h1:=(formedB_iff f _).1 (ok.fact f hf);omega);rw [if_pos h1,(hseen g hg).n,he]
      refine ⟨rfl,?_⟩
      rw [decide_eq_true h1,Bool.true_and,Bool.eq_iff_iff];simp only [List.isEmpty_iff,beq_iff_eq];rw [← List.length_eq_zero_iff,he]
     ·have hg1:g.length=1:=by omega
      have hx:g[0]! < l.length:=by rw [getElem!_pos g 0 (by omega),hl];exact (hd.one g hg).2 _ (List.getElem_mem _)
      have ha:1≤areaB l[g[0]!]! := by
       rw [getElem!_pos l _ hx];have:=hr.1.wf _ (List.getElem_mem hx);exact area_pos this
      rw [if_neg h1,Sl.xs_mk,decide_eq_false h1,Bool.false_and];have hn:(lookD p.facts.xs l g).n=(areaB l[g[0]!]!).toNat:=by unfold lookD;rw [if_pos hg1];rfl
      rw [hn]
      refine ⟨by omega,?_⟩
      symm
      rw [beq_eq_false_iff_ne];omega
    obtain ⟨hb,on,hJ⟩:=solveJ_ex p (Sl.mk false l) hd.nodup (fun g hg x hx=>by rw [Sl.xs_mk,hl];exact (hd.one g hg).2 x hx);obtain ⟨D,hD⟩:∃ D:FoundD,D=⟨emptyB (gs.map (lookD p.facts.xs l)),gs.map (lookD p.facts.xs l)⟩:=⟨_,rfl⟩
    rw [← hD] at hfo;have hDs:D.seens=gs.map (lookD p.facts.xs l):=by rw [hD]
    have hbad:gs.any (badR p (Sl.mk false l))=D.empty:=by
     rw [hD];simp only [emptyB,List.any_map];rw [Bool.eq_iff_iff,List.any_eq_true,List.any_eq_true]
     constructor
     ·rintro ⟨g,hg,h⟩;exact ⟨g,hg,by rw [(hnum g hg).2] at h;exact h⟩
     ·rintro ⟨g,hg,h⟩;exact ⟨g,hg,by rw [(hnum g hg).2];exact h⟩
    rw [hbad] at hJ;have hN:gs.map (numR p (Sl.mk false l))=intsN (D.seens.map (·.n)):=by
     rw [hDs,intsN,List.map_map,List.map_map];exact List.map_inj_left.2 fun g hg=>(hnum g hg).1
    have hdz:D.empty=false→∀ s∈D.seens,s.n≠0:=fun he s hs h=>by
     have:emptyB D.seens=true:=emptyB_iff.2 ⟨s,hs,h⟩;have h2:D.empty=emptyB D.seens:=by rw [hD]
     rw [h2,this] at he;simp at he
    have hle:gs.length≤12:=by omega
    have hdl:D.seens.length≤12:=by rw [hDs,List.length_map];exact hle
    have hfirst:D.empty=false→∀ g∈gs,∃ c∈solsC p.facts.xs l g,(lookD p.facts.xs l g).first=some c:=fun he g hg=>(hseen g hg).first (hdz he _ (by rw [hDs];exact List.mem_map.2 ⟨g,hg,rfl⟩));obtain ⟨cs,hcs⟩:∃ cs:List (List Pt),cs=gs.map fun g=>(lookD p.facts.xs l g).first.getD []:=⟨_,rfl⟩
    have hcl:cs.length=gs.length:=by rw [hcs,List.length_map]
    have hci:D.empty=false→∀ i (h:i < gs.length) (h':i < cs.length),cs[i]∈solsC p.facts.xs l gs[i]∧(lookD p.facts.xs l gs[i]).first=some cs[i]:=fun he i h h'=>by
     obtain ⟨c,hc,hf⟩:=hfirst he _ (List.getElem_mem h);have e:cs[i]=c:=by simp only [hcs,List.getElem_map,hf,Option.getD_some]
     rw [e];exact ⟨hc,hf⟩
    have hsl:D.seens.length=gs.length:=by rw [hDs,List.length_map]
    have hsi:∀ i (h:i < D.seens.length) (h':i < gs.length),D.seens[i]=lookD p.facts.xs l gs[i]:=fun i h h'=>by simp only [hDs,List.getElem_map]
    have hSoln:D.empty=false→SolnIn D p.boxes.xs.length cs:=fun he=>by
     refine ⟨nb,hdl,by omega,fun i h1 h2=>?_,fun s hs=>?_,fun i h1 h2=>?_⟩
     ·rw [hsi i h1 (by omega)];exact (hci he i (by omega) h2).2
     ·rw [hDs] at hs;obtain ⟨g,hg,rfl⟩:=List.mem_map.1 hs;rw [look_part];exact ⟨by have:=(hpo.2 g hg).1;omega,(hpo.2 g hg).2⟩
     ·rw [hsi i h1 (by omega),look_part];have hg:=List.getElem_mem (l:=gs) (show i < gs.length by omega);exact ((mem_sols (hd.one _ hg).1 (fun f hf ha=>hd.within f hf _ hg ha)).1 (hci he i (by omega) h2).1).1.1
    have hsolv:D.empty=false→Solv p (solTo D p.boxes.xs.length cs D.seens.length):=fun he=>by
     have hp:D.seens.map (·.part)=gs:=by
      rw [hDs,List.map_map]
      refine List.ext_getElem (by simp) fun i h1 h2=>?_
      simp only [List.getElem_map,Function.comp_apply,look_part]
     unfold solTo;rw [hp,List.take_of_length_le (by omega),List.take_of_length_le (by omega)];have hd':IsDiv p.facts.xs l.length gs:=by rw [hl];exact hd
     have hm':cs∈prodC (gs.map (solsC p.facts.xs l)):=mem_prodC.2 ⟨by simp [hcl],fun k a b=>by
      simp only [List.getElem_map];exact (hci he k (by simpa using a) b).1⟩
     exact sol_of hr.1.sub (put_sol hd' hm' (p0:=List.replicate p.boxes.xs.length ⟨0,0⟩) (by simp [hl])).1
    refine ⟨D,0,if D.empty=true then 9 else 0,Sl.of (gs.map (numR p (Sl.mk false l))),Sl.mk false hb,Sl.of on,D.seens.map (·.n),cs,.inr ⟨h0,hfo⟩,.inr (.inr (.inr ⟨h0,l,m,_,hb,on,hr,hm,hv,by rw [hgs];exact hJ,rfl,rfl,rfl⟩)),by rw [Sl.xs_of,hN],fun hE k hk=>?_,by rw [List.length_map];exact hdl,hdl,hdz,fun _=>hSoln,?_,?_,fun hE=>?_,fun hE=>?_,?_⟩
    ·have he:D.empty=false:=by
      cases h:D.empty with
      | true=>rw [h] at hE;simp at hE
      | false=>rfl
     obtain ⟨x,hx,rfl⟩:=List.mem_map.1 hk;exact hdz he x hx
    ·cases h:D.empty<;>simp [solveF,h]
    ·unfold countF countG;generalize countL (D.seens.map (·.n)) 1=o
     cases h:D.empty<;>cases o<;>simp [h]
    ·cases h:D.empty with
     | true=>simp [solveF,h]
     | false=>rw [h] at hE;simp at hE
    ·cases h:D.empty with
     | true=>rw [h] at hE;simp at hE
     | false =>
      have e:(solveF p D 0 cs).1.xs=solTo D p.boxes.xs.length cs D.seens.length:=by simp [solveF,h]
      rw [e];exact allows_sol h0 (hsolv h)
    ·cases h:D.empty with
     | true=>simp [solveF,h]
     | false =>
      have e:(solveF p D 0 cs).1.xs=solTo D p.boxes.xs.length cs D.seens.length:=by simp [solveF,h]
      rw [e,(hsolv h).len];omega
end Go.Proofs.YtmghcpdpilgplaaGreat.Vm
