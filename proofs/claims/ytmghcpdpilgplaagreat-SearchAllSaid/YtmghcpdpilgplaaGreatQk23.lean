/- Narrow, Parts and Volume: the program's, walked. find and solved: what is seen of all parts, walked. solved, Count: the program's, walked. found.hull and Hull: the program's, walked. What find, Count, Hull and Decide say of the solutions. Plain Lean. All solutions, in lexicographic order: two ways to find them. Plain Lean. -/
import Derived.Test.YtmghcpdpilgplaaGreatQk20
import Derived.Test.YtmghcpdpilgplaaGreatQk22
import Derived.Test.YtmghcpdpilgplaaGreatQk16
import Derived.Test.YtmghcpdpilgplaaGreatQk8
import Derived.Test.YtmghcpdpilgplaaGreatQk15
namespace Go.Proofs.YtmghcpdpilgplaaGreat.Vm
open Go
set_option linter.unusedSimpArgs false
set_option linter.unusedVariables false
set_option maxHeartbeats 4000000
set_option maxRecDepth 4000
theorem nar_sl {p:Problem} {l:List Box} (hl:l.length=p.boxes.xs.length):∃ q:Sl Box,narPV p (some l)=q.pv Box.cells 4∧q.xs=l:=by
 obtain ⟨bs,fs⟩:=p
 cases bs with
 | nil =>
  have:l=[]:=List.eq_nil_of_length_eq_zero hl;subst this;exact ⟨.nil,rfl,rfl⟩
 | mk h xs=>exact ⟨.mk false l,rfl,rfl⟩
structure FoundD where
 empty:Bool
 seens:List SeenD
def seenF (s:SeenD):List PV:=[s.pv]
@[simp] def FoundD.cells (D:FoundD):List PV:=[.bool D.empty,(Sl.of D.seens).pv seenF 1]
def emptyB (L:List SeenD):Bool:=L.any fun s=>s.n == 0
def FindOut (p:Problem) (D:FoundD) (e:Int):Prop:=(IsNar failsP p.facts.xs p.boxes.xs none∧D=⟨true,[]⟩∧e=0) ∨
 ∃ l m,IsNar failsP p.facts.xs p.boxes.xs (some l)∧IsCls (edgesL p.facts.xs) p.boxes.xs.length m ∧
  ((65536 < volL l (partsL' m p.boxes.xs.length)∧D=⟨false,[]⟩∧e=2) ∨
   (volL l (partsL' m p.boxes.xs.length)≤65536∧D=⟨emptyB ((partsL' m p.boxes.xs.length).map (lookD p.facts.xs l)),(partsL' m p.boxes.xs.length).map (lookD p.facts.xs l)⟩∧e=0))
theorem fact_named {p:Problem} (ok:CheckOk p):∀ f∈p.facts.xs,Named f p.boxes.xs.length:=fun f hf=>named_ok (ok.fact f hf)
def SolvedOut (p:Problem) (D:FoundD) (e:Int):Prop:=(checkS p≠0∧D=⟨false,[]⟩∧e=checkS p)∨(checkS p=0∧FindOut p D e)
def endP (s:SeenD) (j k:Nat):Pt:=match s.ends[j]! with
 | some c=>c[k]!
 | none=>⟨0,0⟩
def hullP (s:SeenD) (k:Nat):Box:=⟨⟨(endP s (4*k) k).x,(endP s (4*k+1) k).x⟩,⟨(endP s (4*k+2) k).y,(endP s (4*k+3) k).y⟩⟩
def hullL (pt:Nat):List SeenD→Nat→Box×Int×Int
 | [],_=>(⟨⟨0,0⟩,⟨0,0⟩⟩,-1,-1)
 | s::ss,i=>if pt∈s.part then (hullP s (s.part.idxOf pt),(i:Int),(s.part.idxOf pt:Nat)) else hullL pt ss (i+1)
structure SeenGood (s:SeenD):Prop where
 few:s.part.length≤12
 len:s.ends.length=4*s.part.length
 all:∀ o∈s.ends,∃ c,o=some c∧c.length=s.part.length
theorem SeenGood.at {s:SeenD} (h:SeenGood s) {j k:Nat} (hj:j < s.ends.length) (hk:k < s.part.length):∃ (c:List Pt) (hc:k < c.length),s.ends[j]=some c∧endP s j k=c[k]:=by
 obtain ⟨c,h1,h2⟩:=h.all _ (List.getElem_mem hj)
 refine ⟨c,by omega,h1,?_⟩
 unfold endP;rw [getElem!_pos s.ends j hj,h1];simp only;rw [getElem!_pos c k (by omega)]
abbrev Solv (p:Problem) (pts:List Pt):Prop:=IsSol p.facts.xs p.boxes.xs pts
theorem at_wf (pts:List Pt):Wf (pts.map atB):=fun b hb=>by
 obtain ⟨x,_,rfl⟩:=List.mem_map.1 hb;exact ⟨Int.le_refl _,Int.le_refl _⟩
theorem at_sub {l:List Box} {pts:List Pt} (hl:pts.length=l.length) (h:∀ i (h:i < pts.length) (h':i < l.length),inB' pts[i] l[i]):SubL (pts.map atB) l :=
 ⟨by simpa using hl,fun i h1 h2=>by
  have h1':i < pts.length:=by simpa using h1
  have:=h i h1' h2;unfold inB' at this;simp only [List.getElem_map,atB,subB,subS];omega⟩
theorem at_in {l:List Box} {pts:List Pt} (h:SubL (pts.map atB) l):pts.length=l.length∧∀ i (h:i < pts.length) (h':i < l.length),inB' pts[i] l[i] :=
 ⟨by simpa using h.1,fun i h1 h2=>by
  have:=h.2 i (by simpa using h1) h2;simp only [List.getElem_map,atB,subB,subS] at this;unfold inB';omega⟩
theorem strip_at (x:Pt) (k:Nat):stripB (atB x) k=atB x:=by
 unfold stripB atB
 split<;>rfl
theorem at_stable {facts:List Fact} {pts:List Pt} (h:∀ f∈facts,failsS f (pts.map atB)=false):Stable failsP facts (pts.map atB):=fun i hi k _ f hf hs=>by
 unfold failsP at hs;have hi':i < pts.length:=by simpa using hi
 have e:stripL (pts.map atB) i k=pts.map atB:=by
  rw [stripL_at hi];have:stripB (pts.map atB)[i] k=(pts.map atB)[i]:=by simp only [List.getElem_map];exact strip_at _ _
  rw [this];exact List.set_getElem_self ..
 rw [e,h f hf] at hs;simp at hs
theorem nar_sol {p:Problem} {r:Option (List Box)} (hr:IsNar failsP p.facts.xs p.boxes.xs r) {pts:List Pt} (h:Solv p pts):∃ l,r=some l∧IsSol p.facts.xs l pts:=by
 have hs:=at_sub h.len h.inn
 cases r with
 | none=>exact absurd (at_stable h.facts) (hr _ (at_wf pts) hs)
 | some l =>
  have:=at_in (hr.1.all _ (at_wf pts) hs (at_stable h.facts));exact ⟨l,rfl,⟨this.1,this.2,h.facts⟩⟩
theorem sol_of {p:Problem} {l:List Box} (hs:SubL l p.boxes.xs) {pts:List Pt} (h:IsSol p.facts.xs l pts):Solv p pts:=by
 have:=at_in ((at_sub h.len h.inn).trans hs);exact ⟨this.1,this.2,h.facts⟩
theorem nar_iff {p:Problem} {l:List Box} (hr:IsNar failsP p.facts.xs p.boxes.xs (some l)) (pts:List Pt):Solv p pts↔IsSol p.facts.xs l pts :=
 ⟨fun h=>by obtain ⟨l',e,h'⟩:=nar_sol hr h;simp only [Option.some.injEq] at e;rw [e];exact h',sol_of hr.1.sub⟩
theorem FindOut.unique {p:Problem} {D D':FoundD} {e e':Int} (h:FindOut p D e) (h':FindOut p D' e'):D=D'∧e=e':=by
 rcases h with ⟨hr,rfl,rfl⟩|⟨l,m,hr,hm,h⟩
 ·rcases h' with ⟨hr',rfl,rfl⟩|⟨l',m',hr',hm',h'⟩
  ·exact ⟨rfl,rfl⟩
  ·have:=hr.unique hr';simp at this
 ·rcases h' with ⟨hr',rfl,rfl⟩|⟨l',m',hr',hm',h'⟩
  ·have:=hr.unique hr';simp at this
  ·have e1:=hr.unique hr';simp only [Option.some.injEq] at e1;subst e1;have e2:=partsL_congr (hm.unique hm');rw [← e2] at h';rcases h with ⟨a,rfl,rfl⟩|⟨a,rfl,rfl⟩<;>rcases h' with ⟨b,rfl,rfl⟩|⟨b,rfl,rfl⟩
   ·exact ⟨rfl,rfl⟩
   ·omega
   ·omega
   ·exact ⟨rfl,rfl⟩
theorem SolvedOut.unique {p:Problem} {D D':FoundD} {e e':Int} (h:SolvedOut p D e) (h':SolvedOut p D' e'):D=D'∧e=e':=by
 rcases h with ⟨h0,rfl,rfl⟩|⟨h0,hf⟩
 ·rcases h' with ⟨_,rfl,rfl⟩|⟨h1,_⟩
  ·exact ⟨rfl,rfl⟩
  ·exact absurd h1 h0
 ·rcases h' with ⟨h1,_⟩|⟨_,hf'⟩
  ·exact absurd h0 h1
  ·exact hf.unique hf'
structure FindIn (p:Problem) (D:FoundD) (l:List Box) (gs:List (List Nat)):Prop where
 nar:IsNar failsP p.facts.xs p.boxes.xs (some l)
 div:IsDiv p.facts.xs l.length gs
 seens:D.seens=gs.map (lookD p.facts.xs l)
 seen:∀ g∈gs,SeenOk p.facts.xs l g (lookD p.facts.xs l g)
 empty:D.empty=emptyB D.seens
 few:gs.length≤12∧∀ g∈gs,g.length≤12
theorem emptyB_iff {L:List SeenD}:emptyB L=true↔∃ s∈L,s.n=0:=by simp [emptyB]
theorem FindIn.some {p:Problem} {D:FoundD} {l:List Box} {gs:List (List Nat)} (h:FindIn p D l gs) (he:D.empty=false) {g:List Nat} (hg:g∈gs) {c:List Pt} (hc:c∈solsC p.facts.xs l g):∃ pts,Solv p pts∧pick pts g=c:=by
 have hne:∀ g'∈gs,∃ c',c'∈solsC p.facts.xs l g':=fun g' hg'=>by
  have h1:=(h.seen g' hg').n;have h2:(lookD p.facts.xs l g').n≠0:=fun e=>by
   have:D.empty=true:=by
    rw [h.empty,emptyB_iff,h.seens];exact ⟨_,List.mem_map.2 ⟨g',hg',rfl⟩,e⟩
   rw [this] at he;simp at he
  exact ⟨_,List.head_mem (l:=solsC p.facts.xs l g') (fun e=>h2 (by rw [h1,e];rfl))⟩
 obtain ⟨ch,hch⟩:∃ ch:List Nat→List Pt,∀ g'∈gs,ch g'∈solsC p.facts.xs l g'∧(g'=g→ch g'=c):=by
  refine ⟨fun g'=>if g'=g then c else if h':g'∈gs then (hne g' h').choose else [],fun g' hg'=>?_⟩
  simp only
  by_cases e:g'=g
  ·subst e;simp [hc]
  ·rw [if_neg e,dif_pos hg'];exact ⟨(hne g' hg').choose_spec,fun h=>absurd h e⟩
 have hm:gs.map ch∈prodC (gs.map (solsC p.facts.xs l)):=mem_prodC.2 ⟨by simp,fun k a b=>by
  simp only [List.getElem_map];exact (hch _ (List.getElem_mem _)).1⟩
 obtain ⟨h1,h2⟩:=put_sol h.div hm (p0:=List.replicate l.length ⟨0,0⟩) (by simp)
 refine ⟨_,(nar_iff h.nar _).2 h1,?_⟩
 have:=List.map_inj_left.1 h2 g hg;rw [this];exact (hch g hg).2 rfl
theorem okAll_gen {ok:Nat→List Box→Bool}:∀ (rest:List Nat) (k:Nat) (here:List Box) (c:List Pt),c.length=rest.length →
  (okAll ok rest k here c=true↔∀ j,j < rest.length→ok (k+j) (setAll (rest.take (j+1)) (c.take (j+1)) here)=true)
 | [],k,here,c,hc=>by simp [okAll]
 | i::rest,k,here,[],hc=>by simp at hc
 | i::rest,k,here,x::c,hc=>by
  have ih:=okAll_gen (ok:=ok) rest (k+1) (here.set i (atB x)) c (by simpa using hc);rw [okAll,Bool.and_eq_true,ih]
  constructor
  ·rintro ⟨h1,h2⟩ j hj
   cases j with
   | zero=>simpa [setAll] using h1
   | succ j =>
    have:=h2 j (by simpa using hj);rw [show k+(j+1)=k+1+j by omega]
    simpa [setAll] using this
  ·intro h
   refine ⟨by simpa [setAll] using h 0 (by simp),fun j hj=>?_⟩
   have:=h (j+1) (by simpa using hj);rw [show k+(j+1)=k+1+j by omega] at this
   simpa [setAll] using this
def okT (facts:List Fact) (k:Nat) (here:List Box):Bool:=facts.all fun f=>!namesB f k || !failsS f here
theorem range_idx {n j:Nat} (h:j < n):(List.range n).idxOf j=j:=by
 have hm:j∈List.range n:=List.mem_range.2 h;have h1:=List.idxOf_lt_length_of_mem hm;have h2:=List.getElem_idxOf h1;rwa [List.getElem_range] at h2
theorem setAll_range {l:List Box} {c:List Pt} (hc:c.length=l.length):setAll (List.range l.length) c l=c.map atB:=by
 refine List.ext_getElem (by rw [setAll_length,List.length_map,hc]) fun i h1 h2=>?_
 rw [setAll_length] at h1;have:=setAll_at (List.range l.length) c l List.nodup_range (by rw [hc,List.length_range]) (fun i hi=>List.mem_range.1 hi) i (by rw [List.length_range];exact h1) (by omega);rw [List.getElem_range,getElem!_pos _ _ (by rw [setAll_length];exact h1)] at this;rw [this,List.getElem_map]
theorem sub_partly {l:List Box} {c:List Pt} (hc:c.length=l.length) (hin:∀ i (h:i < c.length) (h':i < l.length),inB' c[i] l[i]) (j:Nat):SubL (c.map atB) (setAll ((List.range l.length).take (j+1)) (c.take (j+1)) l):=by
 refine ⟨by rw [setAll_length,List.length_map,hc],fun i h1 h2=>?_⟩
 rw [List.length_map] at h1;have hil:i < l.length:=by omega
 have hr:(List.range l.length).take (j+1)=List.range (min (j+1) l.length):=List.take_range;have e2:=(getElem!_pos (setAll ((List.range l.length).take (j+1)) (c.take (j+1)) l) i h2).symm;rw [e2,hr]
 by_cases hj:i < j+1
 ·have:=setAll_at (List.range (min (j+1) l.length)) (c.take (j+1)) l List.nodup_range (by rw [List.length_take,List.length_range];omega) (fun i hi=>by have:=List.mem_range.1 hi;omega) i (by rw [List.length_range];omega) (by rw [List.length_take];omega);rw [List.getElem_range,List.getElem_take] at this;rw [this,List.getElem_map];exact subB_refl _
 ·have:=setAll_out (List.range (min (j+1) l.length)) (c.take (j+1)) l i (fun h=>by have:=List.mem_range.1 h;omega);rw [getElem!_pos l i hil] at this;rw [this,List.getElem_map];have:=hin i h1 hil;unfold inB' at this;unfold subB subS atB;simp only;omega
theorem wf_partly {l:List Box} {c:List Pt} (hw:Wf l):∀ (part:List Nat) (c:List Pt) (here:List Box),Wf here→Wf (setAll part c here)
 | [],c,here,h=>by cases c<;>simpa [setAll] using h
 | i::part,[],here,h=>by simpa [setAll] using h
 | i::part,x::c,here,h=>by
  rw [setAll]
  refine wf_partly (l:=l) (c:=c) hw part c _ fun b hb=>?_
  rcases List.mem_or_eq_of_mem_set hb with hb|rfl
  ·exact h b hb
  ·exact ⟨Int.le_refl _,Int.le_refl _⟩
theorem all_ok {facts:List Fact} {l:List Box} {c:List Pt} (hN:∀ f∈facts,Named f l.length) (hw:Wf l) (hc:c.length=l.length) (hin:∀ i (h:i < c.length) (h':i < l.length),inB' c[i] l[i]) :
  okAll (okT facts) (List.range l.length) 0 l c=true↔∀ f∈facts,failsS f (c.map atB)=false:=by
 rw [okAll_gen _ _ _ _ (by rw [hc,List.length_range]),List.length_range]
 constructor
 ·intro h f hf;have hn:=hN f hf;have ha:=hn.a;have hb:=hn.b;have hc':=hn.c;have hW:Within (List.range l.length) f:=⟨List.mem_range.2 (by omega),List.mem_range.2 (by omega),fun _=>List.mem_range.2 (by omega)⟩
  have hlast:lastK (List.range l.length) f=max (max f.a.toNat f.b.toNat) (if f.kind=2 then f.c.toNat else 0):=by
   unfold lastK;rw [range_idx (by omega),range_idx (by omega),range_idx (by omega)]
  have hlt:lastK (List.range l.length) f < l.length:=by rw [hlast];split<;>omega
  have h1:=h _ hlt;unfold okT at h1;rw [List.all_eq_true] at h1;have h2:=h1 f hf;have h3:namesB f ((0+lastK (List.range l.length) f:Nat):Int)=true:=by
   unfold namesB;simp only [Bool.or_eq_true,Bool.and_eq_true,decide_eq_true_eq,Nat.zero_add];rw [hlast]
   by_cases hk:f.kind=2
   ·rw [if_pos hk];simp only [hk,true_and];omega
   ·rw [if_neg hk];simp only [hk,false_and,or_false];omega
  rw [h3] at h2;simp only [Bool.not_true,Bool.false_or,Bool.not_eq_true'] at h2;rw [fails_congr (take_agree (k:=lastK (List.range l.length) f+1) List.nodup_range hW (by omega)),setAll_range hc] at h2;exact h2
 ·intro h j hj;unfold okT;rw [List.all_eq_true];intro f hf
  cases hn:namesB f ((0+j:Nat):Int) with
  | false=>rfl
  | true =>
   cases hs:failsS f (setAll ((List.range l.length).take (j+1)) (c.take (j+1)) l) with
   | false=>rfl
   | true =>
    have hsub:=sub_partly hc hin j;have hwf:=wf_partly (c:=c) hw ((List.range l.length).take (j+1)) (c.take (j+1)) l hw;have:=fails_less (by rw [setAll_length];exact hN f hf) hsub (fun b hb=>by
     obtain ⟨p,_,rfl⟩:=List.mem_map.1 hb;exact ⟨Int.le_refl _,Int.le_refl _⟩) hwf hs
    rw [h f hf] at this;simp at this
def solsT (facts:List Fact) (l:List Box):List (List Pt):=enumC (okT facts) l (List.range l.length) 0 l
theorem solsT_eq {facts:List Fact} {l:List Box} (hN:∀ f∈facts,Named f l.length) (hw:Wf l):solsT facts l=(allR l).filter fun c=>facts.all fun f=>!failsS f (c.map atB):=by
 unfold solsT;rw [enum_filter,allR_allC]
 refine List.filter_congr fun c hc=>?_
 obtain ⟨h1,h2⟩:=mem_allC.1 hc;rw [List.length_range] at h1;rw [Bool.eq_iff_iff,all_ok hN hw h1 fun i h h'=>by
  have:=h2 i (by rw [List.length_range];exact h') h;rwa [List.getElem_range,getElem!_pos l i h'] at this]
 rw [List.all_eq_true];exact ⟨fun h f hf=>by rw [h f hf];rfl,fun h f hf=>by simpa using h f hf⟩
end Go.Proofs.YtmghcpdpilgplaaGreat.Vm
