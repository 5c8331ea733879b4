/- found.hull and Hull: the program's, walked. What find, Count, Hull and Decide say of the solutions. Plain Lean. What Core leaves is minimal; the solution that Solve puts together. Plain Lean, without the specification. -/
import Derived.Test.YtmmhnfghklppiaaPk25
import Derived.Test.YtmmhnfghklppiaaPk26
namespace Go.Proofs.Ytmmhnfghklppiaa.Vm
open Go
set_option linter.unusedSimpArgs false
set_option linter.unusedVariables false
set_option maxHeartbeats 4000000
set_option maxRecDepth 4000
def endP (s:SeenD) (j k:Nat):Pt:=match s.ends[j]! with
 | some c=>c[k]!
 | none=>⟨0,0⟩
structure SeenGood (s:SeenD):Prop where
 few:s.part.length≤12
 len:s.ends.length=4*s.part.length
 all:∀ o∈s.ends,∃ c,o=some c∧c.length=s.part.length
theorem SeenGood.at {s:SeenD} (h:SeenGood s) {j k:Nat} (hj:j < s.ends.length) (hk:k < s.part.length):∃ (c:List Pt) (hc:k < c.length),s.ends[j]=some c∧endP s j k=c[k]:=by
 obtain ⟨c,h1,h2⟩:=h.all _ (List.getElem_mem hj)
 refine ⟨c,by omega,h1,?_⟩
 unfold endP;rw [getElem!_pos s.ends j hj,h1];simp only;rw [getElem!_pos c k (by omega)]
abbrev Solv (p:Problem) (pts:List Pt):Prop:=IsSol p.facts.xs p.boxes.xs pts
theorem at_wf (pts:List Pt):Wf (pts.map atB):=fun b hb=>by
 obtain ⟨x,_,rfl⟩:=List.mem_map.1 hb;exact ⟨Int.le_refl _,Int.le_refl _⟩
theorem at_sub {l:List Box} {pts:List Pt} (hl:pts.length=l.length) (h:∀ i (h:i < pts.length) (h':i < l.length),inB' pts[i] l[i]):SubL (pts.map atB) l :=
 ⟨by simpa using hl,fun i h1 h2=>by
  have h1':i < pts.length:=by simpa using h1
  have:=h i h1' h2;unfold inB' at this;simp only [List.getElem_map,atB,subB,subS];omega⟩
theorem at_in {l:List Box} {pts:List Pt} (h:SubL (pts.map atB) l):pts.length=l.length∧∀ i (h:i < pts.length) (h':i < l.length),inB' pts[i] l[i] :=
 ⟨by simpa using h.1,fun i h1 h2=>by
  have:=h.2 i (by simpa using h1) h2;simp only [List.getElem_map,atB,subB,subS] at this;unfold inB';omega⟩
theorem strip_at (x:Pt) (k:Nat):stripB (atB x) k=atB x:=by
 unfold stripB atB
 split<;>rfl
theorem at_stable {facts:List Fact} {pts:List Pt} (h:∀ f∈facts,failsS f (pts.map atB)=false):Stable failsP facts (pts.map atB):=fun i hi k _ f hf hs=>by
 unfold failsP at hs;have hi':i < pts.length:=by simpa using hi
 have e:stripL (pts.map atB) i k=pts.map atB:=by
  rw [stripL_at hi];have:stripB (pts.map atB)[i] k=(pts.map atB)[i]:=by simp only [List.getElem_map];exact strip_at _ _
  rw [this];exact List.set_getElem_self ..
 rw [e,h f hf] at hs;simp at hs
theorem nar_sol {p:Problem} {r:Option (List Box)} (hr:IsNar failsP p.facts.xs p.boxes.xs r) {pts:List Pt} (h:Solv p pts):∃ l,r=some l∧IsSol p.facts.xs l pts:=by
 have hs:=at_sub h.len h.inn
 cases r with
 | none=>exact absurd (at_stable h.facts) (hr _ (at_wf pts) hs)
 | some l =>
  have:=at_in (hr.1.all _ (at_wf pts) hs (at_stable h.facts));exact ⟨l,rfl,⟨this.1,this.2,h.facts⟩⟩
theorem sol_of {p:Problem} {l:List Box} (hs:SubL l p.boxes.xs) {pts:List Pt} (h:IsSol p.facts.xs l pts):Solv p pts:=by
 have:=at_in ((at_sub h.len h.inn).trans hs);exact ⟨this.1,this.2,h.facts⟩
theorem nar_iff {p:Problem} {l:List Box} (hr:IsNar failsP p.facts.xs p.boxes.xs (some l)) (pts:List Pt):Solv p pts↔IsSol p.facts.xs l pts :=
 ⟨fun h=>by obtain ⟨l',e,h'⟩:=nar_sol hr h;simp only [Option.some.injEq] at e;rw [e];exact h',sol_of hr.1.sub⟩
theorem FindOut.unique {p:Problem} {D D':FoundD} {e e':Int} (h:FindOut p D e) (h':FindOut p D' e'):D=D'∧e=e':=by
 rcases h with ⟨hr,rfl,rfl⟩|⟨l,m,hr,hm,h⟩
 ·rcases h' with ⟨hr',rfl,rfl⟩|⟨l',m',hr',hm',h'⟩
  ·exact ⟨rfl,rfl⟩
  ·have:=hr.unique hr';simp at this
 ·rcases h' with ⟨hr',rfl,rfl⟩|⟨l',m',hr',hm',h'⟩
  ·have:=hr.unique hr';simp at this
  ·have e1:=hr.unique hr';simp only [Option.some.injEq] at e1;subst e1;have e2:=partsL_congr (hm.unique hm');rw [← e2] at h';rcases h with ⟨a,rfl,rfl⟩|⟨a,rfl,rfl⟩<;>rcases h' with ⟨b,rfl,rfl⟩|⟨b,rfl,rfl⟩
   ·exact ⟨rfl,rfl⟩
   ·omega
   ·omega
   ·exact ⟨rfl,rfl⟩
theorem cls_more' {n:Nat}:∀ (E E0:List (Nat×Nat)) (m0:Nat→Nat),IsCls E0 n m0→(∀ e∈E,e.1 < n∧e.2 < n)→∃ m,IsCls (E0++E) n m
 | [],E0,m0,h,_=>⟨m0,by rw [List.append_nil];exact h⟩
 | e::E,E0,m0,h,hE=>by
  have h1:=hE e List.mem_cons_self;obtain ⟨m,hm⟩:=cls_more' E (E0++[e]) _ (h.join h1.1 h1.2) fun x hx=>hE x (List.mem_cons_of_mem _ hx);exact ⟨m,by rw [List.append_assoc] at hm;exact hm⟩
theorem cls_ex' {fs:List Fact} {n:Nat} (h:∀ f∈fs,formedB f n=true):∃ m,IsCls (edgesL fs) n m:=cls_more' (edgesL fs) [] _ (IsCls.nil n) fun e he=>by
 obtain ⟨f,hf,he⟩:=mem_edgesL.1 he;have hn:=named_ok (h f hf);have h1:=hn.a;have h2:=hn.b;have h3:=hn.c;unfold edgesF at he
 split at he
 ·simp only [List.mem_cons,List.not_mem_nil,or_false] at he;rcases he with rfl|rfl<;>exact ⟨by simp only;omega,by simp only;omega⟩
 ·simp only [List.mem_cons,List.not_mem_nil,or_false] at he;subst he;exact ⟨by simp only;omega,by simp only;omega⟩
theorem find_ex {p:Problem} (ok:CheckOk p):∃ D e,FindOut p D e:=by
 obtain ⟨r,hr⟩:=nar_ex (nar_anti ok) (nar_wf ok)
 cases r with
 | none=>exact ⟨_,_,.inl ⟨hr,rfl,rfl⟩⟩
 | some l =>
  obtain ⟨m,hm⟩:=cls_ex' ok.fact
  by_cases hv:volL l (partsL' m p.boxes.xs.length)≤65536
  ·exact ⟨_,_,.inr ⟨l,m,hr,hm,.inr ⟨hv,rfl,rfl⟩⟩⟩
  ·exact ⟨_,_,.inr ⟨l,m,hr,hm,.inl ⟨by omega,rfl,rfl⟩⟩⟩
theorem solved_ex (p:Problem):∃ D e,SolvedOut p D e:=by
 by_cases h:checkS p=0
 ·obtain ⟨D,e,hf⟩:=find_ex (check_ok.1 h);exact ⟨D,e,.inr ⟨h,hf⟩⟩
 ·exact ⟨_,_,.inl ⟨h,rfl,rfl⟩⟩
theorem SolvedOut.unique {p:Problem} {D D':FoundD} {e e':Int} (h:SolvedOut p D e) (h':SolvedOut p D' e'):D=D'∧e=e':=by
 rcases h with ⟨h0,rfl,rfl⟩|⟨h0,hf⟩
 ·rcases h' with ⟨_,rfl,rfl⟩|⟨h1,_⟩
  ·exact ⟨rfl,rfl⟩
  ·exact absurd h1 h0
 ·rcases h' with ⟨h1,_⟩|⟨_,hf'⟩
  ·exact absurd h0 h1
  ·exact hf.unique hf'
structure FindIn (p:Problem) (D:FoundD) (l:List Box) (gs:List (List Nat)):Prop where
 nar:IsNar failsP p.facts.xs p.boxes.xs (some l)
 div:IsDiv p.facts.xs l.length gs
 seens:D.seens=gs.map (lookD p.facts.xs l)
 seen:∀ g∈gs,SeenOk p.facts.xs l g (lookD p.facts.xs l g)
 empty:D.empty=emptyB D.seens
 few:gs.length≤12∧∀ g∈gs,g.length≤12
theorem find_in {p:Problem} (ok:CheckOk p) {D:FoundD} {e:Int} (h:FindOut p D e):(e=0∧D=⟨true,[]⟩∧IsNar failsP p.facts.xs p.boxes.xs none)∨(e=2∧D=⟨false,[]⟩)∨(e=0∧∃ l gs,FindIn p D l gs):=by
 rcases h with ⟨hr,rfl,rfl⟩|⟨l,m,hr,hm,h⟩
 ·exact .inl ⟨rfl,rfl,hr⟩
 ·rcases h with ⟨hv,rfl,rfl⟩|⟨hv,rfl,rfl⟩
  ·exact .inr (.inl ⟨rfl,rfl⟩)
  ·refine .inr (.inr ⟨rfl,l,partsL' m p.boxes.xs.length,?_⟩)
   have hl:l.length=p.boxes.xs.length:=hr.1.sub.1;have hd:=parts_div hm (fact_named ok);have hpl:=parts_ok m p.boxes.xs.length;have nb:=ok.nb
   refine ⟨hr,by rw [hl];exact hd,rfl,fun g hg=>?_,rfl,⟨by omega,fun g hg=>by have:=(hpl.2 g hg).1;omega⟩⟩
   refine look_ok (fun k hk=>by rw [hl];exact (hd.one g hg).2 k hk) hr.1.wf (fun f hf ha=>hd.within f hf g hg ha) fun f hf=>?_
   have h1:=(formedB_iff f _).1 (ok.fact f hf);exact ⟨by omega,by omega,by omega⟩
theorem emptyB_iff {L:List SeenD}:emptyB L=true↔∃ s∈L,s.n=0:=by simp [emptyB]
theorem FindIn.some {p:Problem} {D:FoundD} {l:List Box} {gs:List (List Nat)} (h:FindIn p D l gs) (he:D.empty=false) {g:List Nat} (hg:g∈gs) {c:List Pt} (hc:c∈solsC p.facts.xs l g):∃ pts,Solv p pts∧pick pts g=c:=by
 have hne:∀ g'∈gs,∃ c',c'∈solsC p.facts.xs l g':=fun g' hg'=>by
  have h1:=(h.seen g' hg').n;have h2:(lookD p.facts.xs l g').n≠0:=fun e=>by
   have:D.empty=true:=by
    rw [h.empty,emptyB_iff,h.seens];exact ⟨_,List.mem_map.2 ⟨g',hg',rfl⟩,e⟩
   rw [this] at he;simp at he
  exact ⟨_,List.head_mem (l:=solsC p.facts.xs l g') (fun e=>h2 (by rw [h1,e];rfl))⟩
 obtain ⟨ch,hch⟩:∃ ch:List Nat→List Pt,∀ g'∈gs,ch g'∈solsC p.facts.xs l g'∧(g'=g→ch g'=c):=by
  refine ⟨fun g'=>if g'=g then c else if h':g'∈gs then (hne g' h').choose else [],fun g' hg'=>?_⟩
  simp only
  by_cases e:g'=g
  ·subst e;simp [hc]
  ·rw [if_neg e,dif_pos hg'];exact ⟨(hne g' hg').choose_spec,fun h=>absurd h e⟩
 have hm:gs.map ch∈prodC (gs.map (solsC p.facts.xs l)):=mem_prodC.2 ⟨by simp,fun k a b=>by
  simp only [List.getElem_map];exact (hch _ (List.getElem_mem _)).1⟩
 obtain ⟨h1,h2⟩:=put_sol h.div hm (p0:=List.replicate l.length ⟨0,0⟩) (by simp)
 refine ⟨_,(nar_iff h.nar _).2 h1,?_⟩
 have:=List.map_inj_left.1 h2 g hg;rw [this];exact (hch g hg).2 rfl
theorem FindIn.empty_iff {p:Problem} {D:FoundD} {l:List Box} {gs:List (List Nat)} (h:FindIn p D l gs):D.empty=true↔¬ ∃ pts,Solv p pts:=by
 constructor
 ·rintro he ⟨pts,hp⟩;rw [h.empty,emptyB_iff,h.seens] at he;obtain ⟨s,hs,h0⟩:=he;obtain ⟨g,hg,rfl⟩:=List.mem_map.1 hs;have h1:=pick_sol h.div ((nar_iff h.nar _).1 hp) g hg;rw [(h.seen g hg).n] at h0;rw [List.eq_nil_of_length_eq_zero h0] at h1;simp at h1
 ·intro hn
  cases he:D.empty with
  | true=>rfl
  | false =>
   exfalso
   refine hn ?_
   -- one choice of each part
   have hne:∀ g'∈gs,solsC p.facts.xs l g'≠[]:=fun g' hg' e=>by
    have:D.empty=true:=by
     rw [h.empty,emptyB_iff,h.seens];exact ⟨_,List.mem_map.2 ⟨g',hg',rfl⟩,by rw [(h.seen g' hg').n,e];rfl⟩
    rw [this] at he;simp at he
   have hm:(gs.map fun g=>(solsC p.facts.xs l g).headD [])∈prodC (gs.map (solsC p.facts.xs l)):=mem_prodC.2 ⟨by simp,fun k a b=>by
    simp only [List.getElem_map];have:=hne _ (List.getElem_mem (l:=gs) (n:=k) (by simpa using a))
    cases hs:solsC p.facts.xs l (gs[k]'(by simpa using a)) with
    | nil=>exact absurd hs this
    | cons c cs=>simp⟩
   obtain ⟨h1,_⟩:=put_sol h.div hm (p0:=List.replicate l.length ⟨0,0⟩) (by simp);exact ⟨_,(nar_iff h.nar _).2 h1⟩
theorem find_empty {p:Problem} (ok:CheckOk p) {D:FoundD} (h:FindOut p D 0):D.empty=true↔¬ ∃ pts,Solv p pts:=by
 rcases find_in ok h with ⟨_,rfl,hr⟩|⟨he,_⟩|⟨_,l,gs,hi⟩
 ·refine ⟨fun _ ⟨pts,hp⟩=>?_,fun _=>rfl⟩
  obtain ⟨l,e,_⟩:=nar_sol hr hp;simp at e
 ·omega
 ·exact hi.empty_iff
theorem find_e {p:Problem} (ok:CheckOk p) {D:FoundD} {e:Int} (h:FindOut p D e):e=0∨e=2:=by
 rcases find_in ok h with ⟨h,_⟩|⟨h,_⟩|⟨h,_⟩
 ·exact .inl h
 ·exact .inr h
 ·exact .inl h
theorem soln_ex {p:Problem} (ok:CheckOk p) {D:FoundD} {e:Int} (h:FindOut p D e):∃ cs,(e=0→D.empty=false→SolnIn D p.boxes.xs.length cs)∧(solTo D p.boxes.xs.length cs D.seens.length).length=p.boxes.xs.length:=by
 have hlen:∀ cs,(solTo D p.boxes.xs.length cs D.seens.length).length=p.boxes.xs.length:=fun cs=>by unfold solTo;rw [putAll_length,List.length_replicate]
 rcases find_in ok h with ⟨_,rfl,_⟩|⟨h2,_⟩|⟨_,l,gs,hi⟩
 ·exact ⟨[],fun _ he=>by simp at he,hlen _⟩
 ·exact ⟨[],fun he=>by omega,hlen _⟩
 ·refine ⟨gs.map fun g=>(lookD p.facts.xs l g).first.getD [],fun _ he=>?_,hlen _⟩
  have hl:l.length=p.boxes.xs.length:=hi.nar.1.sub.1;have hsl:D.seens.length=gs.length:=by rw [hi.seens,List.length_map]
  have hnz:∀ g∈gs,(lookD p.facts.xs l g).n≠0:=fun g hg h0=>by
   have:D.empty=true:=by rw [hi.empty,emptyB_iff];exact ⟨_,by rw [hi.seens];exact List.mem_map.2 ⟨g,hg,rfl⟩,h0⟩
   rw [this] at he;simp at he
  have hpart:∀ g,(lookD p.facts.xs l g).part=g:=fun g=>by
   unfold lookD
   split<;>rfl
  have hci:∀ i (h:i < gs.length) (h':i < (gs.map fun g=>(lookD p.facts.xs l g).first.getD []).length),(gs.map fun g=>(lookD p.facts.xs l g).first.getD [])[i]∈solsC p.facts.xs l gs[i]∧(lookD p.facts.xs l gs[i]).first=some ((gs.map fun g=>(lookD p.facts.xs l g).first.getD [])[i]):=fun i h h'=>by
   have hg:=List.getElem_mem h;obtain ⟨c,hc,hf⟩:=(hi.seen _ hg).first (hnz _ hg);have e:(gs.map fun g=>(lookD p.facts.xs l g).first.getD [])[i]=c:=by simp only [List.getElem_map,hf,Option.getD_some]
   rw [e];exact ⟨hc,hf⟩
  have hsi:∀ i (h:i < D.seens.length) (h':i < gs.length),D.seens[i]=lookD p.facts.xs l gs[i]:=fun i h h'=>by simp only [hi.seens,List.getElem_map]
  refine ⟨ok.nb,by rw [hsl];exact hi.few.1,by rw [List.length_map,hsl],fun i h1 h2=>?_,fun s hs=>?_,fun i h1 h2=>?_⟩
  ·rw [hsi i h1 (by omega)];exact (hci i (by omega) h2).2
  ·rw [hi.seens] at hs;obtain ⟨g,hg,rfl⟩:=List.mem_map.1 hs;rw [hpart];exact ⟨hi.few.2 g hg,fun k hk=>by rw [← hl];exact (hi.div.one g hg).2 k hk⟩
  ·rw [hsi i h1 (by omega),hpart];have hg:=List.getElem_mem (l:=gs) (show i < gs.length by omega);exact ((mem_sols (hi.div.one _ hg).1 (fun f hf ha=>hi.div.within f hf _ hg ha)).1 (hci i (by omega) h2).1).1.1
theorem solveF_err (p:Problem) (D:FoundD) (e:Int) (cs:List (List Pt)):(solveF p D e cs).2=ansE D e:=by
 unfold solveF ansE
 by_cases h1:e=0
 ·subst h1
  cases hD:D.empty<;>simp [hD]
 ·simp [h1]
theorem coreP_ex (p:Problem):∃ (E0:Int) (E:List Int→Int),CoreIn p E0 E:=by
 obtain ⟨D,e,h⟩:=solved_ex p;have hx:∀ o:List Int,∃ v:Int,CheckOk p→∃ D e,FindOut (pickP (onlyB o) p) D e∧v=ansE D e:=fun o=>by
  by_cases ok:CheckOk p
  ·obtain ⟨D,e,h⟩:=find_ex (pickP_ok (q:=onlyB o) ok);exact ⟨_,fun _=>⟨D,e,h,rfl⟩⟩
  ·exact ⟨0,fun h=>absurd h ok⟩
 exact ⟨_,fun o=>Classical.choose (hx o),⟨D,e,h,rfl⟩,fun ok o=>Classical.choose_spec (hx o) ok⟩
theorem coreK_min {E:List Int→Int}:∀ {t k l:List Int},coreK E k t=some l→E (k++t)=9→E l=9∧(∀ x∈l,x∈k++t)∧∀ x∈l,x∈k∨∃ m,E m≠2∧E m≠9∧∀ y∈l,y≠x→y∈m
 | [],k,l,h,h9=>by
  simp only [coreK,Option.some.injEq] at h;subst h;rw [List.append_nil] at h9;exact ⟨h9,fun x hx=>by simpa using hx,fun x hx=>.inl hx⟩
 | x::t,k,l,h,h9=>by
  simp only [coreK] at h
  split at h
  ·simp at h
  ·rename_i n2
   split at h
   ·rename_i e9;obtain ⟨a,b,c⟩:=coreK_min h e9;exact ⟨a,fun y hy=>by have:=b y hy;simp only [List.mem_append,List.mem_cons] at this ⊢;rcases this with h|h;exact .inl h;exact .inr (.inr h),c⟩
   ·rename_i n9;obtain ⟨a,b,c⟩:=coreK_min h (by rw [List.append_assoc,List.singleton_append];exact h9)
    refine ⟨a,fun y hy=>by have:=b y hy;simpa [List.append_assoc] using this,fun y hy=>?_⟩
    rcases c y hy with hk|hm
    ·rcases List.mem_append.1 hk with hk|hk
     ·exact .inl hk
     ·simp only [List.mem_singleton] at hk;subst hk
      refine .inr ⟨k++t,n2,n9,fun z hz hne=>?_⟩
      have:=b z hz;simp only [List.append_assoc,List.singleton_append,List.mem_append,List.mem_cons] at this ⊢;rcases this with h|h|h
      ·exact .inl h
      ·exact absurd h hne
      ·exact .inr h
    ·exact .inr hm
theorem pick_all {p:Problem} (h:∀ f∈p.facts.xs,0≤f.id):pickL (onlyB (idsP p.facts.xs)) p.facts.xs=p.facts.xs:=by
 unfold pickL;rw [List.filter_eq_self];intro f hf;have:=(idsP_is h).2 f.id;unfold onlyB
 by_cases h0:f.id=0
 ·simp [h0]
 ·simp [this.2 ⟨h0,f,hf,rfl⟩]
theorem core_minimal {p:Problem} {E0:Int} {E:List Int→Int} (h:CoreIn p E0 E) (he:(coreF E0 E (idsP p.facts.xs)).2=0) :
  CheckOk p∧E (coreF E0 E (idsP p.facts.xs)).1=9∧(coreF E0 E (idsP p.facts.xs)).1.length≤60 ∧
   ∀ x∈(coreF E0 E (idsP p.facts.xs)).1,∀ r:Problem,r.boxes.xs=p.boxes.xs→r.facts.xs=pickL (outB [x]) (pickL (onlyB (coreF E0 E (idsP p.facts.xs)).1) p.facts.xs)→CheckOk r∧∀ D e,FindOut r D e→e=2∨(e=0∧D.empty=false):=by
 obtain ⟨⟨D0,e0,hs,hE0⟩,hsub⟩:=h;unfold coreF at he ⊢
 by_cases h0:E0=0
 ·rw [if_pos h0] at he;simp at he
 rw [if_neg h0] at he ⊢
 by_cases h9:E0=9
 case neg=>rw [if_pos h9] at he;exact absurd he h0
 rw [if_neg (by simp [h9])] at he ⊢
 cases hK:coreK E [] (idsP p.facts.xs) with
 | none=>rw [hK] at he;simp at he
 | some l =>
  rw [hK] at he;simp only at he ⊢;have ok:CheckOk p:=by
   rcases hs with ⟨h,rfl,rfl⟩|⟨h,_⟩
   ·exfalso;have:=check_ne9 p;unfold ansE at hE0;rw [if_pos h] at hE0;omega
   ·exact check_ok.1 h
  have hid:∀ f∈p.facts.xs,0≤f.id:=fun f hf=>((formedB_iff f _).1 (ok.fact f hf)).1.1;have hall:E (idsP p.facts.xs)=9:=by
   obtain ⟨D,e,hf,hE⟩:=hsub ok (idsP p.facts.xs);rcases hs with ⟨h,_⟩|⟨_,hf0⟩
   ·exact absurd (check_ok.2 ok) h
   ·have hf':FindOut p D e:=hf.congr (by simp [pickP]) (by simp [pickP,pick_all hid]);obtain ⟨rfl,rfl⟩:=hf'.unique hf0;rw [hE,← hE0,h9]
  obtain ⟨a,b,c⟩:=coreK_min hK (by simpa using hall)
  refine ⟨ok,a,?_,fun x hx r hb hf=>?_⟩
  ·have:=coreK_len hK;have:=Nat.le_trans (idsP_len p.facts.xs) ok.nf;simp only [List.length_nil] at *;omega
  ·have okr:CheckOk r:=⟨by rw [hb];exact ok.nb,by rw [hf];exact Nat.le_trans (List.length_filter_le _ _) (Nat.le_trans (List.length_filter_le _ _) ok.nf),by rw [hb];exact ok.box,fun f h=>by
    rw [hf] at h;rw [hb];exact ok.fact f (List.mem_filter.1 (List.mem_filter.1 h).1).1⟩
   refine ⟨okr,fun D e hfo=>?_⟩
   rcases find_e okr hfo with rfl|rfl
   ·refine .inr ⟨rfl,?_⟩
    rcases c x hx with hk|⟨m,m2,m9,hm⟩
    ·simp at hk
    ·obtain ⟨Dm,em,hfm,hEm⟩:=hsub ok m;have okm:=pickP_ok (q:=onlyB m) ok;have hem:em=0:=by
      rcases find_e okm hfm with h|h
      ·exact h
      ·rw [hEm,h] at m2;exact absurd rfl m2
     subst hem;have hDm:Dm.empty=false:=by
      cases h:Dm.empty with
      | false=>rfl
      | true=>rw [hEm] at m9;simp [ansE,h] at m9
     have hsol:∃ pts,Solv (pickP (onlyB m) p) pts:=Classical.byContradiction fun hn=>by
      have:=(find_empty okm hfm).2 hn;rw [hDm] at this;simp at this
     obtain ⟨pts,hp⟩:=hsol;have hr:Solv r pts:=by
      have hpb:(pickP (onlyB m) p).boxes.xs=r.boxes.xs:=by rw [hb];simp [pickP]
      have hlen:=hp.len;have hinn:=hp.inn;simp only [hpb] at hlen hinn
      refine ⟨hlen,hinn,fun f hfr=>?_⟩
      ·refine hp.facts f ?_
       rw [hf] at hfr;obtain ⟨g1,g2⟩:=List.mem_filter.1 hfr;obtain ⟨g3,g4⟩:=List.mem_filter.1 g1;simp only [pickP,Sl.xs_of]
       refine List.mem_filter.2 ⟨g3,?_⟩
       unfold outB at g2;unfold onlyB at g4 ⊢;simp only [Bool.or_eq_true,decide_eq_true_eq,Bool.not_eq_true',decide_eq_false_iff_not,List.mem_singleton] at g2 g4 ⊢;rcases g4 with g4|g4
       ·exact .inl g4
       ·exact .inr (hm _ g4 g2)
     cases hD:D.empty with
     | false=>rfl
     | true=>exact absurd ⟨pts,hr⟩ ((find_empty okr hfo).1 hD)
   ·exact .inl rfl
end Go.Proofs.Ytmmhnfghklppiaa.Vm
