/- What find, Count, Hull and Decide say of the solutions. Plain Lean. -/
import Derived.Test.YtleggocccaeemaaOk25
namespace Go.Proofs.Ytleggocccaeemaa.Vm
open Go
set_option linter.unusedSimpArgs false
set_option linter.unusedVariables false
set_option maxHeartbeats 4000000
abbrev Solv (p:Problem) (pts:List Pt):Prop:=IsSol p.facts.xs p.boxes.xs pts
theorem zps (pts:List Pt):Wf (pts.map atB):=fun b hb=>by
 obtain ⟨x,_,rfl⟩:=List.mem_map.1 hb;exact ⟨Int.le_refl _,Int.le_refl _⟩
theorem znf {l:List Box} {pts:List Pt} (hl:pts.length=l.length) (h:∀ i (h:i < pts.length) (h':i < l.length),inB' pts[i] l[i]):SubL (pts.map atB) l :=
 ⟨by simpa using hl,fun i h1 h2=>by
  have h1':i < pts.length:=by simpa using h1
  have:=h i h1' h2;unfold inB' at this;simp only [List.getElem_map,atB,subB,subS];omega⟩
theorem zpl {l:List Box} {pts:List Pt} (h:SubL (pts.map atB) l):pts.length=l.length/\∀ i (h:i < pts.length) (h':i < l.length),inB' pts[i] l[i] :=
 ⟨by simpa using h.1,fun i h1 h2=>by
  have:=h.2 i (by simpa using h1) h2;simp only [List.getElem_map,atB,subB,subS] at this;unfold inB';omega⟩
theorem znk (x:Pt) (k:Nat):zbv (atB x) k=atB x:=by
 unfold zbv atB
 split<;>rfl
theorem zhM {facts:List Fact} {pts:List Pt} (h:∀ f∈facts,zQ f (pts.map atB)=false):Stable zaM facts (pts.map atB):=fun i hi k _ f hf hs=>by
 unfold zaM at hs;have hi':i < pts.length:=by simpa using hi
 have e:zat (pts.map atB) i k=pts.map atB:=by
  rw [zba hi];have:zbv (pts.map atB)[i] k=(pts.map atB)[i]:=by simp only [List.getElem_map];exact znk _ _
  rw [this];exact List.set_getElem_self ..
 rw [e,h f hf] at hs;simp at hs
theorem zoV {p:Problem} {r:Option (List Box)} (hr:IsNar zaM p.facts.xs p.boxes.xs r) {pts:List Pt} (h:Solv p pts):∃ l,r=some l/\IsSol p.facts.xs l pts:=by
 have hs:=znf h.len h.inn
 cases r with
 | none=>exact absurd (zhM h.facts) (hr _ (zps pts) hs)
 | some l =>
  have:=zpl (hr.1.all _ (zps pts) hs (zhM h.facts));exact ⟨l,rfl,⟨this.1,this.2,h.facts⟩⟩
theorem znw {p:Problem} {l:List Box} (hs:SubL l p.boxes.xs) {pts:List Pt} (h:IsSol p.facts.xs l pts):Solv p pts:=by
 have:=zpl ((znf h.len h.inn).trans hs);exact ⟨this.1,this.2,h.facts⟩
theorem zoI {p:Problem} {l:List Box} (hr:IsNar zaM p.facts.xs p.boxes.xs (some l)) (pts:List Pt):Solv p pts↔IsSol p.facts.xs l pts :=
 ⟨fun h=>by obtain ⟨l',e,h'⟩:=zoV hr h;simp only [Option.some.injEq] at e;rw [e];exact h',znw hr.1.sub⟩
theorem FindOut.unique {p:Problem} {D D':FoundD} {e e':Int} (h:FindOut p D e) (h':FindOut p D' e'):D=D'/\e=e':=by
 rcases h with ⟨hr,rfl,rfl⟩|⟨l,m,hr,hm,h⟩
 ·rcases h' with ⟨hr',rfl,rfl⟩|⟨l',m',hr',hm',h'⟩
  ·exact ⟨rfl,rfl⟩
  ·have:=hr.unique hr';simp at this
 ·rcases h' with ⟨hr',rfl,rfl⟩|⟨l',m',hr',hm',h'⟩
  ·have:=hr.unique hr';simp at this
  ·have e1:=hr.unique hr';simp only [Option.some.injEq] at e1;subst e1;have e2:=ze2 (hm.unique hm');rw [<- e2] at h';rcases h with ⟨a,rfl,rfl⟩|⟨a,rfl,rfl⟩<;>rcases h' with ⟨b,rfl,rfl⟩|⟨b,rfl,rfl⟩
   ·exact ⟨rfl,rfl⟩
   ·omega
   ·omega
   ·exact ⟨rfl,rfl⟩
theorem zh7 {n:Nat}:∀ (E E0:List (Nat×Nat)) (m0:Nat->Nat),IsCls E0 n m0->(∀ e∈E,e.1 < n/\e.2 < n)->∃ m,IsCls (E0++E) n m
 | [],E0,m0,h,_=>⟨m0,by rw [List.append_nil];exact h⟩
 | e::E,E0,m0,h,hE=>by
  have h1:=hE e List.mem_cons_self;obtain ⟨m,hm⟩:=zh7 E (E0++[e]) _ (h.join h1.1 h1.2) fun x hx=>hE x (List.mem_cons_of_mem _ hx);exact ⟨m,by rw [List.append_assoc] at hm;exact hm⟩
theorem zow {fs:List Fact} {n:Nat} (h:∀ f∈fs,zaB f n=true):∃ m,IsCls (zaV fs) n m:=zh7 (zaV fs) [] _ (IsCls.nil n) fun e he=>by
 obtain ⟨f,hf,he⟩:=mem_edgesL.1 he;have hn:=zhm (h f hf);have h1:=hn.a;have h2:=hn.b;have h3:=hn.c;unfold zdy at he
 split at he
 ·simp only [List.mem_cons,List.not_mem_nil,or_false] at he;rcases he with rfl|rfl<;>exact ⟨by simp only;omega,by simp only;omega⟩
 ·simp only [List.mem_cons,List.not_mem_nil,or_false] at he;subst he;exact ⟨by simp only;omega,by simp only;omega⟩
theorem zoY {p:Problem} (ok:CheckOk p):∃ D e,FindOut p D e:=by
 obtain ⟨r,hr⟩:=znA (zcO ok) (zdW ok)
 cases r with
 | none=>exact ⟨_,_,.inl ⟨hr,rfl,rfl⟩⟩
 | some l =>
  obtain ⟨m,hm⟩:=zow ok.fact
  by_cases hv:volL l (zak m p.boxes.xs.length)<=65536
  ·exact ⟨_,_,.inr ⟨l,m,hr,hm,.inr ⟨hv,rfl,rfl⟩⟩⟩
  ·exact ⟨_,_,.inr ⟨l,m,hr,hm,.inl ⟨by omega,rfl,rfl⟩⟩⟩
theorem SolvedOut.unique {p:Problem} {D D':FoundD} {e e':Int} (h:SolvedOut p D e) (h':SolvedOut p D' e'):D=D'/\e=e':=by
 rcases h with ⟨h0,rfl,rfl⟩|⟨h0,hf⟩
 ·rcases h' with ⟨_,rfl,rfl⟩|⟨h1,_⟩
  ·exact ⟨rfl,rfl⟩
  ·exact absurd h1 h0
 ·rcases h' with ⟨h1,_⟩|⟨_,hf'⟩
  ·exact absurd h0 h1
  ·exact hf.unique hf'
structure FindIn (p:Problem) (D:FoundD) (l:List Box) (gs:List (List Nat)):Prop where
 nar:IsNar zaM p.facts.xs p.boxes.xs (some l)
 div:IsDiv p.facts.xs l.length gs
 seens:D.seens=gs.map (zai p.facts.xs l)
 seen:∀ g∈gs,SeenOk p.facts.xs l g (zai p.facts.xs l g)
 empty:D.empty=zbR D.seens
 few:gs.length<=12/\∀ g∈gs,g.length<=12
theorem zlE {p:Problem} (ok:CheckOk p) {D:FoundD} {e:Int} (h:FindOut p D e):(e=0/\D=⟨true,[]⟩/\IsNar zaM p.facts.xs p.boxes.xs none)\/(e=2/\D=⟨false,[]⟩)\/(e=0/\∃ l gs,FindIn p D l gs):=by
 rcases h with ⟨hr,rfl,rfl⟩|⟨l,m,hr,hm,h⟩
 ·exact .inl ⟨rfl,rfl,hr⟩
 ·rcases h with ⟨hv,rfl,rfl⟩|⟨hv,rfl,rfl⟩
  ·exact .inr (.inl ⟨rfl,rfl⟩)
  ·refine .inr (.inr ⟨rfl,l,zak m p.boxes.xs.length,?_⟩)
   have hl:l.length=p.boxes.xs.length:=hr.1.sub.1;have hd:=zhO hm (zeF ok);have hpl:=zgI m p.boxes.xs.length;have nb:=ok.nb
   refine ⟨hr,by rw [hl];exact hd,rfl,fun g hg=>?_,rfl,⟨by omega,fun g hg=>by have:=(hpl.2 g hg).1;omega⟩⟩
   refine zo3 (fun k hk=>by rw [hl];exact (hd.one g hg).2 k hk) hr.1.wf (fun f hf ha=>hd.within f hf g hg ha) fun f hf=>?_
   have h1:=(za5 f _).1 (ok.fact f hf);exact ⟨by omega,by omega,by omega⟩
theorem zeu {L:List SeenD}:zbR L=true↔∃ s∈L,s.n=0:=by simp [zbR]
theorem FindIn.some {p:Problem} {D:FoundD} {l:List Box} {gs:List (List Nat)} (h:FindIn p D l gs) (he:D.empty=false) {g:List Nat} (hg:g∈gs) {c:List Pt} (hc:c∈zal p.facts.xs l g):∃ pts,Solv p pts/\pick pts g=c:=by
 have hne:∀ g'∈gs,∃ c',c'∈zal p.facts.xs l g':=fun g' hg'=>by
  have h1:=(h.seen g' hg').n;have h2:(zai p.facts.xs l g').n≠0:=fun e=>by
   have:D.empty=true:=by
    rw [h.empty,zeu,h.seens];exact ⟨_,List.mem_map.2 ⟨g',hg',rfl⟩,e⟩
   rw [this] at he;simp at he
  exact ⟨_,List.head_mem (l:=zal p.facts.xs l g') (fun e=>h2 (by rw [h1,e];rfl))⟩
 obtain ⟨ch,hch⟩:∃ ch:List Nat->List Pt,∀ g'∈gs,ch g'∈zal p.facts.xs l g'/\(g'=g->ch g'=c):=by
  refine ⟨fun g'=>if g'=g then c else if h':g'∈gs then (hne g' h').choose else [],fun g' hg'=>?_⟩
  simp only
  by_cases e:g'=g
  ·subst e;simp [hc]
  ·rw [if_neg e,dif_pos hg'];exact ⟨(hne g' hg').choose_spec,fun h=>absurd h e⟩
 have hm:gs.map ch∈zhr (gs.map (zal p.facts.xs l)):=mem_prodC.2 ⟨by simp,fun k a b=>by
  simp only [List.getElem_map];exact (hch _ (List.getElem_mem _)).1⟩
 obtain ⟨h1,h2⟩:=zlJ h.div hm (p0:=List.replicate l.length ⟨0,0⟩) (by simp)
 refine ⟨_,(zoI h.nar _).2 h1,?_⟩
 have:=List.map_inj_left.1 h2 g hg;rw [this];exact (hch g hg).2 rfl
theorem zk0 {p:Problem} (ok:CheckOk p) {D:FoundD} {e:Int} (h:FindOut p D e):D.seens.length<=12/\(D.empty=false->∀ s∈D.seens,s.n≠0/\SeenGood s):=by
 rcases zlE ok h with ⟨_,rfl,_⟩|⟨_,rfl⟩|⟨_,l,gs,hi⟩
 ·exact ⟨by simp,fun _ s hs=>by simp at hs⟩
 ·exact ⟨by simp,fun _ s hs=>by simp at hs⟩
 ·refine ⟨by rw [hi.seens,List.length_map];exact hi.few.1,fun he s hs=>?_⟩
  have hn:s.n≠0:=fun e=>by
   have:D.empty=true:=by rw [hi.empty,zeu];exact ⟨s,hs,e⟩
   rw [this] at he;simp at he
  rw [hi.seens] at hs;obtain ⟨g,hg,rfl⟩:=List.mem_map.1 hs;have ho:=hi.seen g hg;have hone:=hi.div.one g hg
  refine ⟨hn,⟨by rw [ho.same];exact hi.few.2 g hg,by rw [ho.same];exact ho.len,fun o ho'=>?_⟩⟩
  obtain ⟨j,hj,rfl⟩:=List.mem_iff_getElem.1 ho';obtain ⟨c,hc,h1,_⟩:=ho.ends hn j hj
  refine ⟨c,h1,?_⟩
  rw [ho.same];exact ((zeV hone.1 (fun f hf ha=>hi.div.within f hf g hg ha)).1 hc).1.1
theorem ziN {p:Problem} {D:FoundD} {e:Int} (h:SolvedOut p D e):D.seens.length<=12/\(D.empty=false->∀ s∈D.seens,s.n≠0/\SeenGood s):=by
 rcases h with ⟨_,rfl,_⟩|⟨h0,hf⟩
 ·exact ⟨by simp,fun _ s hs=>by simp at hs⟩
 ·exact zk0 (check_ok.1 h0) hf
end Go.Proofs.Ytleggocccaeemaa.Vm
