/- search.Solve: the solution that is put together from the parts' first ones. What Solve puts together is a solution; the problem that the law makes of a problem. Plain Lean. -/
import Derived.Test.YtleggocccaeemaaOk25
import Derived.Test.YtleggocccaeemaaOk29
import Derived.Test.YtleggocccaeemaaOk17
namespace Go.Proofs.Ytleggocccaeemaa.Vm
open Go
set_option linter.unusedSimpArgs false
set_option linter.unusedVariables false
set_option maxHeartbeats 4000000
set_option maxRecDepth 4000
structure SolnIn (D:FoundD) (n0:Nat) (cs:List (List Pt)):Prop where
 n:n0<=12
 sl:D.seens.length<=12
 len:cs.length=D.seens.length
 first:∀ i (h:i < D.seens.length) (h':i < cs.length),D.seens[i].first=some cs[i]
 part:∀ s∈D.seens,s.part.length<=12/\∀ k∈s.part,k < n0
 cl:∀ i (h:i < D.seens.length) (h':i < cs.length),cs[i].length=D.seens[i].part.length
structure SolnAt (D:FoundD) (n0:Nat) (cs:List (List Pt)) (at_:Int) (E:Sl Pt):Prop where
 n:n0<=12
 sl:D.seens.length<=12
 len:cs.length=D.seens.length
 first:∀ i (h:i < D.seens.length) (h':i < cs.length),(i:Int)≠at_->D.seens[i].first=some cs[i]
 own:∀ i (h:i < D.seens.length) (h':i < cs.length),(i:Int)=at_->E=.mk false cs[i]
 part:∀ s∈D.seens,s.part.length<=12/\∀ k∈s.part,k < n0
 cl:∀ i (h:i < D.seens.length) (h':i < cs.length),cs[i].length=D.seens[i].part.length
theorem SolnIn.at {D:FoundD} {n0:Nat} {cs:List (List Pt)} (h:SolnIn D n0 cs):SolnAt D n0 cs (-1) .nil :=
 ⟨h.n,h.sl,h.len,fun i h1 h2 _=>h.first i h1 h2,fun i h1 h2 h3=>by omega,h.part,h.cl⟩
def setZ (z:List (Nat×Pt)) (l:List Pt):List Pt:=z.foldl (fun p e=>p.set e.1 e.2) l
theorem zhX {z:List (Nat×Pt)} {l:List Pt} {k:Nat} (h:k < z.length):setZ (z.take (k+1)) l=(setZ (z.take k) l).set z[k].1 z[k].2:=by
 unfold setZ;rw [<- zcN h,List.foldl_append];rfl
theorem zfN:∀ (gs:List (List Nat)) (cs:List (List Pt)) (g:List Nat) (c:List Pt) (l:List Pt),gs.length=cs.length->za7 (gs++[g]) (cs++[c]) l=setZ (g.zip c) (za7 gs cs l)
 | [],[],g,c,l,_=>rfl
 | [],_::_,_,_,_,h=>by simp at h
 | _::_,[],_,_,_,h=>by simp at h
 | a::gs,b::cs,g,c,l,h=>by
  simp only [List.cons_append,za7];exact zfN gs cs g c _ (by simpa using h)
def za4 (D:FoundD) (n0:Nat) (cs:List (List Pt)) (i:Nat):List Pt:=za7 ((D.seens.map (·.part)).take i) (cs.take i) (List.replicate n0 ⟨0,0⟩)
theorem zlu {D:FoundD} {n0:Nat} {cs:List (List Pt)} {i:Nat} (h:i < D.seens.length) (h':i < cs.length):za4 D n0 cs (i+1)=setZ (D.seens[i].part.zip cs[i]) (za4 D n0 cs i):=by
 unfold za4;rw [<- zcN (xs:=D.seens.map (·.part)) (by simpa using h),<- zcN h',zfN _ _ _ _ _ (by simp;omega),List.getElem_map]
theorem sh29:G.shared 29=false:=by decide
theorem e29 (n:Nat) (D:FoundD) (n0:Nat) (cs:List (List Pt)) (at_:Int) (E:Sl Pt) (h:SolnAt D n0 cs at_ E):zI G (n+1) 29 [.agg D.cells,.int .i64 (n0:Nat),.int .i64 at_,E.pv Pt.cells 2]=some ((Sl.mk false (za4 D n0 cs D.seens.length)).pv Pt.cells 2):=by
 refine zA (zB _) rfl g29 rfl ?_
 obtain ⟨s,hs⟩:∃ s,s=Sl.of D.seens:=⟨_,rfl⟩
 have hsx:s.xs=D.seens:=by rw [hs,Sl.xs_of]
 have hDc:D.cells=[.bool D.empty,s.pv zbV 1]:=by rw [hs];rfl
 obtain ⟨b0,hb0⟩:∃ b,D.empty=b:=⟨_,rfl⟩
 have hsl:s.xs.length=D.seens.length:=by rw [hsx]
 have hn0:=h.n;have hsn:=h.sl;have hH:=Hide.mk h;have hsxH:=Hide.mk hsx;have hm:n0*2<=zn/\n0*16<=zn/\n0<=zn:=by simp only [zn];omega
 have hlen:Hide (∀ i,(za4 D n0 cs i).length=n0):=⟨fun i=>by unfold za4;rw [zb7,List.length_replicate]⟩
 rw [hDc,hb0];rw [<- hsl];clear h hs hsx hDc hb0;have hslH:=Hide.mk hsl;have hsn:s.xs.length<=12:=by omega
 clear hsl;(repeat' first|simp [*,zb,c29]|(apply za<;>intro _ h<;>try simp [-Nat.le_zero_eq] at h))
 refine zz [(10,14),(20,51)] (fun (i:Nat) env H=>env 20=.pure (.int .i64 i)/\i<=s.xs.length/\H.get 0=.cells true (zm Pt.cells (za4 D n0 cs i))) (fun i=>s.xs.length - i) 0 ?_ ?_ ?_ ?_
 ·decide
 ·refine ⟨by simp,by omega,?_⟩
  simp [za4,za7,zm,Pt.cells]
 ·simp only [zx];omega
 rintro i env H ⟨g20,hi,hg⟩
 by_cases hlt:i < s.xs.length
 ·have w1:IntKind.i64.wrap ((i:Int)+1)=(i+1:Nat):=by rw [wrap64 (by omega) (by omega)];omega
  have hltI:(i:Int) < s.xs.length:=by omega
  have hiD:i < D.seens.length:=by rw [<- hslH.h];exact hlt
  have hic:i < cs.length:=by rw [hH.h.len];exact hiD
  obtain ⟨D',hD'⟩:∃ D',s.xs[i]=D':=⟨_,rfl⟩
  have hDD:D.seens[i]=D':=by rw [<- hD'];simp only [hsxH.h]
  obtain ⟨c,hcc⟩:∃ c,cs[i]=c:=⟨_,rfl⟩
  have hfi:=hH.h.first i hiD hic;have how:=hH.h.own i hiD hic;have hcl:=hH.h.cl i hiD hic;have hpt:=hH.h.part _ (List.getElem_mem hiD);have hst:=zlu (n0:=n0) hiD hic;rw [hDD,hcc] at hfi hcl hst;rw [hcc] at how;rw [hDD] at hpt;have hse:zbV s.xs[i]=[.ptr false [(Sl.mk false (zY D'.part)).pv intF 1,.int .i64 D'.n,.slice false 4 (chunks 4 D'.part.length (D'.ends.map zX)),zX D'.first] 0]:=by
   rw [hD'];have e1:zac D'.part=(Sl.mk false (zY D'.part)).pv intF 1:=by simp [zac,zY,Sl.pv,intF]
   rw [<- e1];rfl
  obtain ⟨cc,hccc⟩:∃ x,PV.slice false 4 (chunks 4 D'.part.length (D'.ends.map zX))=x:=⟨_,rfl⟩
  rw [hccc] at hse;obtain ⟨dn,hdn⟩:∃ x:Int,(D'.n:Int)=x:=⟨_,rfl⟩
  rw [hdn] at hse;obtain ⟨pt,hpp⟩:∃ x,D'.part=x:=⟨_,rfl⟩
  rw [hpp] at hse hcl hst hpt;have npt:=hpt.1;have hptH:=Hide.mk hpt.2;have hstH:=Hide.mk hst;have e1:(zY pt).length=pt.length:=zaw pt
  by_cases hat:(i:Int)=at_
  ·have hE:=how hat;subst hE;subst hat;obtain ⟨oo,hoo⟩:∃ x,zX D'.first=x:=⟨_,rfl⟩
   rw [hoo] at hse;clear hccc hdn hpp hD' hDD hcc hfi hst hpt how hoo;(repeat' first|simp [*,zb]|(apply za<;>intro _ h<;>try simp [-Nat.le_zero_eq] at h))
   refine zz [(13,14),(38,50)] (fun (k:Nat) env H=>env 38=.pure (.int .i64 k)/\k<=pt.length/\H.get 0=.cells true (zm Pt.cells (setZ ((pt.zip c).take k) (za4 D n0 cs i)))) (fun k=>pt.length - k) 0 ?_ ?_ ?_ ?_
   ·decide
   ·exact ⟨by simp,by omega,by simpa [setZ] using hg⟩
   ·simp only [zx];omega
   clear hg;rintro k env2 H2 ⟨g38,hk,hg⟩;have hid:=zC hg
   by_cases hkl:k < pt.length
   ·have w2:IntKind.i64.wrap ((k:Int)+1)=(k+1:Nat):=by rw [wrap64 (by omega) (by omega)];omega
    have hkI:(k:Int) < pt.length:=by omega
    have hkc:k < c.length:=by omega
    have hkcI:(k:Int) < c.length:=by omega
    have hkx:k < (zY pt).length:=by omega
    obtain ⟨q,hq⟩:∃ q,pt[k]=q:=⟨_,rfl⟩
    have gj:(zY pt)[k]=(q:Int):=by simp [zY,hq]
    have hqn:q < n0:=hptH.h q (hq ▸ List.getElem_mem hkl);have hqnI:(q:Int) < n0:=by omega
    have hcl2:(setZ ((pt.zip c).take k) (za4 D n0 cs i)).length=n0:=by unfold setZ;rw [zch];exact hlen.h i
    have hkz:k < (pt.zip c).length:=by rw [List.length_zip];omega
    have hsz:=zhX (l:=za4 D n0 cs i) hkz;rw [List.getElem_zip] at hsz;simp only [hq] at hsz;have hp:=zbm (f:=Pt.cells) (sz:=2) (l:=setZ ((pt.zip c).take k) (za4 D n0 cs i)) (a:=c[k]) (i:=q) (fun _=>rfl) (fun _=>rfl) (by decide) (by rw [hcl2];exact hqn);rw [<- hsz] at hp;simp only [Pt.cells,List.map_cons,List.map_nil] at hp;clear hsz hq;generalize setZ ((pt.zip c).take k) (za4 D n0 cs i)=Z at *;(repeat' first|simp [*,zb,Pt.cells]|(apply za<;>intro _ h<;>try simp [-Nat.le_zero_eq] at h));exact ⟨k+1,by omega,by omega,by omega,rfl⟩
   ·have hkl:k=pt.length:=by omega
    subst hkl;rw [List.take_of_length_le (by rw [List.length_zip];omega),<- hstH.h] at hg;(repeat' first|simp [*,zb]|(apply za<;>intro _ h<;>try simp [-Nat.le_zero_eq] at h));exact ⟨i+1,by omega,by omega,by omega,rfl⟩
  ·have hoo:zX D'.first=(Sl.mk false c).pv Pt.cells 2:=by rw [hfi hat];rfl
   rw [hoo] at hse;clear hccc hdn hpp hD' hDD hcc hfi hst hpt how hoo;(repeat' first|simp [*,zb]|(apply za<;>intro _ h<;>try simp [-Nat.le_zero_eq] at h))
   refine zz [(13,14),(38,50)] (fun (k:Nat) env H=>env 38=.pure (.int .i64 k)/\k<=pt.length/\H.get 0=.cells true (zm Pt.cells (setZ ((pt.zip c).take k) (za4 D n0 cs i)))) (fun k=>pt.length - k) 0 ?_ ?_ ?_ ?_
   ·decide
   ·exact ⟨by simp,by omega,by simpa [setZ] using hg⟩
   ·simp only [zx];omega
   clear hg;rintro k env2 H2 ⟨g38,hk,hg⟩;have hid:=zC hg
   by_cases hkl:k < pt.length
   ·have w2:IntKind.i64.wrap ((k:Int)+1)=(k+1:Nat):=by rw [wrap64 (by omega) (by omega)];omega
    have hkI:(k:Int) < pt.length:=by omega
    have hkc:k < c.length:=by omega
    have hkcI:(k:Int) < c.length:=by omega
    have hkx:k < (zY pt).length:=by omega
    obtain ⟨q,hq⟩:∃ q,pt[k]=q:=⟨_,rfl⟩
    have gj:(zY pt)[k]=(q:Int):=by simp [zY,hq]
    have hqn:q < n0:=hptH.h q (hq ▸ List.getElem_mem hkl);have hqnI:(q:Int) < n0:=by omega
    have hcl2:(setZ ((pt.zip c).take k) (za4 D n0 cs i)).length=n0:=by unfold setZ;rw [zch];exact hlen.h i
    have hkz:k < (pt.zip c).length:=by rw [List.length_zip];omega
    have hsz:=zhX (l:=za4 D n0 cs i) hkz;rw [List.getElem_zip] at hsz;simp only [hq] at hsz;have hp:=zbm (f:=Pt.cells) (sz:=2) (l:=setZ ((pt.zip c).take k) (za4 D n0 cs i)) (a:=c[k]) (i:=q) (fun _=>rfl) (fun _=>rfl) (by decide) (by rw [hcl2];exact hqn);rw [<- hsz] at hp;simp only [Pt.cells,List.map_cons,List.map_nil] at hp;clear hsz hq;generalize setZ ((pt.zip c).take k) (za4 D n0 cs i)=Z at *;(repeat' first|simp [*,zb,Pt.cells]|(apply za<;>intro _ h<;>try simp [-Nat.le_zero_eq] at h));exact ⟨k+1,by omega,by omega,by omega,rfl⟩
   ·have hkl:k=pt.length:=by omega
    subst hkl;rw [List.take_of_length_le (by rw [List.length_zip];omega),<- hstH.h] at hg;(repeat' first|simp [*,zb]|(apply za<;>intro _ h<;>try simp [-Nat.le_zero_eq] at h));exact ⟨i+1,by omega,by omega,by omega,rfl⟩
 ·have hil:i=s.xs.length:=by omega
  subst hil;have h1:=zbz (n:=10) (f:=Pt.cells) (sz:=2) (fun _=>rfl) hg (hlen.h _);(repeat' first|simp [*,zb]|(apply za<;>intro _ h<;>try simp [-Nat.le_zero_eq] at h));exact h1
def zbu (p:Problem) (D:FoundD) (e:Int) (cs:List (List Pt)):Sl Pt×Int:=if e≠0 then (.nil,e) else if D.empty=true then (.nil,9) else (.mk false (za4 D p.boxes.xs.length cs D.seens.length),0)
theorem e10 (n:Nat) (p:Problem) (D:FoundD) (e:Int) (h:SolvedOut p D e) (cs:List (List Pt)) (hs:e=0->D.empty=false->SolnIn D p.boxes.xs.length cs):zI G (n+53) 10 [.agg p.cells]=some (.tup [(zbu p D e cs).1.pv Pt.cells 2,.int .i64 (zbu p D e cs).2]):=by
 refine zA (zB _) rfl g10 rfl ?_
 have hn:=fun H=>zh (G:=G) (n:=n+52) (H:=H) (caps:=[]) (ps:=[.agg p.cells]) sh24 (e24 n p D e h);have hsol:=fun (he:e=0) (hb:D.empty=false) H=>zh (G:=G) (n:=n+52) (H:=H) (caps:=[]) (ps:=[.agg D.cells,.int .i64 (p.boxes.xs.length:Nat),.int .i64 (-1),.nils]) sh29 (e29 (n+51) D p.boxes.xs.length cs (-1) .nil (hs he hb).at);simp only [Problem.cells,FoundD.cells,List.map_cons,List.map_nil] at hn hsol;clear h hs
 by_cases h1:e=0
 case neg =>
  have hr:zbu p D e cs=(.nil,e):=by unfold zbu;rw [if_pos h1]
  have z:(Sl.nil:Sl Pt).pv Pt.cells 2=.nils:=rfl;rw [hr];simp only [z];clear hr hsol z;(repeat' first|simp [*,zb,c10,Problem.cells]|(apply za<;>intro _ h<;>try simp [-Nat.le_zero_eq] at h))
 case pos =>
  subst h1
  cases hD:D.empty with
  | true =>
   have hr:zbu p D 0 cs=(.nil,9):=by unfold zbu;rw [if_neg (by simp),if_pos hD]
   have z:(Sl.nil:Sl Pt).pv Pt.cells 2=.nils:=rfl;rw [hr];simp only [z];rw [hD] at hn;clear hr hsol z;(repeat' first|simp [*,zb,c10,Problem.cells]|(apply za<;>intro _ h<;>try simp [-Nat.le_zero_eq] at h))
  | false =>
   have hr:zbu p D 0 cs=(.mk false (za4 D p.boxes.xs.length cs D.seens.length),0):=by unfold zbu;rw [if_neg (by simp),if_neg (by simp [hD])]
   rw [hr];have hsol2:=hsol rfl hD;clear hsol;have hsol:=hsol2;clear hsol2;rw [hD] at hn hsol;simp only;generalize (Sl.mk false (za4 D p.boxes.xs.length cs D.seens.length))=S at *;obtain ⟨sD,hsD⟩:∃ s,Sl.of D.seens=s:=⟨_,rfl⟩
   rw [hsD] at hn hsol;clear hr hD hsD;(repeat' first|simp [*,zb,c10,Problem.cells]|(apply za<;>intro _ h<;>try simp [-Nat.le_zero_eq] at h))
theorem zmA {p:Problem} (h0:zaZ p=0) {pts:List Pt} (h:Solv p pts):(allowsS p pts).2=true:=by
 have hi:insB pts p.boxes.xs:=fun i h1 h2=>by
  have:=h.inn i h2 h1;unfold inB' at this;unfold inPB inB;simp only [Bool.and_eq_true,decide_eq_true_eq];omega
 unfold allowsS;rw [if_pos ⟨h0,h.len,hi⟩,zea _ _ (fun j hj=>h.facts _ (List.getElem_mem hj))]
theorem znz {p:Problem} (ok:CheckOk p) {D:FoundD} {e:Int} (h:FindOut p D e):∃ cs,(e=0->D.empty=false->SolnIn D p.boxes.xs.length cs)/\(e=0->D.empty=false->Solv p (za4 D p.boxes.xs.length cs D.seens.length)):=by
 rcases zlE ok h with ⟨_,rfl,_⟩|⟨h2,_⟩|⟨_,l,gs,hi⟩
 ·exact ⟨[],fun _ he=>by simp at he,fun _ he=>by simp at he⟩
 ·exact ⟨[],fun he=>by omega,fun he=>by omega⟩
 ·have hl:l.length=p.boxes.xs.length:=hi.nar.1.sub.1;have hsl:D.seens.length=gs.length:=by rw [hi.seens,List.length_map]
  have hpart:∀ g,(zai p.facts.xs l g).part=g:=fun g=>by
   unfold zai
   split<;>rfl
  have hci:D.empty=false->∀ i (h:i < gs.length) (h':i < (gs.map fun g=>(zai p.facts.xs l g).first.getD []).length),(gs.map fun g=>(zai p.facts.xs l g).first.getD [])[i]∈zal p.facts.xs l gs[i]/\(zai p.facts.xs l gs[i]).first=some ((gs.map fun g=>(zai p.facts.xs l g).first.getD [])[i]):=fun he i h h'=>by
   have hg:=List.getElem_mem h;have hnz:(zai p.facts.xs l gs[i]).n≠0:=fun h0=>by
    have:D.empty=true:=by rw [hi.empty,zeu];exact ⟨_,by rw [hi.seens];exact List.mem_map.2 ⟨gs[i],hg,rfl⟩,h0⟩
    rw [this] at he;simp at he
   obtain ⟨c,hc,hf⟩:=(hi.seen _ hg).first hnz;have e:(gs.map fun g=>(zai p.facts.xs l g).first.getD [])[i]=c:=by simp only [List.getElem_map,hf,Option.getD_some]
   rw [e];exact ⟨hc,hf⟩
  have hsi:∀ i (h:i < D.seens.length) (h':i < gs.length),D.seens[i]=zai p.facts.xs l gs[i]:=fun i h h'=>by simp only [hi.seens,List.getElem_map]
  refine ⟨gs.map fun g=>(zai p.facts.xs l g).first.getD [],fun _ he=>⟨ok.nb,by rw [hsl];exact hi.few.1,by rw [List.length_map,hsl],fun i h1 h2=>?_,fun s hs=>?_,fun i h1 h2=>?_⟩,fun _ he=>?_⟩
  ·rw [hsi i h1 (by omega)];exact (hci he i (by omega) h2).2
  ·rw [hi.seens] at hs;obtain ⟨g,hg,rfl⟩:=List.mem_map.1 hs;rw [hpart];exact ⟨hi.few.2 g hg,fun k hk=>by rw [<- hl];exact (hi.div.one g hg).2 k hk⟩
  ·rw [hsi i h1 (by omega),hpart];have hg:=List.getElem_mem (l:=gs) (show i < gs.length by omega);exact ((zeV (hi.div.one _ hg).1 (fun f hf ha=>hi.div.within f hf _ hg ha)).1 (hci he i (by omega) h2).1).1.1
  ·have hmem:(gs.map fun g=>(zai p.facts.xs l g).first.getD [])∈zhr (gs.map (zal p.facts.xs l)):=mem_prodC.2 ⟨by simp,fun k a b=>by
    have:=(hci he k (by simpa using a) b).1
    simpa using this⟩
   have hp:D.seens.map (·.part)=gs:=by
    rw [hi.seens,List.map_map]
    refine List.ext_getElem (by simp) fun i h1 h2=>?_
    simp only [List.getElem_map,Function.comp_apply,hpart]
   have hps:=zlJ hi.div hmem (p0:=List.replicate p.boxes.xs.length ⟨0,0⟩) (by simp [hl]);unfold za4;rw [hp,List.take_of_length_le (by omega),List.take_of_length_le (by simp;omega)];exact znw hi.nar.1.sub hps.1
def hotP (p:Problem):Problem:=⟨.mk true p.boxes.xs,.mk true p.facts.xs⟩
theorem ziB {p:Problem} (ok:CheckOk p):CheckOk (hotP p):=⟨ok.nb,ok.nf,ok.box,ok.fact⟩
theorem zoX {p:Problem} {pts:List Pt} (h:Solv (hotP p) pts):Solv p pts:=h
theorem zmr {p:Problem} (ok:CheckOk p):∃ D e cs,SolvedOut (hotP p) D e/\(e=0->D.empty=false->SolnIn D (hotP p).boxes.xs.length cs)/\((zbu (hotP p) D e cs).2=0->(allowsS p (zbu (hotP p) D e cs).1.xs).2=true)/\(zbu (hotP p) D e cs).1.xs.length < 1000/\(zbu (hotP p) D e cs).1.hot=false:=by
 obtain ⟨D,e,hf⟩:=zoY (ziB ok);obtain ⟨cs,h1,h2⟩:=znz (ziB ok) hf;have nb:=ok.nb
 refine ⟨D,e,cs,.inr ⟨check_ok.2 (ziB ok),hf⟩,h1,?_,?_,?_⟩
 ·unfold zbu
  by_cases he:e=0
  ·subst he
   cases hD:D.empty with
   | true=>simp [hD]
   | false=>simp [hD];exact zmA (check_ok.2 ok) (zoX (h2 rfl hD))
  ·simp [he]
 ·have hlen:(za4 D (hotP p).boxes.xs.length cs D.seens.length).length=p.boxes.xs.length:=by unfold za4;rw [zb7,List.length_replicate];rfl
  unfold zbu
  split
  ·simp
  ·split
   ·simp
   ·show (za4 D (hotP p).boxes.xs.length cs D.seens.length).length < 1000;omega
 ·unfold zbu
  split
  ·rfl
  ·split<;>rfl
end Go.Proofs.Ytleggocccaeemaa.Vm
