/- search.Solve: the solution that is put together from the parts' first ones. -/
import Derived.Test.YtmmhnfghklppiaaGreatQk26
namespace Go.Proofs.YtmmhnfghklppiaaGreat.Vm
open Go
set_option linter.unusedSimpArgs false
set_option linter.unusedVariables false
set_option maxHeartbeats 4000000
set_option maxRecDepth 4000
structure SolnIn (D:FoundD) (n0:Nat) (cs:List (List Pt)):Prop where
 n:n0<=12
 sl:D.seens.length<=12
 len:cs.length=D.seens.length
 first:∀ i (h:i < D.seens.length) (h':i < cs.length),D.seens[i].first=some cs[i]
 part:∀ s∈D.seens,s.part.length<=12/\∀ k∈s.part,k < n0
 cl:∀ i (h:i < D.seens.length) (h':i < cs.length),cs[i].length=D.seens[i].part.length
structure SolnAt (D:FoundD) (n0:Nat) (cs:List (List Pt)) (at_:Int) (E:Sl Pt):Prop where
 n:n0<=12
 sl:D.seens.length<=12
 len:cs.length=D.seens.length
 first:∀ i (h:i < D.seens.length) (h':i < cs.length),(i:Int)≠at_->D.seens[i].first=some cs[i]
 own:∀ i (h:i < D.seens.length) (h':i < cs.length),(i:Int)=at_->E=.mk false cs[i]
 part:∀ s∈D.seens,s.part.length<=12/\∀ k∈s.part,k < n0
 cl:∀ i (h:i < D.seens.length) (h':i < cs.length),cs[i].length=D.seens[i].part.length
theorem SolnIn.at {D:FoundD} {n0:Nat} {cs:List (List Pt)} (h:SolnIn D n0 cs):SolnAt D n0 cs (-1) .nil :=
 ⟨h.n,h.sl,h.len,fun i h1 h2 _=>h.first i h1 h2,fun i h1 h2 h3=>by omega,h.part,h.cl⟩
def setZ (z:List (Nat×Pt)) (l:List Pt):List Pt:=z.foldl (fun p e=>p.set e.1 e.2) l
theorem zjk {z:List (Nat×Pt)} {l:List Pt} {k:Nat} (h:k < z.length):setZ (z.take (k+1)) l=(setZ (z.take k) l).set z[k].1 z[k].2:=by
 unfold setZ;rw [<- zaN h,List.foldl_append];rfl
theorem zg5:∀ (gs:List (List Nat)) (cs:List (List Pt)) (g:List Nat) (c:List Pt) (l:List Pt),gs.length=cs.length->zbb (gs++[g]) (cs++[c]) l=setZ (g.zip c) (zbb gs cs l)
 | [],[],g,c,l,_=>rfl
 | [],_::_,_,_,_,h=>by simp at h
 | _::_,[],_,_,_,h=>by simp at h
 | a::gs,b::cs,g,c,l,h=>by
  simp only [List.cons_append,zbb];exact zg5 gs cs g c _ (by simpa using h)
def zb3 (D:FoundD) (n0:Nat) (cs:List (List Pt)) (i:Nat):List Pt:=zbb ((D.seens.map (·.part)).take i) (cs.take i) (List.replicate n0 ⟨0,0⟩)
theorem zn0 {D:FoundD} {n0:Nat} {cs:List (List Pt)} {i:Nat} (h:i < D.seens.length) (h':i < cs.length):zb3 D n0 cs (i+1)=setZ (D.seens[i].part.zip cs[i]) (zb3 D n0 cs i):=by
 unfold zb3;rw [<- zaN (xs:=D.seens.map (·.part)) (by simpa using h),<- zaN h',zg5 _ _ _ _ _ (by simp;omega),List.getElem_map]
theorem sh54:G.shared 54=false:=by decide
theorem e54 (n:Nat) (D:FoundD) (n0:Nat) (cs:List (List Pt)) (at_:Int) (E:Sl Pt) (h:SolnAt D n0 cs at_ E):zH G (n+1) 54 [.agg D.cells,.int .i64 (n0:Nat),.int .i64 at_,E.pv Pt.cells 2]=some ((Sl.mk false (zb3 D n0 cs D.seens.length)).pv Pt.cells 2):=by
 refine zy (zw _) rfl g54 rfl ?_
 obtain ⟨s,hs⟩:∃ s,s=Sl.of D.seens:=⟨_,rfl⟩
 have hsx:s.xs=D.seens:=by rw [hs,Sl.xs_of]
 have hDc:D.cells=[.bool D.empty,s.pv zcr 1]:=by rw [hs];rfl
 obtain ⟨b0,hb0⟩:∃ b,D.empty=b:=⟨_,rfl⟩
 have hsl:s.xs.length=D.seens.length:=by rw [hsx]
 have hn0:=h.n;have hsn:=h.sl;have hH:=Hide.mk h;have hsxH:=Hide.mk hsx;have hm:n0*2<=zn/\n0*16<=zn/\n0<=zn:=by simp only [zn];omega
 have hlen:Hide (∀ i,(zb3 D n0 cs i).length=n0):=⟨fun i=>by unfold zb3;rw [zdL,List.length_replicate]⟩
 rw [hDc,hb0];rw [<- hsl];clear h hs hsx hDc hb0;have hslH:=Hide.mk hsl;have hsn:s.xs.length<=12:=by omega
 clear hsl;(repeat' first|simp [*,za,c54]|(apply zb<;>intro _ h<;>try simp [-Nat.le_zero_eq] at h))
 refine zF [(10,14),(20,51)] (fun (i:Nat) env H=>env 20=.pure (.int .i64 i)/\i<=s.xs.length/\H.get 0=.cells true (zq Pt.cells (zb3 D n0 cs i))) (fun i=>s.xs.length - i) 0 ?_ ?_ ?_ ?_
 ·decide
 ·refine ⟨by simp,by omega,?_⟩
  simp [zb3,zbb,zq,Pt.cells]
 ·simp only [zA];omega
 rintro i env H ⟨g20,hi,hg⟩
 by_cases hlt:i < s.xs.length
 ·have w1:IntKind.i64.wrap ((i:Int)+1)=(i+1:Nat):=by rw [wrap64 (by omega) (by omega)];omega
  have hltI:(i:Int) < s.xs.length:=by omega
  have hiD:i < D.seens.length:=by rw [<- hslH.h];exact hlt
  have hic:i < cs.length:=by rw [hH.h.len];exact hiD
  obtain ⟨D',hD'⟩:∃ D',s.xs[i]=D':=⟨_,rfl⟩
  have hDD:D.seens[i]=D':=by rw [<- hD'];simp only [hsxH.h]
  obtain ⟨c,hcc⟩:∃ c,cs[i]=c:=⟨_,rfl⟩
  have hfi:=hH.h.first i hiD hic;have how:=hH.h.own i hiD hic;have hcl:=hH.h.cl i hiD hic;have hpt:=hH.h.part _ (List.getElem_mem hiD);have hst:=zn0 (n0:=n0) hiD hic;rw [hDD,hcc] at hfi hcl hst;rw [hcc] at how;rw [hDD] at hpt;have hse:zcr s.xs[i]=[.ptr false [(Sl.mk false (zT D'.part)).pv intF 1,.int .i64 D'.n,.slice false 4 (chunks 4 D'.part.length (D'.ends.map zW)),zW D'.first] 0]:=by
   rw [hD'];have e1:z8 D'.part=(Sl.mk false (zT D'.part)).pv intF 1:=by simp [z8,zT,Sl.pv,intF]
   rw [<- e1];rfl
  obtain ⟨cc,hccc⟩:∃ x,PV.slice false 4 (chunks 4 D'.part.length (D'.ends.map zW))=x:=⟨_,rfl⟩
  rw [hccc] at hse;obtain ⟨dn,hdn⟩:∃ x:Int,(D'.n:Int)=x:=⟨_,rfl⟩
  rw [hdn] at hse;obtain ⟨pt,hpp⟩:∃ x,D'.part=x:=⟨_,rfl⟩
  rw [hpp] at hse hcl hst hpt;have npt:=hpt.1;have hptH:=Hide.mk hpt.2;have hstH:=Hide.mk hst;have e1:(zT pt).length=pt.length:=zaq pt
  by_cases hat:(i:Int)=at_
  ·have hE:=how hat;subst hE;subst hat;obtain ⟨oo,hoo⟩:∃ x,zW D'.first=x:=⟨_,rfl⟩
   rw [hoo] at hse;clear hccc hdn hpp hD' hDD hcc hfi hst hpt how hoo;(repeat' first|simp [*,za]|(apply zb<;>intro _ h<;>try simp [-Nat.le_zero_eq] at h))
   refine zF [(13,14),(38,50)] (fun (k:Nat) env H=>env 38=.pure (.int .i64 k)/\k<=pt.length/\H.get 0=.cells true (zq Pt.cells (setZ ((pt.zip c).take k) (zb3 D n0 cs i)))) (fun k=>pt.length - k) 0 ?_ ?_ ?_ ?_
   ·decide
   ·exact ⟨by simp,by omega,by simpa [setZ] using hg⟩
   ·simp only [zA];omega
   clear hg;rintro k env2 H2 ⟨g38,hk,hg⟩;have hid:=zt hg
   by_cases hkl:k < pt.length
   ·have w2:IntKind.i64.wrap ((k:Int)+1)=(k+1:Nat):=by rw [wrap64 (by omega) (by omega)];omega
    have hkI:(k:Int) < pt.length:=by omega
    have hkc:k < c.length:=by omega
    have hkcI:(k:Int) < c.length:=by omega
    have hkx:k < (zT pt).length:=by omega
    obtain ⟨q,hq⟩:∃ q,pt[k]=q:=⟨_,rfl⟩
    have gj:(zT pt)[k]=(q:Int):=by simp [zT,hq]
    have hqn:q < n0:=hptH.h q (hq ▸ List.getElem_mem hkl);have hqnI:(q:Int) < n0:=by omega
    have hcl2:(setZ ((pt.zip c).take k) (zb3 D n0 cs i)).length=n0:=by unfold setZ;rw [zcM];exact hlen.h i
    have hkz:k < (pt.zip c).length:=by rw [List.length_zip];omega
    have hsz:=zjk (l:=zb3 D n0 cs i) hkz;rw [List.getElem_zip] at hsz;simp only [hq] at hsz;have hp:=zbW (f:=Pt.cells) (sz:=2) (l:=setZ ((pt.zip c).take k) (zb3 D n0 cs i)) (a:=c[k]) (i:=q) (fun _=>rfl) (fun _=>rfl) (by decide) (by rw [hcl2];exact hqn);rw [<- hsz] at hp;simp only [Pt.cells,List.map_cons,List.map_nil] at hp;clear hsz hq;generalize setZ ((pt.zip c).take k) (zb3 D n0 cs i)=Z at *;(repeat' first|simp [*,za,Pt.cells]|(apply zb<;>intro _ h<;>try simp [-Nat.le_zero_eq] at h));exact ⟨k+1,by omega,by omega,by omega,rfl⟩
   ·have hkl:k=pt.length:=by omega
    subst hkl;rw [List.take_of_length_le (by rw [List.length_zip];omega),<- hstH.h] at hg;(repeat' first|simp [*,za]|(apply zb<;>intro _ h<;>try simp [-Nat.le_zero_eq] at h));exact ⟨i+1,by omega,by omega,by omega,rfl⟩
  ·have hoo:zW D'.first=(Sl.mk false c).pv Pt.cells 2:=by rw [hfi hat];rfl
   rw [hoo] at hse;clear hccc hdn hpp hD' hDD hcc hfi hst hpt how hoo;(repeat' first|simp [*,za]|(apply zb<;>intro _ h<;>try simp [-Nat.le_zero_eq] at h))
   refine zF [(13,14),(38,50)] (fun (k:Nat) env H=>env 38=.pure (.int .i64 k)/\k<=pt.length/\H.get 0=.cells true (zq Pt.cells (setZ ((pt.zip c).take k) (zb3 D n0 cs i)))) (fun k=>pt.length - k) 0 ?_ ?_ ?_ ?_
   ·decide
   ·exact ⟨by simp,by omega,by simpa [setZ] using hg⟩
   ·simp only [zA];omega
   clear hg;rintro k env2 H2 ⟨g38,hk,hg⟩;have hid:=zt hg
   by_cases hkl:k < pt.length
   ·have w2:IntKind.i64.wrap ((k:Int)+1)=(k+1:Nat):=by rw [wrap64 (by omega) (by omega)];omega
    have hkI:(k:Int) < pt.length:=by omega
    have hkc:k < c.length:=by omega
    have hkcI:(k:Int) < c.length:=by omega
    have hkx:k < (zT pt).length:=by omega
    obtain ⟨q,hq⟩:∃ q,pt[k]=q:=⟨_,rfl⟩
    have gj:(zT pt)[k]=(q:Int):=by simp [zT,hq]
    have hqn:q < n0:=hptH.h q (hq ▸ List.getElem_mem hkl);have hqnI:(q:Int) < n0:=by omega
    have hcl2:(setZ ((pt.zip c).take k) (zb3 D n0 cs i)).length=n0:=by unfold setZ;rw [zcM];exact hlen.h i
    have hkz:k < (pt.zip c).length:=by rw [List.length_zip];omega
    have hsz:=zjk (l:=zb3 D n0 cs i) hkz;rw [List.getElem_zip] at hsz;simp only [hq] at hsz;have hp:=zbW (f:=Pt.cells) (sz:=2) (l:=setZ ((pt.zip c).take k) (zb3 D n0 cs i)) (a:=c[k]) (i:=q) (fun _=>rfl) (fun _=>rfl) (by decide) (by rw [hcl2];exact hqn);rw [<- hsz] at hp;simp only [Pt.cells,List.map_cons,List.map_nil] at hp;clear hsz hq;generalize setZ ((pt.zip c).take k) (zb3 D n0 cs i)=Z at *;(repeat' first|simp [*,za,Pt.cells]|(apply zb<;>intro _ h<;>try simp [-Nat.le_zero_eq] at h));exact ⟨k+1,by omega,by omega,by omega,rfl⟩
   ·have hkl:k=pt.length:=by omega
    subst hkl;rw [List.take_of_length_le (by rw [List.length_zip];omega),<- hstH.h] at hg;(repeat' first|simp [*,za]|(apply zb<;>intro _ h<;>try simp [-Nat.le_zero_eq] at h));exact ⟨i+1,by omega,by omega,by omega,rfl⟩
 ·have hil:i=s.xs.length:=by omega
  subst hil;have h1:=za6 (n:=10) (f:=Pt.cells) (sz:=2) (fun _=>rfl) hg (hlen.h _);(repeat' first|simp [*,za]|(apply zb<;>intro _ h<;>try simp [-Nat.le_zero_eq] at h));exact h1
end Go.Proofs.YtmmhnfghklppiaaGreat.Vm
